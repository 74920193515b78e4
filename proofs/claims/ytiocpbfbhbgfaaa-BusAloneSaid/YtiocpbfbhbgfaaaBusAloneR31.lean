/-
  'BusAlone': runs of its parts, checked by the kernel. Printed by program.
-/
import Derived.Test.YtiocpbfbhbgfaaaBusAloneL
namespace Go.Proofs.Ytiocpbfbhbgfaaa.busAlone
open Go.ChangeShapes Go.WideShapes Go.ChangeAt Go.RowKit Go.Sx
set_option linter.unusedVariables false
set_option linter.unusedSimpArgs false
set_option maxRecDepth 100000
set_option maxHeartbeats 1600000
theorem good_l3_102_1 : GoodP rnL cd3 (F_T11w1 ++ lem_l3_102) T_T11w1.toS aG45 aX46 aP23 := ⟨aO24, by kernel_rfl, fun _ h => dueA h⟩
theorem good_l3_102_2 : GoodP rnL cd3 (F_T11w1 ++ lem_l3_102) T_T11w1.toS aG45 aX46 aP25 := ⟨aO26, by kernel_rfl, fun _ h => dueA h⟩
theorem good_l3_102_3 : GoodP rnL cd3 (F_T11w1 ++ lem_l3_102) T_T11w1.toS aG45 aX46 aP27 := ⟨aO28, by kernel_rfl, fun _ h => dueA h⟩
theorem good_l3_102_4 : GoodP rnL cd3 (F_T11w1 ++ lem_l3_102) T_T11w1.toS aG45 aX46 aP29 := ⟨aO30, by kernel_rfl, fun _ h => dueA h⟩
theorem good_l3_102_5 : GoodP rnL cd3 (F_T11w1 ++ lem_l3_102) T_T11w1.toS aG45 aX46 aP31 := ⟨aO32, by kernel_rfl, fun _ h => dueA h⟩
theorem good_l3_103_0 : GoodP rnL cd3 (F_T11w8 ++ lem_l3_103) T_T11w8.toS aG45 aX46 aP21 := ⟨aO22, by kernel_rfl, fun _ h => dueA h⟩
theorem good_l3_103_1 : GoodP rnL cd3 (F_T11w8 ++ lem_l3_103) T_T11w8.toS aG45 aX46 aP23 := ⟨aO24, by kernel_rfl, fun _ h => dueA h⟩
theorem good_l3_103_2 : GoodP rnL cd3 (F_T11w8 ++ lem_l3_103) T_T11w8.toS aG45 aX46 aP25 := ⟨aO26, by kernel_rfl, fun _ h => dueA h⟩
theorem good_l3_103_3 : GoodP rnL cd3 (F_T11w8 ++ lem_l3_103) T_T11w8.toS aG45 aX46 aP27 := ⟨aO28, by kernel_rfl, fun _ h => dueA h⟩
theorem good_l3_103_4 : GoodP rnL cd3 (F_T11w8 ++ lem_l3_103) T_T11w8.toS aG45 aX46 aP29 := ⟨aO30, by kernel_rfl, fun _ h => dueA h⟩
theorem good_l3_103_5 : GoodP rnL cd3 (F_T11w8 ++ lem_l3_103) T_T11w8.toS aG45 aX46 aP31 := ⟨aO32, by kernel_rfl, fun _ h => dueA h⟩
theorem good_l3_104_0 : GoodP rnL cd3 (F_T12r1 ++ lem_l3_104) T_T12r1.toS aG45 aX46 aP21 := ⟨aO22, by kernel_rfl, fun _ h => dueA h⟩
theorem good_l3_104_1 : GoodP rnL cd3 (F_T12r1 ++ lem_l3_104) T_T12r1.toS aG45 aX46 aP23 := ⟨aO24, by kernel_rfl, fun _ h => dueA h⟩
theorem good_l3_104_2 : GoodP rnL cd3 (F_T12r1 ++ lem_l3_104) T_T12r1.toS aG45 aX46 aP25 := ⟨aO26, by kernel_rfl, fun _ h => dueA h⟩
theorem good_l3_104_3 : GoodP rnL cd3 (F_T12r1 ++ lem_l3_104) T_T12r1.toS aG45 aX46 aP27 := ⟨aO28, by kernel_rfl, fun _ h => dueA h⟩
theorem good_l3_104_4 : GoodP rnL cd3 (F_T12r1 ++ lem_l3_104) T_T12r1.toS aG45 aX46 aP29 := ⟨aO30, by kernel_rfl, fun _ h => dueA h⟩
theorem good_l3_104_5 : GoodP rnL cd3 (F_T12r1 ++ lem_l3_104) T_T12r1.toS aG45 aX46 aP31 := ⟨aO32, by kernel_rfl, fun _ h => dueA h⟩
theorem good_l3_105_0 : GoodP rnL cd3 (F_T12r8 ++ lem_l3_105) T_T12r8.toS aG45 aX46 aP21 := ⟨aO22, by kernel_rfl, fun _ h => dueA h⟩
theorem good_l3_105_1 : GoodP rnL cd3 (F_T12r8 ++ lem_l3_105) T_T12r8.toS aG45 aX46 aP23 := ⟨aO24, by kernel_rfl, fun _ h => dueA h⟩
theorem good_l3_105_2 : GoodP rnL cd3 (F_T12r8 ++ lem_l3_105) T_T12r8.toS aG45 aX46 aP25 := ⟨aO26, by kernel_rfl, fun _ h => dueA h⟩
theorem good_l3_105_3 : GoodP rnL cd3 (F_T12r8 ++ lem_l3_105) T_T12r8.toS aG45 aX46 aP27 := ⟨aO28, by kernel_rfl, fun _ h => dueA h⟩
theorem good_l3_105_4 : GoodP rnL cd3 (F_T12r8 ++ lem_l3_105) T_T12r8.toS aG45 aX46 aP29 := ⟨aO30, by kernel_rfl, fun _ h => dueA h⟩
theorem good_l3_105_5 : GoodP rnL cd3 (F_T12r8 ++ lem_l3_105) T_T12r8.toS aG45 aX46 aP31 := ⟨aO32, by kernel_rfl, fun _ h => dueA h⟩
theorem good_l3_106_0 : GoodP rnL cd3 (F_T12w1 ++ lem_l3_106) T_T12w1.toS aG45 aX46 aP21 := ⟨aO22, by kernel_rfl, fun _ h => dueA h⟩
theorem good_l3_106_1 : GoodP rnL cd3 (F_T12w1 ++ lem_l3_106) T_T12w1.toS aG45 aX46 aP23 := ⟨aO24, by kernel_rfl, fun _ h => dueA h⟩
theorem good_l3_106_2 : GoodP rnL cd3 (F_T12w1 ++ lem_l3_106) T_T12w1.toS aG45 aX46 aP25 := ⟨aO26, by kernel_rfl, fun _ h => dueA h⟩
theorem good_l3_106_3 : GoodP rnL cd3 (F_T12w1 ++ lem_l3_106) T_T12w1.toS aG45 aX46 aP27 := ⟨aO28, by kernel_rfl, fun _ h => dueA h⟩
theorem good_l3_106_4 : GoodP rnL cd3 (F_T12w1 ++ lem_l3_106) T_T12w1.toS aG45 aX46 aP29 := ⟨aO30, by kernel_rfl, fun _ h => dueA h⟩
theorem good_l3_106_5 : GoodP rnL cd3 (F_T12w1 ++ lem_l3_106) T_T12w1.toS aG45 aX46 aP31 := ⟨aO32, by kernel_rfl, fun _ h => dueA h⟩
end Go.Proofs.Ytiocpbfbhbgfaaa.busAlone
