/-
  'BusAlone': runs of its parts, checked by the kernel. Printed by program.
-/
import Derived.Test.YtiocpbfbhbgfaaaBusAloneL
namespace Go.Proofs.Ytiocpbfbhbgfaaa.busAlone
open Go.ChangeShapes Go.WideShapes Go.ChangeAt Go.RowKit Go.Sx
set_option linter.unusedVariables false
set_option linter.unusedSimpArgs false
set_option maxRecDepth 100000
set_option maxHeartbeats 1600000
theorem good_l3_107_0 : GoodP rnL cd3 (F_T12w8 ++ lem_l3_107) T_T12w8.toS aG45 aX46 aP21 := ⟨aO22, by kernel_rfl, fun _ h => dueA h⟩
theorem good_l3_107_1 : GoodP rnL cd3 (F_T12w8 ++ lem_l3_107) T_T12w8.toS aG45 aX46 aP23 := ⟨aO24, by kernel_rfl, fun _ h => dueA h⟩
theorem good_l3_107_2 : GoodP rnL cd3 (F_T12w8 ++ lem_l3_107) T_T12w8.toS aG45 aX46 aP25 := ⟨aO26, by kernel_rfl, fun _ h => dueA h⟩
theorem good_l3_107_3 : GoodP rnL cd3 (F_T12w8 ++ lem_l3_107) T_T12w8.toS aG45 aX46 aP27 := ⟨aO28, by kernel_rfl, fun _ h => dueA h⟩
theorem good_l3_107_4 : GoodP rnL cd3 (F_T12w8 ++ lem_l3_107) T_T12w8.toS aG45 aX46 aP29 := ⟨aO30, by kernel_rfl, fun _ h => dueA h⟩
theorem good_l3_107_5 : GoodP rnL cd3 (F_T12w8 ++ lem_l3_107) T_T12w8.toS aG45 aX46 aP31 := ⟨aO32, by kernel_rfl, fun _ h => dueA h⟩
theorem good_l3_108_0 : GoodP rnL cd3 (F_T13r1 ++ lem_l3_108) T_T13r1.toS aG45 aX46 aP21 := ⟨aO22, by kernel_rfl, fun _ h => dueA h⟩
theorem good_l3_108_1 : GoodP rnL cd3 (F_T13r1 ++ lem_l3_108) T_T13r1.toS aG45 aX46 aP23 := ⟨aO24, by kernel_rfl, fun _ h => dueA h⟩
theorem good_l3_108_2 : GoodP rnL cd3 (F_T13r1 ++ lem_l3_108) T_T13r1.toS aG45 aX46 aP25 := ⟨aO26, by kernel_rfl, fun _ h => dueA h⟩
theorem good_l3_108_3 : GoodP rnL cd3 (F_T13r1 ++ lem_l3_108) T_T13r1.toS aG45 aX46 aP27 := ⟨aO28, by kernel_rfl, fun _ h => dueA h⟩
theorem good_l3_108_4 : GoodP rnL cd3 (F_T13r1 ++ lem_l3_108) T_T13r1.toS aG45 aX46 aP29 := ⟨aO30, by kernel_rfl, fun _ h => dueA h⟩
theorem good_l3_108_5 : GoodP rnL cd3 (F_T13r1 ++ lem_l3_108) T_T13r1.toS aG45 aX46 aP31 := ⟨aO32, by kernel_rfl, fun _ h => dueA h⟩
theorem good_l3_109_0 : GoodP rnL cd3 (F_T13r8 ++ lem_l3_109) T_T13r8.toS aG45 aX46 aP21 := ⟨aO22, by kernel_rfl, fun _ h => dueA h⟩
theorem good_l3_109_1 : GoodP rnL cd3 (F_T13r8 ++ lem_l3_109) T_T13r8.toS aG45 aX46 aP23 := ⟨aO24, by kernel_rfl, fun _ h => dueA h⟩
theorem good_l3_109_2 : GoodP rnL cd3 (F_T13r8 ++ lem_l3_109) T_T13r8.toS aG45 aX46 aP25 := ⟨aO26, by kernel_rfl, fun _ h => dueA h⟩
theorem good_l3_109_3 : GoodP rnL cd3 (F_T13r8 ++ lem_l3_109) T_T13r8.toS aG45 aX46 aP27 := ⟨aO28, by kernel_rfl, fun _ h => dueA h⟩
theorem good_l3_109_4 : GoodP rnL cd3 (F_T13r8 ++ lem_l3_109) T_T13r8.toS aG45 aX46 aP29 := ⟨aO30, by kernel_rfl, fun _ h => dueA h⟩
theorem good_l3_109_5 : GoodP rnL cd3 (F_T13r8 ++ lem_l3_109) T_T13r8.toS aG45 aX46 aP31 := ⟨aO32, by kernel_rfl, fun _ h => dueA h⟩
theorem good_l3_110_0 : GoodP rnL cd3 (F_T13w1 ++ lem_l3_110) T_T13w1.toS aG45 aX46 aP21 := ⟨aO22, by kernel_rfl, fun _ h => dueA h⟩
theorem good_l3_110_1 : GoodP rnL cd3 (F_T13w1 ++ lem_l3_110) T_T13w1.toS aG45 aX46 aP23 := ⟨aO24, by kernel_rfl, fun _ h => dueA h⟩
theorem good_l3_110_2 : GoodP rnL cd3 (F_T13w1 ++ lem_l3_110) T_T13w1.toS aG45 aX46 aP25 := ⟨aO26, by kernel_rfl, fun _ h => dueA h⟩
theorem good_l3_110_3 : GoodP rnL cd3 (F_T13w1 ++ lem_l3_110) T_T13w1.toS aG45 aX46 aP27 := ⟨aO28, by kernel_rfl, fun _ h => dueA h⟩
theorem good_l3_110_4 : GoodP rnL cd3 (F_T13w1 ++ lem_l3_110) T_T13w1.toS aG45 aX46 aP29 := ⟨aO30, by kernel_rfl, fun _ h => dueA h⟩
theorem good_l3_110_5 : GoodP rnL cd3 (F_T13w1 ++ lem_l3_110) T_T13w1.toS aG45 aX46 aP31 := ⟨aO32, by kernel_rfl, fun _ h => dueA h⟩
theorem good_l3_111_0 : GoodP rnL cd3 (F_T13w8 ++ lem_l3_111) T_T13w8.toS aG45 aX46 aP21 := ⟨aO22, by kernel_rfl, fun _ h => dueA h⟩
theorem good_l3_111_1 : GoodP rnL cd3 (F_T13w8 ++ lem_l3_111) T_T13w8.toS aG45 aX46 aP23 := ⟨aO24, by kernel_rfl, fun _ h => dueA h⟩
theorem good_l3_111_2 : GoodP rnL cd3 (F_T13w8 ++ lem_l3_111) T_T13w8.toS aG45 aX46 aP25 := ⟨aO26, by kernel_rfl, fun _ h => dueA h⟩
theorem good_l3_111_3 : GoodP rnL cd3 (F_T13w8 ++ lem_l3_111) T_T13w8.toS aG45 aX46 aP27 := ⟨aO28, by kernel_rfl, fun _ h => dueA h⟩
theorem good_l3_111_4 : GoodP rnL cd3 (F_T13w8 ++ lem_l3_111) T_T13w8.toS aG45 aX46 aP29 := ⟨aO30, by kernel_rfl, fun _ h => dueA h⟩
end Go.Proofs.Ytiocpbfbhbgfaaa.busAlone
