/-
  'BusAlone': runs of its parts, checked by the kernel. Printed by program.
-/
import Derived.Test.YtiocpbfbhbgfaaaBusAloneL
namespace Go.Proofs.Ytiocpbfbhbgfaaa.busAlone
open Go.ChangeShapes Go.WideShapes Go.ChangeAt Go.RowKit Go.Sx
set_option linter.unusedVariables false
set_option linter.unusedSimpArgs false
set_option maxRecDepth 100000
set_option maxHeartbeats 1600000
theorem good_l3_97_3 : GoodP rnL cd3 (F_T10r8 ++ lem_l3_97) T_T10r8.toS aG45 aX46 aP27 := ⟨aO28, by kernel_rfl, fun _ h => dueA h⟩
theorem good_l3_97_4 : GoodP rnL cd3 (F_T10r8 ++ lem_l3_97) T_T10r8.toS aG45 aX46 aP29 := ⟨aO30, by kernel_rfl, fun _ h => dueA h⟩
theorem good_l3_97_5 : GoodP rnL cd3 (F_T10r8 ++ lem_l3_97) T_T10r8.toS aG45 aX46 aP31 := ⟨aO32, by kernel_rfl, fun _ h => dueA h⟩
theorem good_l3_98_0 : GoodP rnL cd3 (F_T10w1 ++ lem_l3_98) T_T10w1.toS aG45 aX46 aP21 := ⟨aO22, by kernel_rfl, fun _ h => dueA h⟩
theorem good_l3_98_1 : GoodP rnL cd3 (F_T10w1 ++ lem_l3_98) T_T10w1.toS aG45 aX46 aP23 := ⟨aO24, by kernel_rfl, fun _ h => dueA h⟩
theorem good_l3_98_2 : GoodP rnL cd3 (F_T10w1 ++ lem_l3_98) T_T10w1.toS aG45 aX46 aP25 := ⟨aO26, by kernel_rfl, fun _ h => dueA h⟩
theorem good_l3_98_3 : GoodP rnL cd3 (F_T10w1 ++ lem_l3_98) T_T10w1.toS aG45 aX46 aP27 := ⟨aO28, by kernel_rfl, fun _ h => dueA h⟩
theorem good_l3_98_4 : GoodP rnL cd3 (F_T10w1 ++ lem_l3_98) T_T10w1.toS aG45 aX46 aP29 := ⟨aO30, by kernel_rfl, fun _ h => dueA h⟩
theorem good_l3_98_5 : GoodP rnL cd3 (F_T10w1 ++ lem_l3_98) T_T10w1.toS aG45 aX46 aP31 := ⟨aO32, by kernel_rfl, fun _ h => dueA h⟩
theorem good_l3_99_0 : GoodP rnL cd3 (F_T10w8 ++ lem_l3_99) T_T10w8.toS aG45 aX46 aP21 := ⟨aO22, by kernel_rfl, fun _ h => dueA h⟩
theorem good_l3_99_1 : GoodP rnL cd3 (F_T10w8 ++ lem_l3_99) T_T10w8.toS aG45 aX46 aP23 := ⟨aO24, by kernel_rfl, fun _ h => dueA h⟩
theorem good_l3_99_2 : GoodP rnL cd3 (F_T10w8 ++ lem_l3_99) T_T10w8.toS aG45 aX46 aP25 := ⟨aO26, by kernel_rfl, fun _ h => dueA h⟩
theorem good_l3_99_3 : GoodP rnL cd3 (F_T10w8 ++ lem_l3_99) T_T10w8.toS aG45 aX46 aP27 := ⟨aO28, by kernel_rfl, fun _ h => dueA h⟩
theorem good_l3_99_4 : GoodP rnL cd3 (F_T10w8 ++ lem_l3_99) T_T10w8.toS aG45 aX46 aP29 := ⟨aO30, by kernel_rfl, fun _ h => dueA h⟩
theorem good_l3_99_5 : GoodP rnL cd3 (F_T10w8 ++ lem_l3_99) T_T10w8.toS aG45 aX46 aP31 := ⟨aO32, by kernel_rfl, fun _ h => dueA h⟩
theorem good_l3_100_0 : GoodP rnL cd3 (F_T11r1 ++ lem_l3_100) T_T11r1.toS aG45 aX46 aP21 := ⟨aO22, by kernel_rfl, fun _ h => dueA h⟩
theorem good_l3_100_1 : GoodP rnL cd3 (F_T11r1 ++ lem_l3_100) T_T11r1.toS aG45 aX46 aP23 := ⟨aO24, by kernel_rfl, fun _ h => dueA h⟩
theorem good_l3_100_2 : GoodP rnL cd3 (F_T11r1 ++ lem_l3_100) T_T11r1.toS aG45 aX46 aP25 := ⟨aO26, by kernel_rfl, fun _ h => dueA h⟩
theorem good_l3_100_3 : GoodP rnL cd3 (F_T11r1 ++ lem_l3_100) T_T11r1.toS aG45 aX46 aP27 := ⟨aO28, by kernel_rfl, fun _ h => dueA h⟩
theorem good_l3_100_4 : GoodP rnL cd3 (F_T11r1 ++ lem_l3_100) T_T11r1.toS aG45 aX46 aP29 := ⟨aO30, by kernel_rfl, fun _ h => dueA h⟩
theorem good_l3_100_5 : GoodP rnL cd3 (F_T11r1 ++ lem_l3_100) T_T11r1.toS aG45 aX46 aP31 := ⟨aO32, by kernel_rfl, fun _ h => dueA h⟩
theorem good_l3_101_0 : GoodP rnL cd3 (F_T11r8 ++ lem_l3_101) T_T11r8.toS aG45 aX46 aP21 := ⟨aO22, by kernel_rfl, fun _ h => dueA h⟩
theorem good_l3_101_1 : GoodP rnL cd3 (F_T11r8 ++ lem_l3_101) T_T11r8.toS aG45 aX46 aP23 := ⟨aO24, by kernel_rfl, fun _ h => dueA h⟩
theorem good_l3_101_2 : GoodP rnL cd3 (F_T11r8 ++ lem_l3_101) T_T11r8.toS aG45 aX46 aP25 := ⟨aO26, by kernel_rfl, fun _ h => dueA h⟩
theorem good_l3_101_3 : GoodP rnL cd3 (F_T11r8 ++ lem_l3_101) T_T11r8.toS aG45 aX46 aP27 := ⟨aO28, by kernel_rfl, fun _ h => dueA h⟩
theorem good_l3_101_4 : GoodP rnL cd3 (F_T11r8 ++ lem_l3_101) T_T11r8.toS aG45 aX46 aP29 := ⟨aO30, by kernel_rfl, fun _ h => dueA h⟩
theorem good_l3_101_5 : GoodP rnL cd3 (F_T11r8 ++ lem_l3_101) T_T11r8.toS aG45 aX46 aP31 := ⟨aO32, by kernel_rfl, fun _ h => dueA h⟩
theorem good_l3_102_0 : GoodP rnL cd3 (F_T11w1 ++ lem_l3_102) T_T11w1.toS aG45 aX46 aP21 := ⟨aO22, by kernel_rfl, fun _ h => dueA h⟩
end Go.Proofs.Ytiocpbfbhbgfaaa.busAlone
