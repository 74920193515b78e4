/-
  'BusAlone': runs of its parts, checked by the kernel. Printed by program.
-/
import Derived.Test.YtiocpbfbhbgfaaaBusAloneL
namespace Go.Proofs.Ytiocpbfbhbgfaaa.busAlone
open Go.ChangeShapes Go.WideShapes Go.ChangeAt Go.RowKit Go.Sx
set_option linter.unusedVariables false
set_option linter.unusedSimpArgs false
set_option maxRecDepth 100000
set_option maxHeartbeats 1600000
theorem good_l3_121_1 : GoodP rnL cd3 (F_T22r8 ++ lem_l3_121) T_T22r8.toS aG45 aX46 aP23 := ⟨aO24, by kernel_rfl, fun _ h => dueA h⟩
theorem good_l3_121_2 : GoodP rnL cd3 (F_T22r8 ++ lem_l3_121) T_T22r8.toS aG45 aX46 aP25 := ⟨aO26, by kernel_rfl, fun _ h => dueA h⟩
theorem good_l3_121_3 : GoodP rnL cd3 (F_T22r8 ++ lem_l3_121) T_T22r8.toS aG45 aX46 aP27 := ⟨aO28, by kernel_rfl, fun _ h => dueA h⟩
theorem good_l3_121_4 : GoodP rnL cd3 (F_T22r8 ++ lem_l3_121) T_T22r8.toS aG45 aX46 aP29 := ⟨aO30, by kernel_rfl, fun _ h => dueA h⟩
theorem good_l3_121_5 : GoodP rnL cd3 (F_T22r8 ++ lem_l3_121) T_T22r8.toS aG45 aX46 aP31 := ⟨aO32, by kernel_rfl, fun _ h => dueA h⟩
theorem good_l3_122_0 : GoodP rnL cd3 (F_T22w1 ++ lem_l3_122) T_T22w1.toS aG45 aX46 aP21 := ⟨aO22, by kernel_rfl, fun _ h => dueA h⟩
theorem good_l3_122_1 : GoodP rnL cd3 (F_T22w1 ++ lem_l3_122) T_T22w1.toS aG45 aX46 aP23 := ⟨aO24, by kernel_rfl, fun _ h => dueA h⟩
theorem good_l3_122_2 : GoodP rnL cd3 (F_T22w1 ++ lem_l3_122) T_T22w1.toS aG45 aX46 aP25 := ⟨aO26, by kernel_rfl, fun _ h => dueA h⟩
theorem good_l3_122_3 : GoodP rnL cd3 (F_T22w1 ++ lem_l3_122) T_T22w1.toS aG45 aX46 aP27 := ⟨aO28, by kernel_rfl, fun _ h => dueA h⟩
theorem good_l3_122_4 : GoodP rnL cd3 (F_T22w1 ++ lem_l3_122) T_T22w1.toS aG45 aX46 aP29 := ⟨aO30, by kernel_rfl, fun _ h => dueA h⟩
theorem good_l3_122_5 : GoodP rnL cd3 (F_T22w1 ++ lem_l3_122) T_T22w1.toS aG45 aX46 aP31 := ⟨aO32, by kernel_rfl, fun _ h => dueA h⟩
theorem good_l3_123_0 : GoodP rnL cd3 (F_T22w8 ++ lem_l3_123) T_T22w8.toS aG45 aX46 aP21 := ⟨aO22, by kernel_rfl, fun _ h => dueA h⟩
theorem good_l3_123_1 : GoodP rnL cd3 (F_T22w8 ++ lem_l3_123) T_T22w8.toS aG45 aX46 aP23 := ⟨aO24, by kernel_rfl, fun _ h => dueA h⟩
theorem good_l3_123_2 : GoodP rnL cd3 (F_T22w8 ++ lem_l3_123) T_T22w8.toS aG45 aX46 aP25 := ⟨aO26, by kernel_rfl, fun _ h => dueA h⟩
theorem good_l3_123_3 : GoodP rnL cd3 (F_T22w8 ++ lem_l3_123) T_T22w8.toS aG45 aX46 aP27 := ⟨aO28, by kernel_rfl, fun _ h => dueA h⟩
theorem good_l3_123_4 : GoodP rnL cd3 (F_T22w8 ++ lem_l3_123) T_T22w8.toS aG45 aX46 aP29 := ⟨aO30, by kernel_rfl, fun _ h => dueA h⟩
theorem good_l3_123_5 : GoodP rnL cd3 (F_T22w8 ++ lem_l3_123) T_T22w8.toS aG45 aX46 aP31 := ⟨aO32, by kernel_rfl, fun _ h => dueA h⟩
theorem good_l3_124_0 : GoodP rnL cd3 (F_T23r1 ++ lem_l3_124) T_T23r1.toS aG45 aX46 aP21 := ⟨aO22, by kernel_rfl, fun _ h => dueA h⟩
theorem good_l3_124_1 : GoodP rnL cd3 (F_T23r1 ++ lem_l3_124) T_T23r1.toS aG45 aX46 aP23 := ⟨aO24, by kernel_rfl, fun _ h => dueA h⟩
theorem good_l3_124_2 : GoodP rnL cd3 (F_T23r1 ++ lem_l3_124) T_T23r1.toS aG45 aX46 aP25 := ⟨aO26, by kernel_rfl, fun _ h => dueA h⟩
theorem good_l3_124_3 : GoodP rnL cd3 (F_T23r1 ++ lem_l3_124) T_T23r1.toS aG45 aX46 aP27 := ⟨aO28, by kernel_rfl, fun _ h => dueA h⟩
theorem good_l3_124_4 : GoodP rnL cd3 (F_T23r1 ++ lem_l3_124) T_T23r1.toS aG45 aX46 aP29 := ⟨aO30, by kernel_rfl, fun _ h => dueA h⟩
theorem good_l3_124_5 : GoodP rnL cd3 (F_T23r1 ++ lem_l3_124) T_T23r1.toS aG45 aX46 aP31 := ⟨aO32, by kernel_rfl, fun _ h => dueA h⟩
theorem good_l3_125_0 : GoodP rnL cd3 (F_T23r8 ++ lem_l3_125) T_T23r8.toS aG45 aX46 aP21 := ⟨aO22, by kernel_rfl, fun _ h => dueA h⟩
theorem good_l3_125_1 : GoodP rnL cd3 (F_T23r8 ++ lem_l3_125) T_T23r8.toS aG45 aX46 aP23 := ⟨aO24, by kernel_rfl, fun _ h => dueA h⟩
theorem good_l3_125_2 : GoodP rnL cd3 (F_T23r8 ++ lem_l3_125) T_T23r8.toS aG45 aX46 aP25 := ⟨aO26, by kernel_rfl, fun _ h => dueA h⟩
theorem good_l3_125_3 : GoodP rnL cd3 (F_T23r8 ++ lem_l3_125) T_T23r8.toS aG45 aX46 aP27 := ⟨aO28, by kernel_rfl, fun _ h => dueA h⟩
theorem good_l3_125_4 : GoodP rnL cd3 (F_T23r8 ++ lem_l3_125) T_T23r8.toS aG45 aX46 aP29 := ⟨aO30, by kernel_rfl, fun _ h => dueA h⟩
end Go.Proofs.Ytiocpbfbhbgfaaa.busAlone
