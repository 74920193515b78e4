/-
  'BusAlone': runs of its parts, checked by the kernel. Printed by program.
-/
import Derived.Test.YtiocpbfbhbgfaaaBusAloneL
namespace Go.Proofs.Ytiocpbfbhbgfaaa.busAlone
open Go.ChangeShapes Go.WideShapes Go.ChangeAt Go.RowKit Go.Sx
set_option linter.unusedVariables false
set_option linter.unusedSimpArgs false
set_option maxRecDepth 100000
set_option maxHeartbeats 1600000
theorem good_l1_54_5 : GoodP rnL cd3 (F_T21w8n ++ lem_l1_54) T_T21w8n.toS aG19 aX20 aP31 := ⟨aO32, by kernel_rfl, fun _ h => dueAn h⟩
theorem good_l1_55_0 : GoodP rnL cd3 (F_T22r1n ++ lem_l1_55) T_T22r1n.toS aG19 aX20 aP21 := ⟨aO22, by kernel_rfl, fun _ h => dueAn h⟩
theorem good_l1_55_1 : GoodP rnL cd3 (F_T22r1n ++ lem_l1_55) T_T22r1n.toS aG19 aX20 aP23 := ⟨aO24, by kernel_rfl, fun _ h => dueAn h⟩
theorem good_l1_55_2 : GoodP rnL cd3 (F_T22r1n ++ lem_l1_55) T_T22r1n.toS aG19 aX20 aP25 := ⟨aO26, by kernel_rfl, fun _ h => dueAn h⟩
theorem good_l1_55_3 : GoodP rnL cd3 (F_T22r1n ++ lem_l1_55) T_T22r1n.toS aG19 aX20 aP27 := ⟨aO28, by kernel_rfl, fun _ h => dueAn h⟩
theorem good_l1_55_4 : GoodP rnL cd3 (F_T22r1n ++ lem_l1_55) T_T22r1n.toS aG19 aX20 aP29 := ⟨aO30, by kernel_rfl, fun _ h => dueAn h⟩
theorem good_l1_55_5 : GoodP rnL cd3 (F_T22r1n ++ lem_l1_55) T_T22r1n.toS aG19 aX20 aP31 := ⟨aO32, by kernel_rfl, fun _ h => dueAn h⟩
theorem good_l1_56_0 : GoodP rnL cd3 (F_T22r8n ++ lem_l1_56) T_T22r8n.toS aG19 aX20 aP21 := ⟨aO22, by kernel_rfl, fun _ h => dueAn h⟩
theorem good_l1_56_1 : GoodP rnL cd3 (F_T22r8n ++ lem_l1_56) T_T22r8n.toS aG19 aX20 aP23 := ⟨aO24, by kernel_rfl, fun _ h => dueAn h⟩
theorem good_l1_56_2 : GoodP rnL cd3 (F_T22r8n ++ lem_l1_56) T_T22r8n.toS aG19 aX20 aP25 := ⟨aO26, by kernel_rfl, fun _ h => dueAn h⟩
theorem good_l1_56_3 : GoodP rnL cd3 (F_T22r8n ++ lem_l1_56) T_T22r8n.toS aG19 aX20 aP27 := ⟨aO28, by kernel_rfl, fun _ h => dueAn h⟩
theorem good_l1_56_4 : GoodP rnL cd3 (F_T22r8n ++ lem_l1_56) T_T22r8n.toS aG19 aX20 aP29 := ⟨aO30, by kernel_rfl, fun _ h => dueAn h⟩
theorem good_l1_56_5 : GoodP rnL cd3 (F_T22r8n ++ lem_l1_56) T_T22r8n.toS aG19 aX20 aP31 := ⟨aO32, by kernel_rfl, fun _ h => dueAn h⟩
theorem good_l1_57_0 : GoodP rnL cd3 (F_T22w1n ++ lem_l1_57) T_T22w1n.toS aG19 aX20 aP21 := ⟨aO22, by kernel_rfl, fun _ h => dueAn h⟩
theorem good_l1_57_1 : GoodP rnL cd3 (F_T22w1n ++ lem_l1_57) T_T22w1n.toS aG19 aX20 aP23 := ⟨aO24, by kernel_rfl, fun _ h => dueAn h⟩
theorem good_l1_57_2 : GoodP rnL cd3 (F_T22w1n ++ lem_l1_57) T_T22w1n.toS aG19 aX20 aP25 := ⟨aO26, by kernel_rfl, fun _ h => dueAn h⟩
theorem good_l1_57_3 : GoodP rnL cd3 (F_T22w1n ++ lem_l1_57) T_T22w1n.toS aG19 aX20 aP27 := ⟨aO28, by kernel_rfl, fun _ h => dueAn h⟩
theorem good_l1_57_4 : GoodP rnL cd3 (F_T22w1n ++ lem_l1_57) T_T22w1n.toS aG19 aX20 aP29 := ⟨aO30, by kernel_rfl, fun _ h => dueAn h⟩
theorem good_l1_57_5 : GoodP rnL cd3 (F_T22w1n ++ lem_l1_57) T_T22w1n.toS aG19 aX20 aP31 := ⟨aO32, by kernel_rfl, fun _ h => dueAn h⟩
theorem good_l1_58_0 : GoodP rnL cd3 (F_T22w8n ++ lem_l1_58) T_T22w8n.toS aG19 aX20 aP21 := ⟨aO22, by kernel_rfl, fun _ h => dueAn h⟩
theorem good_l1_58_1 : GoodP rnL cd3 (F_T22w8n ++ lem_l1_58) T_T22w8n.toS aG19 aX20 aP23 := ⟨aO24, by kernel_rfl, fun _ h => dueAn h⟩
theorem good_l1_58_2 : GoodP rnL cd3 (F_T22w8n ++ lem_l1_58) T_T22w8n.toS aG19 aX20 aP25 := ⟨aO26, by kernel_rfl, fun _ h => dueAn h⟩
theorem good_l1_58_3 : GoodP rnL cd3 (F_T22w8n ++ lem_l1_58) T_T22w8n.toS aG19 aX20 aP27 := ⟨aO28, by kernel_rfl, fun _ h => dueAn h⟩
theorem good_l1_58_4 : GoodP rnL cd3 (F_T22w8n ++ lem_l1_58) T_T22w8n.toS aG19 aX20 aP29 := ⟨aO30, by kernel_rfl, fun _ h => dueAn h⟩
theorem good_l1_58_5 : GoodP rnL cd3 (F_T22w8n ++ lem_l1_58) T_T22w8n.toS aG19 aX20 aP31 := ⟨aO32, by kernel_rfl, fun _ h => dueAn h⟩
theorem good_l1_59_0 : GoodP rnL cd3 (F_T23r1n ++ lem_l1_59) T_T23r1n.toS aG19 aX20 aP21 := ⟨aO22, by kernel_rfl, fun _ h => dueAn h⟩
theorem good_l1_59_1 : GoodP rnL cd3 (F_T23r1n ++ lem_l1_59) T_T23r1n.toS aG19 aX20 aP23 := ⟨aO24, by kernel_rfl, fun _ h => dueAn h⟩
theorem good_l1_59_2 : GoodP rnL cd3 (F_T23r1n ++ lem_l1_59) T_T23r1n.toS aG19 aX20 aP25 := ⟨aO26, by kernel_rfl, fun _ h => dueAn h⟩
end Go.Proofs.Ytiocpbfbhbgfaaa.busAlone
