/-
  'BusAlone': runs of its parts, checked by the kernel. Printed by program.
-/
import Derived.Test.YtiocpbfbhbgfaaaBusAloneL
namespace Go.Proofs.Ytiocpbfbhbgfaaa.busAlone
open Go.ChangeShapes Go.WideShapes Go.ChangeAt Go.RowKit Go.Sx
set_option linter.unusedVariables false
set_option linter.unusedSimpArgs false
set_option maxRecDepth 100000
set_option maxHeartbeats 1600000
theorem good_l1_25_1 : GoodP rnL cd3 (F_T02w1n ++ lem_l1_25) T_T02w1n.toS aG19 aX20 aP23 := ⟨aO24, by kernel_rfl, fun _ h => dueAn h⟩
theorem good_l1_25_2 : GoodP rnL cd3 (F_T02w1n ++ lem_l1_25) T_T02w1n.toS aG19 aX20 aP25 := ⟨aO26, by kernel_rfl, fun _ h => dueAn h⟩
theorem good_l1_25_3 : GoodP rnL cd3 (F_T02w1n ++ lem_l1_25) T_T02w1n.toS aG19 aX20 aP27 := ⟨aO28, by kernel_rfl, fun _ h => dueAn h⟩
theorem good_l1_25_4 : GoodP rnL cd3 (F_T02w1n ++ lem_l1_25) T_T02w1n.toS aG19 aX20 aP29 := ⟨aO30, by kernel_rfl, fun _ h => dueAn h⟩
theorem good_l1_25_5 : GoodP rnL cd3 (F_T02w1n ++ lem_l1_25) T_T02w1n.toS aG19 aX20 aP31 := ⟨aO32, by kernel_rfl, fun _ h => dueAn h⟩
theorem good_l1_26_0 : GoodP rnL cd3 (F_T02w8n ++ lem_l1_26) T_T02w8n.toS aG19 aX20 aP21 := ⟨aO22, by kernel_rfl, fun _ h => dueAn h⟩
theorem good_l1_26_1 : GoodP rnL cd3 (F_T02w8n ++ lem_l1_26) T_T02w8n.toS aG19 aX20 aP23 := ⟨aO24, by kernel_rfl, fun _ h => dueAn h⟩
theorem good_l1_26_2 : GoodP rnL cd3 (F_T02w8n ++ lem_l1_26) T_T02w8n.toS aG19 aX20 aP25 := ⟨aO26, by kernel_rfl, fun _ h => dueAn h⟩
theorem good_l1_26_3 : GoodP rnL cd3 (F_T02w8n ++ lem_l1_26) T_T02w8n.toS aG19 aX20 aP27 := ⟨aO28, by kernel_rfl, fun _ h => dueAn h⟩
theorem good_l1_26_4 : GoodP rnL cd3 (F_T02w8n ++ lem_l1_26) T_T02w8n.toS aG19 aX20 aP29 := ⟨aO30, by kernel_rfl, fun _ h => dueAn h⟩
theorem good_l1_26_5 : GoodP rnL cd3 (F_T02w8n ++ lem_l1_26) T_T02w8n.toS aG19 aX20 aP31 := ⟨aO32, by kernel_rfl, fun _ h => dueAn h⟩
theorem good_l1_27_0 : GoodP rnL cd3 (F_T03r1n ++ lem_l1_27) T_T03r1n.toS aG19 aX20 aP21 := ⟨aO22, by kernel_rfl, fun _ h => dueAn h⟩
theorem good_l1_27_1 : GoodP rnL cd3 (F_T03r1n ++ lem_l1_27) T_T03r1n.toS aG19 aX20 aP23 := ⟨aO24, by kernel_rfl, fun _ h => dueAn h⟩
theorem good_l1_27_2 : GoodP rnL cd3 (F_T03r1n ++ lem_l1_27) T_T03r1n.toS aG19 aX20 aP25 := ⟨aO26, by kernel_rfl, fun _ h => dueAn h⟩
theorem good_l1_27_3 : GoodP rnL cd3 (F_T03r1n ++ lem_l1_27) T_T03r1n.toS aG19 aX20 aP27 := ⟨aO28, by kernel_rfl, fun _ h => dueAn h⟩
theorem good_l1_27_4 : GoodP rnL cd3 (F_T03r1n ++ lem_l1_27) T_T03r1n.toS aG19 aX20 aP29 := ⟨aO30, by kernel_rfl, fun _ h => dueAn h⟩
theorem good_l1_27_5 : GoodP rnL cd3 (F_T03r1n ++ lem_l1_27) T_T03r1n.toS aG19 aX20 aP31 := ⟨aO32, by kernel_rfl, fun _ h => dueAn h⟩
theorem good_l1_28_0 : GoodP rnL cd3 (F_T03r8n ++ lem_l1_28) T_T03r8n.toS aG19 aX20 aP21 := ⟨aO22, by kernel_rfl, fun _ h => dueAn h⟩
theorem good_l1_28_1 : GoodP rnL cd3 (F_T03r8n ++ lem_l1_28) T_T03r8n.toS aG19 aX20 aP23 := ⟨aO24, by kernel_rfl, fun _ h => dueAn h⟩
theorem good_l1_28_2 : GoodP rnL cd3 (F_T03r8n ++ lem_l1_28) T_T03r8n.toS aG19 aX20 aP25 := ⟨aO26, by kernel_rfl, fun _ h => dueAn h⟩
theorem good_l1_28_3 : GoodP rnL cd3 (F_T03r8n ++ lem_l1_28) T_T03r8n.toS aG19 aX20 aP27 := ⟨aO28, by kernel_rfl, fun _ h => dueAn h⟩
theorem good_l1_28_4 : GoodP rnL cd3 (F_T03r8n ++ lem_l1_28) T_T03r8n.toS aG19 aX20 aP29 := ⟨aO30, by kernel_rfl, fun _ h => dueAn h⟩
theorem good_l1_28_5 : GoodP rnL cd3 (F_T03r8n ++ lem_l1_28) T_T03r8n.toS aG19 aX20 aP31 := ⟨aO32, by kernel_rfl, fun _ h => dueAn h⟩
theorem good_l1_29_0 : GoodP rnL cd3 (F_T03w1n ++ lem_l1_29) T_T03w1n.toS aG19 aX20 aP21 := ⟨aO22, by kernel_rfl, fun _ h => dueAn h⟩
theorem good_l1_29_1 : GoodP rnL cd3 (F_T03w1n ++ lem_l1_29) T_T03w1n.toS aG19 aX20 aP23 := ⟨aO24, by kernel_rfl, fun _ h => dueAn h⟩
theorem good_l1_29_2 : GoodP rnL cd3 (F_T03w1n ++ lem_l1_29) T_T03w1n.toS aG19 aX20 aP25 := ⟨aO26, by kernel_rfl, fun _ h => dueAn h⟩
theorem good_l1_29_3 : GoodP rnL cd3 (F_T03w1n ++ lem_l1_29) T_T03w1n.toS aG19 aX20 aP27 := ⟨aO28, by kernel_rfl, fun _ h => dueAn h⟩
theorem good_l1_29_4 : GoodP rnL cd3 (F_T03w1n ++ lem_l1_29) T_T03w1n.toS aG19 aX20 aP29 := ⟨aO30, by kernel_rfl, fun _ h => dueAn h⟩
theorem good_l1_29_5 : GoodP rnL cd3 (F_T03w1n ++ lem_l1_29) T_T03w1n.toS aG19 aX20 aP31 := ⟨aO32, by kernel_rfl, fun _ h => dueAn h⟩
theorem good_l1_30_0 : GoodP rnL cd3 (F_T03w8n ++ lem_l1_30) T_T03w8n.toS aG19 aX20 aP21 := ⟨aO22, by kernel_rfl, fun _ h => dueAn h⟩
end Go.Proofs.Ytiocpbfbhbgfaaa.busAlone
