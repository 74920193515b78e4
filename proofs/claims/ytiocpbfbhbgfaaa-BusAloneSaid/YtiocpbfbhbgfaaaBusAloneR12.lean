/-
  'BusAlone': runs of its parts, checked by the kernel. Printed by program.
-/
import Derived.Test.YtiocpbfbhbgfaaaBusAloneL
namespace Go.Proofs.Ytiocpbfbhbgfaaa.busAlone
open Go.ChangeShapes Go.WideShapes Go.ChangeAt Go.RowKit Go.Sx
set_option linter.unusedVariables false
set_option linter.unusedSimpArgs false
set_option maxRecDepth 100000
set_option maxHeartbeats 1600000
theorem good_l1_30_1 : GoodP rnL cd3 (F_T03w8n ++ lem_l1_30) T_T03w8n.toS aG19 aX20 aP23 := ⟨aO24, by kernel_rfl, fun _ h => dueAn h⟩
theorem good_l1_30_2 : GoodP rnL cd3 (F_T03w8n ++ lem_l1_30) T_T03w8n.toS aG19 aX20 aP25 := ⟨aO26, by kernel_rfl, fun _ h => dueAn h⟩
theorem good_l1_30_3 : GoodP rnL cd3 (F_T03w8n ++ lem_l1_30) T_T03w8n.toS aG19 aX20 aP27 := ⟨aO28, by kernel_rfl, fun _ h => dueAn h⟩
theorem good_l1_30_4 : GoodP rnL cd3 (F_T03w8n ++ lem_l1_30) T_T03w8n.toS aG19 aX20 aP29 := ⟨aO30, by kernel_rfl, fun _ h => dueAn h⟩
theorem good_l1_30_5 : GoodP rnL cd3 (F_T03w8n ++ lem_l1_30) T_T03w8n.toS aG19 aX20 aP31 := ⟨aO32, by kernel_rfl, fun _ h => dueAn h⟩
theorem good_l1_31_0 : GoodP rnL cd3 (F_T10r1n ++ lem_l1_31) T_T10r1n.toS aG19 aX20 aP21 := ⟨aO22, by kernel_rfl, fun _ h => dueAn h⟩
theorem good_l1_31_1 : GoodP rnL cd3 (F_T10r1n ++ lem_l1_31) T_T10r1n.toS aG19 aX20 aP23 := ⟨aO24, by kernel_rfl, fun _ h => dueAn h⟩
theorem good_l1_31_2 : GoodP rnL cd3 (F_T10r1n ++ lem_l1_31) T_T10r1n.toS aG19 aX20 aP25 := ⟨aO26, by kernel_rfl, fun _ h => dueAn h⟩
theorem good_l1_31_3 : GoodP rnL cd3 (F_T10r1n ++ lem_l1_31) T_T10r1n.toS aG19 aX20 aP27 := ⟨aO28, by kernel_rfl, fun _ h => dueAn h⟩
theorem good_l1_31_4 : GoodP rnL cd3 (F_T10r1n ++ lem_l1_31) T_T10r1n.toS aG19 aX20 aP29 := ⟨aO30, by kernel_rfl, fun _ h => dueAn h⟩
theorem good_l1_31_5 : GoodP rnL cd3 (F_T10r1n ++ lem_l1_31) T_T10r1n.toS aG19 aX20 aP31 := ⟨aO32, by kernel_rfl, fun _ h => dueAn h⟩
theorem good_l1_32_0 : GoodP rnL cd3 (F_T10r8n ++ lem_l1_32) T_T10r8n.toS aG19 aX20 aP21 := ⟨aO22, by kernel_rfl, fun _ h => dueAn h⟩
theorem good_l1_32_1 : GoodP rnL cd3 (F_T10r8n ++ lem_l1_32) T_T10r8n.toS aG19 aX20 aP23 := ⟨aO24, by kernel_rfl, fun _ h => dueAn h⟩
theorem good_l1_32_2 : GoodP rnL cd3 (F_T10r8n ++ lem_l1_32) T_T10r8n.toS aG19 aX20 aP25 := ⟨aO26, by kernel_rfl, fun _ h => dueAn h⟩
theorem good_l1_32_3 : GoodP rnL cd3 (F_T10r8n ++ lem_l1_32) T_T10r8n.toS aG19 aX20 aP27 := ⟨aO28, by kernel_rfl, fun _ h => dueAn h⟩
theorem good_l1_32_4 : GoodP rnL cd3 (F_T10r8n ++ lem_l1_32) T_T10r8n.toS aG19 aX20 aP29 := ⟨aO30, by kernel_rfl, fun _ h => dueAn h⟩
theorem good_l1_32_5 : GoodP rnL cd3 (F_T10r8n ++ lem_l1_32) T_T10r8n.toS aG19 aX20 aP31 := ⟨aO32, by kernel_rfl, fun _ h => dueAn h⟩
theorem good_l1_33_0 : GoodP rnL cd3 (F_T10w1n ++ lem_l1_33) T_T10w1n.toS aG19 aX20 aP21 := ⟨aO22, by kernel_rfl, fun _ h => dueAn h⟩
theorem good_l1_33_1 : GoodP rnL cd3 (F_T10w1n ++ lem_l1_33) T_T10w1n.toS aG19 aX20 aP23 := ⟨aO24, by kernel_rfl, fun _ h => dueAn h⟩
theorem good_l1_33_2 : GoodP rnL cd3 (F_T10w1n ++ lem_l1_33) T_T10w1n.toS aG19 aX20 aP25 := ⟨aO26, by kernel_rfl, fun _ h => dueAn h⟩
theorem good_l1_33_3 : GoodP rnL cd3 (F_T10w1n ++ lem_l1_33) T_T10w1n.toS aG19 aX20 aP27 := ⟨aO28, by kernel_rfl, fun _ h => dueAn h⟩
theorem good_l1_33_4 : GoodP rnL cd3 (F_T10w1n ++ lem_l1_33) T_T10w1n.toS aG19 aX20 aP29 := ⟨aO30, by kernel_rfl, fun _ h => dueAn h⟩
theorem good_l1_33_5 : GoodP rnL cd3 (F_T10w1n ++ lem_l1_33) T_T10w1n.toS aG19 aX20 aP31 := ⟨aO32, by kernel_rfl, fun _ h => dueAn h⟩
theorem good_l1_34_0 : GoodP rnL cd3 (F_T10w8n ++ lem_l1_34) T_T10w8n.toS aG19 aX20 aP21 := ⟨aO22, by kernel_rfl, fun _ h => dueAn h⟩
theorem good_l1_34_1 : GoodP rnL cd3 (F_T10w8n ++ lem_l1_34) T_T10w8n.toS aG19 aX20 aP23 := ⟨aO24, by kernel_rfl, fun _ h => dueAn h⟩
theorem good_l1_34_2 : GoodP rnL cd3 (F_T10w8n ++ lem_l1_34) T_T10w8n.toS aG19 aX20 aP25 := ⟨aO26, by kernel_rfl, fun _ h => dueAn h⟩
theorem good_l1_34_3 : GoodP rnL cd3 (F_T10w8n ++ lem_l1_34) T_T10w8n.toS aG19 aX20 aP27 := ⟨aO28, by kernel_rfl, fun _ h => dueAn h⟩
theorem good_l1_34_4 : GoodP rnL cd3 (F_T10w8n ++ lem_l1_34) T_T10w8n.toS aG19 aX20 aP29 := ⟨aO30, by kernel_rfl, fun _ h => dueAn h⟩
theorem good_l1_34_5 : GoodP rnL cd3 (F_T10w8n ++ lem_l1_34) T_T10w8n.toS aG19 aX20 aP31 := ⟨aO32, by kernel_rfl, fun _ h => dueAn h⟩
end Go.Proofs.Ytiocpbfbhbgfaaa.busAlone
