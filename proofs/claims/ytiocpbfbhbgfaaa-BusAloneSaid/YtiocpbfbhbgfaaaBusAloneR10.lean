/-
  'BusAlone': runs of its parts, checked by the kernel. Printed by program.
-/
import Derived.Test.YtiocpbfbhbgfaaaBusAloneL
namespace Go.Proofs.Ytiocpbfbhbgfaaa.busAlone
open Go.ChangeShapes Go.WideShapes Go.ChangeAt Go.RowKit Go.Sx
set_option linter.unusedVariables false
set_option linter.unusedSimpArgs false
set_option maxRecDepth 100000
set_option maxHeartbeats 1600000
theorem good_l1_20_2 : GoodP rnL cd3 (F_T01r8n ++ lem_l1_20) T_T01r8n.toS aG19 aX20 aP25 := ⟨aO26, by kernel_rfl, fun _ h => dueAn h⟩
theorem good_l1_20_3 : GoodP rnL cd3 (F_T01r8n ++ lem_l1_20) T_T01r8n.toS aG19 aX20 aP27 := ⟨aO28, by kernel_rfl, fun _ h => dueAn h⟩
theorem good_l1_20_4 : GoodP rnL cd3 (F_T01r8n ++ lem_l1_20) T_T01r8n.toS aG19 aX20 aP29 := ⟨aO30, by kernel_rfl, fun _ h => dueAn h⟩
theorem good_l1_20_5 : GoodP rnL cd3 (F_T01r8n ++ lem_l1_20) T_T01r8n.toS aG19 aX20 aP31 := ⟨aO32, by kernel_rfl, fun _ h => dueAn h⟩
theorem good_l1_21_0 : GoodP rnL cd3 (F_T01w1n ++ lem_l1_21) T_T01w1n.toS aG19 aX20 aP21 := ⟨aO22, by kernel_rfl, fun _ h => dueAn h⟩
theorem good_l1_21_1 : GoodP rnL cd3 (F_T01w1n ++ lem_l1_21) T_T01w1n.toS aG19 aX20 aP23 := ⟨aO24, by kernel_rfl, fun _ h => dueAn h⟩
theorem good_l1_21_2 : GoodP rnL cd3 (F_T01w1n ++ lem_l1_21) T_T01w1n.toS aG19 aX20 aP25 := ⟨aO26, by kernel_rfl, fun _ h => dueAn h⟩
theorem good_l1_21_3 : GoodP rnL cd3 (F_T01w1n ++ lem_l1_21) T_T01w1n.toS aG19 aX20 aP27 := ⟨aO28, by kernel_rfl, fun _ h => dueAn h⟩
theorem good_l1_21_4 : GoodP rnL cd3 (F_T01w1n ++ lem_l1_21) T_T01w1n.toS aG19 aX20 aP29 := ⟨aO30, by kernel_rfl, fun _ h => dueAn h⟩
theorem good_l1_21_5 : GoodP rnL cd3 (F_T01w1n ++ lem_l1_21) T_T01w1n.toS aG19 aX20 aP31 := ⟨aO32, by kernel_rfl, fun _ h => dueAn h⟩
theorem good_l1_22_0 : GoodP rnL cd3 (F_T01w8n ++ lem_l1_22) T_T01w8n.toS aG19 aX20 aP21 := ⟨aO22, by kernel_rfl, fun _ h => dueAn h⟩
theorem good_l1_22_1 : GoodP rnL cd3 (F_T01w8n ++ lem_l1_22) T_T01w8n.toS aG19 aX20 aP23 := ⟨aO24, by kernel_rfl, fun _ h => dueAn h⟩
theorem good_l1_22_2 : GoodP rnL cd3 (F_T01w8n ++ lem_l1_22) T_T01w8n.toS aG19 aX20 aP25 := ⟨aO26, by kernel_rfl, fun _ h => dueAn h⟩
theorem good_l1_22_3 : GoodP rnL cd3 (F_T01w8n ++ lem_l1_22) T_T01w8n.toS aG19 aX20 aP27 := ⟨aO28, by kernel_rfl, fun _ h => dueAn h⟩
theorem good_l1_22_4 : GoodP rnL cd3 (F_T01w8n ++ lem_l1_22) T_T01w8n.toS aG19 aX20 aP29 := ⟨aO30, by kernel_rfl, fun _ h => dueAn h⟩
theorem good_l1_22_5 : GoodP rnL cd3 (F_T01w8n ++ lem_l1_22) T_T01w8n.toS aG19 aX20 aP31 := ⟨aO32, by kernel_rfl, fun _ h => dueAn h⟩
theorem good_l1_23_0 : GoodP rnL cd3 (F_T02r1n ++ lem_l1_23) T_T02r1n.toS aG19 aX20 aP21 := ⟨aO22, by kernel_rfl, fun _ h => dueAn h⟩
theorem good_l1_23_1 : GoodP rnL cd3 (F_T02r1n ++ lem_l1_23) T_T02r1n.toS aG19 aX20 aP23 := ⟨aO24, by kernel_rfl, fun _ h => dueAn h⟩
theorem good_l1_23_2 : GoodP rnL cd3 (F_T02r1n ++ lem_l1_23) T_T02r1n.toS aG19 aX20 aP25 := ⟨aO26, by kernel_rfl, fun _ h => dueAn h⟩
theorem good_l1_23_3 : GoodP rnL cd3 (F_T02r1n ++ lem_l1_23) T_T02r1n.toS aG19 aX20 aP27 := ⟨aO28, by kernel_rfl, fun _ h => dueAn h⟩
theorem good_l1_23_4 : GoodP rnL cd3 (F_T02r1n ++ lem_l1_23) T_T02r1n.toS aG19 aX20 aP29 := ⟨aO30, by kernel_rfl, fun _ h => dueAn h⟩
theorem good_l1_23_5 : GoodP rnL cd3 (F_T02r1n ++ lem_l1_23) T_T02r1n.toS aG19 aX20 aP31 := ⟨aO32, by kernel_rfl, fun _ h => dueAn h⟩
theorem good_l1_24_0 : GoodP rnL cd3 (F_T02r8n ++ lem_l1_24) T_T02r8n.toS aG19 aX20 aP21 := ⟨aO22, by kernel_rfl, fun _ h => dueAn h⟩
theorem good_l1_24_1 : GoodP rnL cd3 (F_T02r8n ++ lem_l1_24) T_T02r8n.toS aG19 aX20 aP23 := ⟨aO24, by kernel_rfl, fun _ h => dueAn h⟩
theorem good_l1_24_2 : GoodP rnL cd3 (F_T02r8n ++ lem_l1_24) T_T02r8n.toS aG19 aX20 aP25 := ⟨aO26, by kernel_rfl, fun _ h => dueAn h⟩
theorem good_l1_24_3 : GoodP rnL cd3 (F_T02r8n ++ lem_l1_24) T_T02r8n.toS aG19 aX20 aP27 := ⟨aO28, by kernel_rfl, fun _ h => dueAn h⟩
theorem good_l1_24_4 : GoodP rnL cd3 (F_T02r8n ++ lem_l1_24) T_T02r8n.toS aG19 aX20 aP29 := ⟨aO30, by kernel_rfl, fun _ h => dueAn h⟩
theorem good_l1_24_5 : GoodP rnL cd3 (F_T02r8n ++ lem_l1_24) T_T02r8n.toS aG19 aX20 aP31 := ⟨aO32, by kernel_rfl, fun _ h => dueAn h⟩
theorem good_l1_25_0 : GoodP rnL cd3 (F_T02w1n ++ lem_l1_25) T_T02w1n.toS aG19 aX20 aP21 := ⟨aO22, by kernel_rfl, fun _ h => dueAn h⟩
end Go.Proofs.Ytiocpbfbhbgfaaa.busAlone
