/-
  'BusAlone': runs of its parts, checked by the kernel. Printed by program.
-/
import Derived.Test.YtiocpbfbhbgfaaaBusAloneL
namespace Go.Proofs.Ytiocpbfbhbgfaaa.busAlone
open Go.ChangeShapes Go.WideShapes Go.ChangeAt Go.RowKit Go.Sx
set_option linter.unusedVariables false
set_option linter.unusedSimpArgs false
set_option maxRecDepth 100000
set_option maxHeartbeats 1600000
theorem good_l1_15_4 : GoodP rnL cd3 (F_T00r1n ++ lem_l1_15) T_T00r1n.toS aG19 aX20 aP29 := ⟨aO30, by kernel_rfl, fun _ h => dueAn h⟩
theorem good_l1_15_5 : GoodP rnL cd3 (F_T00r1n ++ lem_l1_15) T_T00r1n.toS aG19 aX20 aP31 := ⟨aO32, by kernel_rfl, fun _ h => dueAn h⟩
theorem good_l1_16_0 : GoodP rnL cd3 (F_T00r8n ++ lem_l1_16) T_T00r8n.toS aG19 aX20 aP21 := ⟨aO22, by kernel_rfl, fun _ h => dueAn h⟩
theorem good_l1_16_1 : GoodP rnL cd3 (F_T00r8n ++ lem_l1_16) T_T00r8n.toS aG19 aX20 aP23 := ⟨aO24, by kernel_rfl, fun _ h => dueAn h⟩
theorem good_l1_16_2 : GoodP rnL cd3 (F_T00r8n ++ lem_l1_16) T_T00r8n.toS aG19 aX20 aP25 := ⟨aO26, by kernel_rfl, fun _ h => dueAn h⟩
theorem good_l1_16_3 : GoodP rnL cd3 (F_T00r8n ++ lem_l1_16) T_T00r8n.toS aG19 aX20 aP27 := ⟨aO28, by kernel_rfl, fun _ h => dueAn h⟩
theorem good_l1_16_4 : GoodP rnL cd3 (F_T00r8n ++ lem_l1_16) T_T00r8n.toS aG19 aX20 aP29 := ⟨aO30, by kernel_rfl, fun _ h => dueAn h⟩
theorem good_l1_16_5 : GoodP rnL cd3 (F_T00r8n ++ lem_l1_16) T_T00r8n.toS aG19 aX20 aP31 := ⟨aO32, by kernel_rfl, fun _ h => dueAn h⟩
theorem good_l1_17_0 : GoodP rnL cd3 (F_T00w1n ++ lem_l1_17) T_T00w1n.toS aG19 aX20 aP21 := ⟨aO22, by kernel_rfl, fun _ h => dueAn h⟩
theorem good_l1_17_1 : GoodP rnL cd3 (F_T00w1n ++ lem_l1_17) T_T00w1n.toS aG19 aX20 aP23 := ⟨aO24, by kernel_rfl, fun _ h => dueAn h⟩
theorem good_l1_17_2 : GoodP rnL cd3 (F_T00w1n ++ lem_l1_17) T_T00w1n.toS aG19 aX20 aP25 := ⟨aO26, by kernel_rfl, fun _ h => dueAn h⟩
theorem good_l1_17_3 : GoodP rnL cd3 (F_T00w1n ++ lem_l1_17) T_T00w1n.toS aG19 aX20 aP27 := ⟨aO28, by kernel_rfl, fun _ h => dueAn h⟩
theorem good_l1_17_4 : GoodP rnL cd3 (F_T00w1n ++ lem_l1_17) T_T00w1n.toS aG19 aX20 aP29 := ⟨aO30, by kernel_rfl, fun _ h => dueAn h⟩
theorem good_l1_17_5 : GoodP rnL cd3 (F_T00w1n ++ lem_l1_17) T_T00w1n.toS aG19 aX20 aP31 := ⟨aO32, by kernel_rfl, fun _ h => dueAn h⟩
theorem good_l1_18_0 : GoodP rnL cd3 (F_T00w8n ++ lem_l1_18) T_T00w8n.toS aG19 aX20 aP21 := ⟨aO22, by kernel_rfl, fun _ h => dueAn h⟩
theorem good_l1_18_1 : GoodP rnL cd3 (F_T00w8n ++ lem_l1_18) T_T00w8n.toS aG19 aX20 aP23 := ⟨aO24, by kernel_rfl, fun _ h => dueAn h⟩
theorem good_l1_18_2 : GoodP rnL cd3 (F_T00w8n ++ lem_l1_18) T_T00w8n.toS aG19 aX20 aP25 := ⟨aO26, by kernel_rfl, fun _ h => dueAn h⟩
theorem good_l1_18_3 : GoodP rnL cd3 (F_T00w8n ++ lem_l1_18) T_T00w8n.toS aG19 aX20 aP27 := ⟨aO28, by kernel_rfl, fun _ h => dueAn h⟩
theorem good_l1_18_4 : GoodP rnL cd3 (F_T00w8n ++ lem_l1_18) T_T00w8n.toS aG19 aX20 aP29 := ⟨aO30, by kernel_rfl, fun _ h => dueAn h⟩
theorem good_l1_18_5 : GoodP rnL cd3 (F_T00w8n ++ lem_l1_18) T_T00w8n.toS aG19 aX20 aP31 := ⟨aO32, by kernel_rfl, fun _ h => dueAn h⟩
theorem good_l1_19_0 : GoodP rnL cd3 (F_T01r1n ++ lem_l1_19) T_T01r1n.toS aG19 aX20 aP21 := ⟨aO22, by kernel_rfl, fun _ h => dueAn h⟩
theorem good_l1_19_1 : GoodP rnL cd3 (F_T01r1n ++ lem_l1_19) T_T01r1n.toS aG19 aX20 aP23 := ⟨aO24, by kernel_rfl, fun _ h => dueAn h⟩
theorem good_l1_19_2 : GoodP rnL cd3 (F_T01r1n ++ lem_l1_19) T_T01r1n.toS aG19 aX20 aP25 := ⟨aO26, by kernel_rfl, fun _ h => dueAn h⟩
theorem good_l1_19_3 : GoodP rnL cd3 (F_T01r1n ++ lem_l1_19) T_T01r1n.toS aG19 aX20 aP27 := ⟨aO28, by kernel_rfl, fun _ h => dueAn h⟩
theorem good_l1_19_4 : GoodP rnL cd3 (F_T01r1n ++ lem_l1_19) T_T01r1n.toS aG19 aX20 aP29 := ⟨aO30, by kernel_rfl, fun _ h => dueAn h⟩
theorem good_l1_19_5 : GoodP rnL cd3 (F_T01r1n ++ lem_l1_19) T_T01r1n.toS aG19 aX20 aP31 := ⟨aO32, by kernel_rfl, fun _ h => dueAn h⟩
theorem good_l1_20_0 : GoodP rnL cd3 (F_T01r8n ++ lem_l1_20) T_T01r8n.toS aG19 aX20 aP21 := ⟨aO22, by kernel_rfl, fun _ h => dueAn h⟩
theorem good_l1_20_1 : GoodP rnL cd3 (F_T01r8n ++ lem_l1_20) T_T01r8n.toS aG19 aX20 aP23 := ⟨aO24, by kernel_rfl, fun _ h => dueAn h⟩
end Go.Proofs.Ytiocpbfbhbgfaaa.busAlone
