/-
  'BusAlone': runs of its parts, checked by the kernel. Printed by program.
-/
import Derived.Test.YtiocpbfbhbgfaaaBusAloneL
namespace Go.Proofs.Ytiocpbfbhbgfaaa.busAlone
open Go.ChangeShapes Go.WideShapes Go.ChangeAt Go.RowKit Go.Sx
set_option linter.unusedVariables false
set_option linter.unusedSimpArgs false
set_option maxRecDepth 100000
set_option maxHeartbeats 1600000
theorem good_l1_35_0 : GoodP rnL cd3 (F_T11r1n ++ lem_l1_35) T_T11r1n.toS aG19 aX20 aP21 := ⟨aO22, by kernel_rfl, fun _ h => dueAn h⟩
theorem good_l1_35_1 : GoodP rnL cd3 (F_T11r1n ++ lem_l1_35) T_T11r1n.toS aG19 aX20 aP23 := ⟨aO24, by kernel_rfl, fun _ h => dueAn h⟩
theorem good_l1_35_2 : GoodP rnL cd3 (F_T11r1n ++ lem_l1_35) T_T11r1n.toS aG19 aX20 aP25 := ⟨aO26, by kernel_rfl, fun _ h => dueAn h⟩
theorem good_l1_35_3 : GoodP rnL cd3 (F_T11r1n ++ lem_l1_35) T_T11r1n.toS aG19 aX20 aP27 := ⟨aO28, by kernel_rfl, fun _ h => dueAn h⟩
theorem good_l1_35_4 : GoodP rnL cd3 (F_T11r1n ++ lem_l1_35) T_T11r1n.toS aG19 aX20 aP29 := ⟨aO30, by kernel_rfl, fun _ h => dueAn h⟩
theorem good_l1_35_5 : GoodP rnL cd3 (F_T11r1n ++ lem_l1_35) T_T11r1n.toS aG19 aX20 aP31 := ⟨aO32, by kernel_rfl, fun _ h => dueAn h⟩
theorem good_l1_36_0 : GoodP rnL cd3 (F_T11r8n ++ lem_l1_36) T_T11r8n.toS aG19 aX20 aP21 := ⟨aO22, by kernel_rfl, fun _ h => dueAn h⟩
theorem good_l1_36_1 : GoodP rnL cd3 (F_T11r8n ++ lem_l1_36) T_T11r8n.toS aG19 aX20 aP23 := ⟨aO24, by kernel_rfl, fun _ h => dueAn h⟩
theorem good_l1_36_2 : GoodP rnL cd3 (F_T11r8n ++ lem_l1_36) T_T11r8n.toS aG19 aX20 aP25 := ⟨aO26, by kernel_rfl, fun _ h => dueAn h⟩
theorem good_l1_36_3 : GoodP rnL cd3 (F_T11r8n ++ lem_l1_36) T_T11r8n.toS aG19 aX20 aP27 := ⟨aO28, by kernel_rfl, fun _ h => dueAn h⟩
theorem good_l1_36_4 : GoodP rnL cd3 (F_T11r8n ++ lem_l1_36) T_T11r8n.toS aG19 aX20 aP29 := ⟨aO30, by kernel_rfl, fun _ h => dueAn h⟩
theorem good_l1_36_5 : GoodP rnL cd3 (F_T11r8n ++ lem_l1_36) T_T11r8n.toS aG19 aX20 aP31 := ⟨aO32, by kernel_rfl, fun _ h => dueAn h⟩
theorem good_l1_37_0 : GoodP rnL cd3 (F_T11w1n ++ lem_l1_37) T_T11w1n.toS aG19 aX20 aP21 := ⟨aO22, by kernel_rfl, fun _ h => dueAn h⟩
theorem good_l1_37_1 : GoodP rnL cd3 (F_T11w1n ++ lem_l1_37) T_T11w1n.toS aG19 aX20 aP23 := ⟨aO24, by kernel_rfl, fun _ h => dueAn h⟩
theorem good_l1_37_2 : GoodP rnL cd3 (F_T11w1n ++ lem_l1_37) T_T11w1n.toS aG19 aX20 aP25 := ⟨aO26, by kernel_rfl, fun _ h => dueAn h⟩
theorem good_l1_37_3 : GoodP rnL cd3 (F_T11w1n ++ lem_l1_37) T_T11w1n.toS aG19 aX20 aP27 := ⟨aO28, by kernel_rfl, fun _ h => dueAn h⟩
theorem good_l1_37_4 : GoodP rnL cd3 (F_T11w1n ++ lem_l1_37) T_T11w1n.toS aG19 aX20 aP29 := ⟨aO30, by kernel_rfl, fun _ h => dueAn h⟩
theorem good_l1_37_5 : GoodP rnL cd3 (F_T11w1n ++ lem_l1_37) T_T11w1n.toS aG19 aX20 aP31 := ⟨aO32, by kernel_rfl, fun _ h => dueAn h⟩
theorem good_l1_38_0 : GoodP rnL cd3 (F_T11w8n ++ lem_l1_38) T_T11w8n.toS aG19 aX20 aP21 := ⟨aO22, by kernel_rfl, fun _ h => dueAn h⟩
theorem good_l1_38_1 : GoodP rnL cd3 (F_T11w8n ++ lem_l1_38) T_T11w8n.toS aG19 aX20 aP23 := ⟨aO24, by kernel_rfl, fun _ h => dueAn h⟩
theorem good_l1_38_2 : GoodP rnL cd3 (F_T11w8n ++ lem_l1_38) T_T11w8n.toS aG19 aX20 aP25 := ⟨aO26, by kernel_rfl, fun _ h => dueAn h⟩
theorem good_l1_38_3 : GoodP rnL cd3 (F_T11w8n ++ lem_l1_38) T_T11w8n.toS aG19 aX20 aP27 := ⟨aO28, by kernel_rfl, fun _ h => dueAn h⟩
theorem good_l1_38_4 : GoodP rnL cd3 (F_T11w8n ++ lem_l1_38) T_T11w8n.toS aG19 aX20 aP29 := ⟨aO30, by kernel_rfl, fun _ h => dueAn h⟩
theorem good_l1_38_5 : GoodP rnL cd3 (F_T11w8n ++ lem_l1_38) T_T11w8n.toS aG19 aX20 aP31 := ⟨aO32, by kernel_rfl, fun _ h => dueAn h⟩
theorem good_l1_39_0 : GoodP rnL cd3 (F_T12r1n ++ lem_l1_39) T_T12r1n.toS aG19 aX20 aP21 := ⟨aO22, by kernel_rfl, fun _ h => dueAn h⟩
theorem good_l1_39_1 : GoodP rnL cd3 (F_T12r1n ++ lem_l1_39) T_T12r1n.toS aG19 aX20 aP23 := ⟨aO24, by kernel_rfl, fun _ h => dueAn h⟩
theorem good_l1_39_2 : GoodP rnL cd3 (F_T12r1n ++ lem_l1_39) T_T12r1n.toS aG19 aX20 aP25 := ⟨aO26, by kernel_rfl, fun _ h => dueAn h⟩
theorem good_l1_39_3 : GoodP rnL cd3 (F_T12r1n ++ lem_l1_39) T_T12r1n.toS aG19 aX20 aP27 := ⟨aO28, by kernel_rfl, fun _ h => dueAn h⟩
theorem good_l1_39_4 : GoodP rnL cd3 (F_T12r1n ++ lem_l1_39) T_T12r1n.toS aG19 aX20 aP29 := ⟨aO30, by kernel_rfl, fun _ h => dueAn h⟩
end Go.Proofs.Ytiocpbfbhbgfaaa.busAlone
