/-
  'BusAlone': runs of its parts, checked by the kernel. Printed by program.
-/
import Derived.Test.YtiocpbfbhbgfaaaBusAloneL
namespace Go.Proofs.Ytiocpbfbhbgfaaa.busAlone
open Go.ChangeShapes Go.WideShapes Go.ChangeAt Go.RowKit Go.Sx
set_option linter.unusedVariables false
set_option linter.unusedSimpArgs false
set_option maxRecDepth 100000
set_option maxHeartbeats 1600000
theorem good_l1_39_5 : GoodP rnL cd3 (F_T12r1n ++ lem_l1_39) T_T12r1n.toS aG19 aX20 aP31 := ⟨aO32, by kernel_rfl, fun _ h => dueAn h⟩
theorem good_l1_40_0 : GoodP rnL cd3 (F_T12r8n ++ lem_l1_40) T_T12r8n.toS aG19 aX20 aP21 := ⟨aO22, by kernel_rfl, fun _ h => dueAn h⟩
theorem good_l1_40_1 : GoodP rnL cd3 (F_T12r8n ++ lem_l1_40) T_T12r8n.toS aG19 aX20 aP23 := ⟨aO24, by kernel_rfl, fun _ h => dueAn h⟩
theorem good_l1_40_2 : GoodP rnL cd3 (F_T12r8n ++ lem_l1_40) T_T12r8n.toS aG19 aX20 aP25 := ⟨aO26, by kernel_rfl, fun _ h => dueAn h⟩
theorem good_l1_40_3 : GoodP rnL cd3 (F_T12r8n ++ lem_l1_40) T_T12r8n.toS aG19 aX20 aP27 := ⟨aO28, by kernel_rfl, fun _ h => dueAn h⟩
theorem good_l1_40_4 : GoodP rnL cd3 (F_T12r8n ++ lem_l1_40) T_T12r8n.toS aG19 aX20 aP29 := ⟨aO30, by kernel_rfl, fun _ h => dueAn h⟩
theorem good_l1_40_5 : GoodP rnL cd3 (F_T12r8n ++ lem_l1_40) T_T12r8n.toS aG19 aX20 aP31 := ⟨aO32, by kernel_rfl, fun _ h => dueAn h⟩
theorem good_l1_41_0 : GoodP rnL cd3 (F_T12w1n ++ lem_l1_41) T_T12w1n.toS aG19 aX20 aP21 := ⟨aO22, by kernel_rfl, fun _ h => dueAn h⟩
theorem good_l1_41_1 : GoodP rnL cd3 (F_T12w1n ++ lem_l1_41) T_T12w1n.toS aG19 aX20 aP23 := ⟨aO24, by kernel_rfl, fun _ h => dueAn h⟩
theorem good_l1_41_2 : GoodP rnL cd3 (F_T12w1n ++ lem_l1_41) T_T12w1n.toS aG19 aX20 aP25 := ⟨aO26, by kernel_rfl, fun _ h => dueAn h⟩
theorem good_l1_41_3 : GoodP rnL cd3 (F_T12w1n ++ lem_l1_41) T_T12w1n.toS aG19 aX20 aP27 := ⟨aO28, by kernel_rfl, fun _ h => dueAn h⟩
theorem good_l1_41_4 : GoodP rnL cd3 (F_T12w1n ++ lem_l1_41) T_T12w1n.toS aG19 aX20 aP29 := ⟨aO30, by kernel_rfl, fun _ h => dueAn h⟩
theorem good_l1_41_5 : GoodP rnL cd3 (F_T12w1n ++ lem_l1_41) T_T12w1n.toS aG19 aX20 aP31 := ⟨aO32, by kernel_rfl, fun _ h => dueAn h⟩
theorem good_l1_42_0 : GoodP rnL cd3 (F_T12w8n ++ lem_l1_42) T_T12w8n.toS aG19 aX20 aP21 := ⟨aO22, by kernel_rfl, fun _ h => dueAn h⟩
theorem good_l1_42_1 : GoodP rnL cd3 (F_T12w8n ++ lem_l1_42) T_T12w8n.toS aG19 aX20 aP23 := ⟨aO24, by kernel_rfl, fun _ h => dueAn h⟩
theorem good_l1_42_2 : GoodP rnL cd3 (F_T12w8n ++ lem_l1_42) T_T12w8n.toS aG19 aX20 aP25 := ⟨aO26, by kernel_rfl, fun _ h => dueAn h⟩
theorem good_l1_42_3 : GoodP rnL cd3 (F_T12w8n ++ lem_l1_42) T_T12w8n.toS aG19 aX20 aP27 := ⟨aO28, by kernel_rfl, fun _ h => dueAn h⟩
theorem good_l1_42_4 : GoodP rnL cd3 (F_T12w8n ++ lem_l1_42) T_T12w8n.toS aG19 aX20 aP29 := ⟨aO30, by kernel_rfl, fun _ h => dueAn h⟩
theorem good_l1_42_5 : GoodP rnL cd3 (F_T12w8n ++ lem_l1_42) T_T12w8n.toS aG19 aX20 aP31 := ⟨aO32, by kernel_rfl, fun _ h => dueAn h⟩
theorem good_l1_43_0 : GoodP rnL cd3 (F_T13r1n ++ lem_l1_43) T_T13r1n.toS aG19 aX20 aP21 := ⟨aO22, by kernel_rfl, fun _ h => dueAn h⟩
theorem good_l1_43_1 : GoodP rnL cd3 (F_T13r1n ++ lem_l1_43) T_T13r1n.toS aG19 aX20 aP23 := ⟨aO24, by kernel_rfl, fun _ h => dueAn h⟩
theorem good_l1_43_2 : GoodP rnL cd3 (F_T13r1n ++ lem_l1_43) T_T13r1n.toS aG19 aX20 aP25 := ⟨aO26, by kernel_rfl, fun _ h => dueAn h⟩
theorem good_l1_43_3 : GoodP rnL cd3 (F_T13r1n ++ lem_l1_43) T_T13r1n.toS aG19 aX20 aP27 := ⟨aO28, by kernel_rfl, fun _ h => dueAn h⟩
theorem good_l1_43_4 : GoodP rnL cd3 (F_T13r1n ++ lem_l1_43) T_T13r1n.toS aG19 aX20 aP29 := ⟨aO30, by kernel_rfl, fun _ h => dueAn h⟩
theorem good_l1_43_5 : GoodP rnL cd3 (F_T13r1n ++ lem_l1_43) T_T13r1n.toS aG19 aX20 aP31 := ⟨aO32, by kernel_rfl, fun _ h => dueAn h⟩
theorem good_l1_44_0 : GoodP rnL cd3 (F_T13r8n ++ lem_l1_44) T_T13r8n.toS aG19 aX20 aP21 := ⟨aO22, by kernel_rfl, fun _ h => dueAn h⟩
theorem good_l1_44_1 : GoodP rnL cd3 (F_T13r8n ++ lem_l1_44) T_T13r8n.toS aG19 aX20 aP23 := ⟨aO24, by kernel_rfl, fun _ h => dueAn h⟩
theorem good_l1_44_2 : GoodP rnL cd3 (F_T13r8n ++ lem_l1_44) T_T13r8n.toS aG19 aX20 aP25 := ⟨aO26, by kernel_rfl, fun _ h => dueAn h⟩
theorem good_l1_44_3 : GoodP rnL cd3 (F_T13r8n ++ lem_l1_44) T_T13r8n.toS aG19 aX20 aP27 := ⟨aO28, by kernel_rfl, fun _ h => dueAn h⟩
theorem good_l1_44_4 : GoodP rnL cd3 (F_T13r8n ++ lem_l1_44) T_T13r8n.toS aG19 aX20 aP29 := ⟨aO30, by kernel_rfl, fun _ h => dueAn h⟩
end Go.Proofs.Ytiocpbfbhbgfaaa.busAlone
