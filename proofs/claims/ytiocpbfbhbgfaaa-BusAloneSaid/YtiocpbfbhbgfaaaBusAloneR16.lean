/-
  'BusAlone': runs of its parts, checked by the kernel. Printed by program.
-/
import Derived.Test.YtiocpbfbhbgfaaaBusAloneL
namespace Go.Proofs.Ytiocpbfbhbgfaaa.busAlone
open Go.ChangeShapes Go.WideShapes Go.ChangeAt Go.RowKit Go.Sx
set_option linter.unusedVariables false
set_option linter.unusedSimpArgs false
set_option maxRecDepth 100000
set_option maxHeartbeats 1600000
theorem good_l1_49_5 : GoodP rnL cd3 (F_T20w1n ++ lem_l1_49) T_T20w1n.toS aG19 aX20 aP31 := ⟨aO32, by kernel_rfl, fun _ h => dueAn h⟩
theorem good_l1_50_0 : GoodP rnL cd3 (F_T20w8n ++ lem_l1_50) T_T20w8n.toS aG19 aX20 aP21 := ⟨aO22, by kernel_rfl, fun _ h => dueAn h⟩
theorem good_l1_50_1 : GoodP rnL cd3 (F_T20w8n ++ lem_l1_50) T_T20w8n.toS aG19 aX20 aP23 := ⟨aO24, by kernel_rfl, fun _ h => dueAn h⟩
theorem good_l1_50_2 : GoodP rnL cd3 (F_T20w8n ++ lem_l1_50) T_T20w8n.toS aG19 aX20 aP25 := ⟨aO26, by kernel_rfl, fun _ h => dueAn h⟩
theorem good_l1_50_3 : GoodP rnL cd3 (F_T20w8n ++ lem_l1_50) T_T20w8n.toS aG19 aX20 aP27 := ⟨aO28, by kernel_rfl, fun _ h => dueAn h⟩
theorem good_l1_50_4 : GoodP rnL cd3 (F_T20w8n ++ lem_l1_50) T_T20w8n.toS aG19 aX20 aP29 := ⟨aO30, by kernel_rfl, fun _ h => dueAn h⟩
theorem good_l1_50_5 : GoodP rnL cd3 (F_T20w8n ++ lem_l1_50) T_T20w8n.toS aG19 aX20 aP31 := ⟨aO32, by kernel_rfl, fun _ h => dueAn h⟩
theorem good_l1_51_0 : GoodP rnL cd3 (F_T21r1n ++ lem_l1_51) T_T21r1n.toS aG19 aX20 aP21 := ⟨aO22, by kernel_rfl, fun _ h => dueAn h⟩
theorem good_l1_51_1 : GoodP rnL cd3 (F_T21r1n ++ lem_l1_51) T_T21r1n.toS aG19 aX20 aP23 := ⟨aO24, by kernel_rfl, fun _ h => dueAn h⟩
theorem good_l1_51_2 : GoodP rnL cd3 (F_T21r1n ++ lem_l1_51) T_T21r1n.toS aG19 aX20 aP25 := ⟨aO26, by kernel_rfl, fun _ h => dueAn h⟩
theorem good_l1_51_3 : GoodP rnL cd3 (F_T21r1n ++ lem_l1_51) T_T21r1n.toS aG19 aX20 aP27 := ⟨aO28, by kernel_rfl, fun _ h => dueAn h⟩
theorem good_l1_51_4 : GoodP rnL cd3 (F_T21r1n ++ lem_l1_51) T_T21r1n.toS aG19 aX20 aP29 := ⟨aO30, by kernel_rfl, fun _ h => dueAn h⟩
theorem good_l1_51_5 : GoodP rnL cd3 (F_T21r1n ++ lem_l1_51) T_T21r1n.toS aG19 aX20 aP31 := ⟨aO32, by kernel_rfl, fun _ h => dueAn h⟩
theorem good_l1_52_0 : GoodP rnL cd3 (F_T21r8n ++ lem_l1_52) T_T21r8n.toS aG19 aX20 aP21 := ⟨aO22, by kernel_rfl, fun _ h => dueAn h⟩
theorem good_l1_52_1 : GoodP rnL cd3 (F_T21r8n ++ lem_l1_52) T_T21r8n.toS aG19 aX20 aP23 := ⟨aO24, by kernel_rfl, fun _ h => dueAn h⟩
theorem good_l1_52_2 : GoodP rnL cd3 (F_T21r8n ++ lem_l1_52) T_T21r8n.toS aG19 aX20 aP25 := ⟨aO26, by kernel_rfl, fun _ h => dueAn h⟩
theorem good_l1_52_3 : GoodP rnL cd3 (F_T21r8n ++ lem_l1_52) T_T21r8n.toS aG19 aX20 aP27 := ⟨aO28, by kernel_rfl, fun _ h => dueAn h⟩
theorem good_l1_52_4 : GoodP rnL cd3 (F_T21r8n ++ lem_l1_52) T_T21r8n.toS aG19 aX20 aP29 := ⟨aO30, by kernel_rfl, fun _ h => dueAn h⟩
theorem good_l1_52_5 : GoodP rnL cd3 (F_T21r8n ++ lem_l1_52) T_T21r8n.toS aG19 aX20 aP31 := ⟨aO32, by kernel_rfl, fun _ h => dueAn h⟩
theorem good_l1_53_0 : GoodP rnL cd3 (F_T21w1n ++ lem_l1_53) T_T21w1n.toS aG19 aX20 aP21 := ⟨aO22, by kernel_rfl, fun _ h => dueAn h⟩
theorem good_l1_53_1 : GoodP rnL cd3 (F_T21w1n ++ lem_l1_53) T_T21w1n.toS aG19 aX20 aP23 := ⟨aO24, by kernel_rfl, fun _ h => dueAn h⟩
theorem good_l1_53_2 : GoodP rnL cd3 (F_T21w1n ++ lem_l1_53) T_T21w1n.toS aG19 aX20 aP25 := ⟨aO26, by kernel_rfl, fun _ h => dueAn h⟩
theorem good_l1_53_3 : GoodP rnL cd3 (F_T21w1n ++ lem_l1_53) T_T21w1n.toS aG19 aX20 aP27 := ⟨aO28, by kernel_rfl, fun _ h => dueAn h⟩
theorem good_l1_53_4 : GoodP rnL cd3 (F_T21w1n ++ lem_l1_53) T_T21w1n.toS aG19 aX20 aP29 := ⟨aO30, by kernel_rfl, fun _ h => dueAn h⟩
theorem good_l1_53_5 : GoodP rnL cd3 (F_T21w1n ++ lem_l1_53) T_T21w1n.toS aG19 aX20 aP31 := ⟨aO32, by kernel_rfl, fun _ h => dueAn h⟩
theorem good_l1_54_0 : GoodP rnL cd3 (F_T21w8n ++ lem_l1_54) T_T21w8n.toS aG19 aX20 aP21 := ⟨aO22, by kernel_rfl, fun _ h => dueAn h⟩
theorem good_l1_54_1 : GoodP rnL cd3 (F_T21w8n ++ lem_l1_54) T_T21w8n.toS aG19 aX20 aP23 := ⟨aO24, by kernel_rfl, fun _ h => dueAn h⟩
theorem good_l1_54_2 : GoodP rnL cd3 (F_T21w8n ++ lem_l1_54) T_T21w8n.toS aG19 aX20 aP25 := ⟨aO26, by kernel_rfl, fun _ h => dueAn h⟩
theorem good_l1_54_3 : GoodP rnL cd3 (F_T21w8n ++ lem_l1_54) T_T21w8n.toS aG19 aX20 aP27 := ⟨aO28, by kernel_rfl, fun _ h => dueAn h⟩
theorem good_l1_54_4 : GoodP rnL cd3 (F_T21w8n ++ lem_l1_54) T_T21w8n.toS aG19 aX20 aP29 := ⟨aO30, by kernel_rfl, fun _ h => dueAn h⟩
end Go.Proofs.Ytiocpbfbhbgfaaa.busAlone
