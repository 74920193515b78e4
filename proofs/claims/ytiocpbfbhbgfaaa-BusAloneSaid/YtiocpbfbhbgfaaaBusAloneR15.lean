/-
  'BusAlone': runs of its parts, checked by the kernel. Printed by program.
-/
import Derived.Test.YtiocpbfbhbgfaaaBusAloneL
namespace Go.Proofs.Ytiocpbfbhbgfaaa.busAlone
open Go.ChangeShapes Go.WideShapes Go.ChangeAt Go.RowKit Go.Sx
set_option linter.unusedVariables false
set_option linter.unusedSimpArgs false
set_option maxRecDepth 100000
set_option maxHeartbeats 1600000
theorem good_l1_44_5 : GoodP rnL cd3 (F_T13r8n ++ lem_l1_44) T_T13r8n.toS aG19 aX20 aP31 := ⟨aO32, by kernel_rfl, fun _ h => dueAn h⟩
theorem good_l1_45_0 : GoodP rnL cd3 (F_T13w1n ++ lem_l1_45) T_T13w1n.toS aG19 aX20 aP21 := ⟨aO22, by kernel_rfl, fun _ h => dueAn h⟩
theorem good_l1_45_1 : GoodP rnL cd3 (F_T13w1n ++ lem_l1_45) T_T13w1n.toS aG19 aX20 aP23 := ⟨aO24, by kernel_rfl, fun _ h => dueAn h⟩
theorem good_l1_45_2 : GoodP rnL cd3 (F_T13w1n ++ lem_l1_45) T_T13w1n.toS aG19 aX20 aP25 := ⟨aO26, by kernel_rfl, fun _ h => dueAn h⟩
theorem good_l1_45_3 : GoodP rnL cd3 (F_T13w1n ++ lem_l1_45) T_T13w1n.toS aG19 aX20 aP27 := ⟨aO28, by kernel_rfl, fun _ h => dueAn h⟩
theorem good_l1_45_4 : GoodP rnL cd3 (F_T13w1n ++ lem_l1_45) T_T13w1n.toS aG19 aX20 aP29 := ⟨aO30, by kernel_rfl, fun _ h => dueAn h⟩
theorem good_l1_45_5 : GoodP rnL cd3 (F_T13w1n ++ lem_l1_45) T_T13w1n.toS aG19 aX20 aP31 := ⟨aO32, by kernel_rfl, fun _ h => dueAn h⟩
theorem good_l1_46_0 : GoodP rnL cd3 (F_T13w8n ++ lem_l1_46) T_T13w8n.toS aG19 aX20 aP21 := ⟨aO22, by kernel_rfl, fun _ h => dueAn h⟩
theorem good_l1_46_1 : GoodP rnL cd3 (F_T13w8n ++ lem_l1_46) T_T13w8n.toS aG19 aX20 aP23 := ⟨aO24, by kernel_rfl, fun _ h => dueAn h⟩
theorem good_l1_46_2 : GoodP rnL cd3 (F_T13w8n ++ lem_l1_46) T_T13w8n.toS aG19 aX20 aP25 := ⟨aO26, by kernel_rfl, fun _ h => dueAn h⟩
theorem good_l1_46_3 : GoodP rnL cd3 (F_T13w8n ++ lem_l1_46) T_T13w8n.toS aG19 aX20 aP27 := ⟨aO28, by kernel_rfl, fun _ h => dueAn h⟩
theorem good_l1_46_4 : GoodP rnL cd3 (F_T13w8n ++ lem_l1_46) T_T13w8n.toS aG19 aX20 aP29 := ⟨aO30, by kernel_rfl, fun _ h => dueAn h⟩
theorem good_l1_46_5 : GoodP rnL cd3 (F_T13w8n ++ lem_l1_46) T_T13w8n.toS aG19 aX20 aP31 := ⟨aO32, by kernel_rfl, fun _ h => dueAn h⟩
theorem good_l1_47_0 : GoodP rnL cd3 (F_T20r1n ++ lem_l1_47) T_T20r1n.toS aG19 aX20 aP21 := ⟨aO22, by kernel_rfl, fun _ h => dueAn h⟩
theorem good_l1_47_1 : GoodP rnL cd3 (F_T20r1n ++ lem_l1_47) T_T20r1n.toS aG19 aX20 aP23 := ⟨aO24, by kernel_rfl, fun _ h => dueAn h⟩
theorem good_l1_47_2 : GoodP rnL cd3 (F_T20r1n ++ lem_l1_47) T_T20r1n.toS aG19 aX20 aP25 := ⟨aO26, by kernel_rfl, fun _ h => dueAn h⟩
theorem good_l1_47_3 : GoodP rnL cd3 (F_T20r1n ++ lem_l1_47) T_T20r1n.toS aG19 aX20 aP27 := ⟨aO28, by kernel_rfl, fun _ h => dueAn h⟩
theorem good_l1_47_4 : GoodP rnL cd3 (F_T20r1n ++ lem_l1_47) T_T20r1n.toS aG19 aX20 aP29 := ⟨aO30, by kernel_rfl, fun _ h => dueAn h⟩
theorem good_l1_47_5 : GoodP rnL cd3 (F_T20r1n ++ lem_l1_47) T_T20r1n.toS aG19 aX20 aP31 := ⟨aO32, by kernel_rfl, fun _ h => dueAn h⟩
theorem good_l1_48_0 : GoodP rnL cd3 (F_T20r8n ++ lem_l1_48) T_T20r8n.toS aG19 aX20 aP21 := ⟨aO22, by kernel_rfl, fun _ h => dueAn h⟩
theorem good_l1_48_1 : GoodP rnL cd3 (F_T20r8n ++ lem_l1_48) T_T20r8n.toS aG19 aX20 aP23 := ⟨aO24, by kernel_rfl, fun _ h => dueAn h⟩
theorem good_l1_48_2 : GoodP rnL cd3 (F_T20r8n ++ lem_l1_48) T_T20r8n.toS aG19 aX20 aP25 := ⟨aO26, by kernel_rfl, fun _ h => dueAn h⟩
theorem good_l1_48_3 : GoodP rnL cd3 (F_T20r8n ++ lem_l1_48) T_T20r8n.toS aG19 aX20 aP27 := ⟨aO28, by kernel_rfl, fun _ h => dueAn h⟩
theorem good_l1_48_4 : GoodP rnL cd3 (F_T20r8n ++ lem_l1_48) T_T20r8n.toS aG19 aX20 aP29 := ⟨aO30, by kernel_rfl, fun _ h => dueAn h⟩
theorem good_l1_48_5 : GoodP rnL cd3 (F_T20r8n ++ lem_l1_48) T_T20r8n.toS aG19 aX20 aP31 := ⟨aO32, by kernel_rfl, fun _ h => dueAn h⟩
theorem good_l1_49_0 : GoodP rnL cd3 (F_T20w1n ++ lem_l1_49) T_T20w1n.toS aG19 aX20 aP21 := ⟨aO22, by kernel_rfl, fun _ h => dueAn h⟩
theorem good_l1_49_1 : GoodP rnL cd3 (F_T20w1n ++ lem_l1_49) T_T20w1n.toS aG19 aX20 aP23 := ⟨aO24, by kernel_rfl, fun _ h => dueAn h⟩
theorem good_l1_49_2 : GoodP rnL cd3 (F_T20w1n ++ lem_l1_49) T_T20w1n.toS aG19 aX20 aP25 := ⟨aO26, by kernel_rfl, fun _ h => dueAn h⟩
theorem good_l1_49_3 : GoodP rnL cd3 (F_T20w1n ++ lem_l1_49) T_T20w1n.toS aG19 aX20 aP27 := ⟨aO28, by kernel_rfl, fun _ h => dueAn h⟩
theorem good_l1_49_4 : GoodP rnL cd3 (F_T20w1n ++ lem_l1_49) T_T20w1n.toS aG19 aX20 aP29 := ⟨aO30, by kernel_rfl, fun _ h => dueAn h⟩
end Go.Proofs.Ytiocpbfbhbgfaaa.busAlone
