/-
  'BusAlone': runs of its parts, checked by the kernel. Printed by program.
-/
import Derived.Test.YtiocpbfbhbgfaaaBusAloneL
namespace Go.Proofs.Ytiocpbfbhbgfaaa.busAlone
open Go.ChangeShapes Go.WideShapes Go.ChangeAt Go.RowKit Go.Sx
set_option linter.unusedVariables false
set_option linter.unusedSimpArgs false
set_option maxRecDepth 100000
set_option maxHeartbeats 1600000
theorem good_l1_59_3 : GoodP rnL cd3 (F_T23r1n ++ lem_l1_59) T_T23r1n.toS aG19 aX20 aP27 := ⟨aO28, by kernel_rfl, fun _ h => dueAn h⟩
theorem good_l1_59_4 : GoodP rnL cd3 (F_T23r1n ++ lem_l1_59) T_T23r1n.toS aG19 aX20 aP29 := ⟨aO30, by kernel_rfl, fun _ h => dueAn h⟩
theorem good_l1_59_5 : GoodP rnL cd3 (F_T23r1n ++ lem_l1_59) T_T23r1n.toS aG19 aX20 aP31 := ⟨aO32, by kernel_rfl, fun _ h => dueAn h⟩
theorem good_l1_60_0 : GoodP rnL cd3 (F_T23r8n ++ lem_l1_60) T_T23r8n.toS aG19 aX20 aP21 := ⟨aO22, by kernel_rfl, fun _ h => dueAn h⟩
theorem good_l1_60_1 : GoodP rnL cd3 (F_T23r8n ++ lem_l1_60) T_T23r8n.toS aG19 aX20 aP23 := ⟨aO24, by kernel_rfl, fun _ h => dueAn h⟩
theorem good_l1_60_2 : GoodP rnL cd3 (F_T23r8n ++ lem_l1_60) T_T23r8n.toS aG19 aX20 aP25 := ⟨aO26, by kernel_rfl, fun _ h => dueAn h⟩
theorem good_l1_60_3 : GoodP rnL cd3 (F_T23r8n ++ lem_l1_60) T_T23r8n.toS aG19 aX20 aP27 := ⟨aO28, by kernel_rfl, fun _ h => dueAn h⟩
theorem good_l1_60_4 : GoodP rnL cd3 (F_T23r8n ++ lem_l1_60) T_T23r8n.toS aG19 aX20 aP29 := ⟨aO30, by kernel_rfl, fun _ h => dueAn h⟩
theorem good_l1_60_5 : GoodP rnL cd3 (F_T23r8n ++ lem_l1_60) T_T23r8n.toS aG19 aX20 aP31 := ⟨aO32, by kernel_rfl, fun _ h => dueAn h⟩
theorem good_l1_61_0 : GoodP rnL cd3 (F_T23w1n ++ lem_l1_61) T_T23w1n.toS aG19 aX20 aP21 := ⟨aO22, by kernel_rfl, fun _ h => dueAn h⟩
theorem good_l1_61_1 : GoodP rnL cd3 (F_T23w1n ++ lem_l1_61) T_T23w1n.toS aG19 aX20 aP23 := ⟨aO24, by kernel_rfl, fun _ h => dueAn h⟩
theorem good_l1_61_2 : GoodP rnL cd3 (F_T23w1n ++ lem_l1_61) T_T23w1n.toS aG19 aX20 aP25 := ⟨aO26, by kernel_rfl, fun _ h => dueAn h⟩
theorem good_l1_61_3 : GoodP rnL cd3 (F_T23w1n ++ lem_l1_61) T_T23w1n.toS aG19 aX20 aP27 := ⟨aO28, by kernel_rfl, fun _ h => dueAn h⟩
theorem good_l1_61_4 : GoodP rnL cd3 (F_T23w1n ++ lem_l1_61) T_T23w1n.toS aG19 aX20 aP29 := ⟨aO30, by kernel_rfl, fun _ h => dueAn h⟩
theorem good_l1_61_5 : GoodP rnL cd3 (F_T23w1n ++ lem_l1_61) T_T23w1n.toS aG19 aX20 aP31 := ⟨aO32, by kernel_rfl, fun _ h => dueAn h⟩
theorem good_l1_62_0 : GoodP rnL cd3 (F_T23w8n ++ lem_l1_62) T_T23w8n.toS aG19 aX20 aP21 := ⟨aO22, by kernel_rfl, fun _ h => dueAn h⟩
theorem good_l1_62_1 : GoodP rnL cd3 (F_T23w8n ++ lem_l1_62) T_T23w8n.toS aG19 aX20 aP23 := ⟨aO24, by kernel_rfl, fun _ h => dueAn h⟩
theorem good_l1_62_2 : GoodP rnL cd3 (F_T23w8n ++ lem_l1_62) T_T23w8n.toS aG19 aX20 aP25 := ⟨aO26, by kernel_rfl, fun _ h => dueAn h⟩
theorem good_l1_62_3 : GoodP rnL cd3 (F_T23w8n ++ lem_l1_62) T_T23w8n.toS aG19 aX20 aP27 := ⟨aO28, by kernel_rfl, fun _ h => dueAn h⟩
theorem good_l1_62_4 : GoodP rnL cd3 (F_T23w8n ++ lem_l1_62) T_T23w8n.toS aG19 aX20 aP29 := ⟨aO30, by kernel_rfl, fun _ h => dueAn h⟩
theorem good_l1_62_5 : GoodP rnL cd3 (F_T23w8n ++ lem_l1_62) T_T23w8n.toS aG19 aX20 aP31 := ⟨aO32, by kernel_rfl, fun _ h => dueAn h⟩
theorem good_l1_63_0 : GoodP rnL cd3 (F_Uen ++ lem_l1_63) T_Uen.toS aG19 aX20 aP33 := ⟨[], by kernel_rfl, fun ρ _ ob h => absurd h List.not_mem_nil⟩
theorem good_l1_63_1 : GoodP rnL cd3 (F_Uen ++ lem_l1_63) T_Uen.toS aG19 aX20 aP34 := ⟨[], by kernel_rfl, fun ρ _ ob h => absurd h List.not_mem_nil⟩
theorem good_l1_63_2 : GoodP rnL cd3 (F_Uen ++ lem_l1_63) T_Uen.toS aG19 aX20 aP35 := ⟨[], by kernel_rfl, fun ρ _ ob h => absurd h List.not_mem_nil⟩
theorem good_l1_64_0 : GoodP rnL cd3 (F_Uwn ++ lem_l1_64) T_Uwn.toS aG19 aX20 aP33 := ⟨[], by kernel_rfl, fun ρ _ ob h => absurd h List.not_mem_nil⟩
end Go.Proofs.Ytiocpbfbhbgfaaa.busAlone
