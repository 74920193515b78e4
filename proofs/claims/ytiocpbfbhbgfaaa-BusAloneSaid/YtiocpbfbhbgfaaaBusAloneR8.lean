/-
  'BusAlone': runs of its parts, checked by the kernel. Printed by program.
-/
import Derived.Test.YtiocpbfbhbgfaaaBusAloneL
namespace Go.Proofs.Ytiocpbfbhbgfaaa.busAlone
open Go.ChangeShapes Go.WideShapes Go.ChangeAt Go.RowKit Go.Sx
set_option linter.unusedVariables false
set_option linter.unusedSimpArgs false
set_option maxRecDepth 100000
set_option maxHeartbeats 1600000
theorem good_l1_14_7 : GoodP rnL ((cd2.take 8).drop 1) (F_B0n ++ lem_l1_14) aS18 aG2 aX3 aP11 := ⟨[], by kernel_rfl, fun ρ _ ob h => absurd h List.not_mem_nil⟩
theorem good_l1_14_8 : GoodP rnL ((cd2.take 8).drop 1) (F_B0n ++ lem_l1_14) aS18 aG2 aX3 aP12 := ⟨[], by kernel_rfl, fun ρ _ ob h => absurd h List.not_mem_nil⟩
theorem good_l1_14_9 : GoodP rnL ((cd2.take 8).drop 1) (F_B0n ++ lem_l1_14) aS18 aG2 aX3 aP13 := ⟨[], by kernel_rfl, fun ρ _ ob h => absurd h List.not_mem_nil⟩
theorem good_l1_14_10 : GoodP rnL ((cd2.take 8).drop 1) (F_B0n ++ lem_l1_14) aS18 aG2 aX3 aP14 := ⟨[], by kernel_rfl, fun ρ _ ob h => absurd h List.not_mem_nil⟩
theorem good_l1_14_11 : GoodP rnL ((cd2.take 8).drop 1) (F_B0n ++ lem_l1_14) aS18 aG2 aX3 aP15 := ⟨[], by kernel_rfl, fun ρ _ ob h => absurd h List.not_mem_nil⟩
theorem good_l1_15_0 : GoodP rnL cd3 (F_T00r1n ++ lem_l1_15) T_T00r1n.toS aG19 aX20 aP21 := ⟨aO22, by kernel_rfl, fun _ h => dueAn h⟩
theorem good_l1_15_1 : GoodP rnL cd3 (F_T00r1n ++ lem_l1_15) T_T00r1n.toS aG19 aX20 aP23 := ⟨aO24, by kernel_rfl, fun _ h => dueAn h⟩
theorem good_l1_15_2 : GoodP rnL cd3 (F_T00r1n ++ lem_l1_15) T_T00r1n.toS aG19 aX20 aP25 := ⟨aO26, by kernel_rfl, fun _ h => dueAn h⟩
theorem good_l1_15_3 : GoodP rnL cd3 (F_T00r1n ++ lem_l1_15) T_T00r1n.toS aG19 aX20 aP27 := ⟨aO28, by kernel_rfl, fun _ h => dueAn h⟩
end Go.Proofs.Ytiocpbfbhbgfaaa.busAlone
