/-
  'BusAlone': runs of its parts, checked by the kernel. Printed by program.
-/
import Derived.Test.YtiocpbfbhbgfaaaBusAloneL
namespace Go.Proofs.Ytiocpbfbhbgfaaa.busAlone
open Go.ChangeShapes Go.WideShapes Go.ChangeAt Go.RowKit Go.Sx
set_option linter.unusedVariables false
set_option linter.unusedSimpArgs false
set_option maxRecDepth 100000
set_option maxHeartbeats 1600000
theorem good_l1_11_5 : GoodP rnL ((cd2.take 8).drop 1) (F_B0n ++ lem_l1_11) aS1 aG2 aX3 aP9 := ⟨[], by kernel_rfl, fun ρ _ ob h => absurd h List.not_mem_nil⟩
theorem good_l1_11_6 : GoodP rnL ((cd2.take 8).drop 1) (F_B0n ++ lem_l1_11) aS1 aG2 aX3 aP10 := ⟨[], by kernel_rfl, fun ρ _ ob h => absurd h List.not_mem_nil⟩
theorem good_l1_11_7 : GoodP rnL ((cd2.take 8).drop 1) (F_B0n ++ lem_l1_11) aS1 aG2 aX3 aP11 := ⟨[], by kernel_rfl, fun ρ _ ob h => absurd h List.not_mem_nil⟩
theorem good_l1_11_8 : GoodP rnL ((cd2.take 8).drop 1) (F_B0n ++ lem_l1_11) aS1 aG2 aX3 aP12 := ⟨[], by kernel_rfl, fun ρ _ ob h => absurd h List.not_mem_nil⟩
theorem good_l1_11_9 : GoodP rnL ((cd2.take 8).drop 1) (F_B0n ++ lem_l1_11) aS1 aG2 aX3 aP13 := ⟨[], by kernel_rfl, fun ρ _ ob h => absurd h List.not_mem_nil⟩
theorem good_l1_11_10 : GoodP rnL ((cd2.take 8).drop 1) (F_B0n ++ lem_l1_11) aS1 aG2 aX3 aP14 := ⟨[], by kernel_rfl, fun ρ _ ob h => absurd h List.not_mem_nil⟩
theorem good_l1_11_11 : GoodP rnL ((cd2.take 8).drop 1) (F_B0n ++ lem_l1_11) aS1 aG2 aX3 aP15 := ⟨[], by kernel_rfl, fun ρ _ ob h => absurd h List.not_mem_nil⟩
end Go.Proofs.Ytiocpbfbhbgfaaa.busAlone
