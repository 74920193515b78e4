/-
  'BusAlone': runs of its parts, checked by the kernel. Printed by program.
-/
import Derived.Test.YtiocpbfbhbgfaaaBusAloneL
namespace Go.Proofs.Ytiocpbfbhbgfaaa.busAlone
open Go.ChangeShapes Go.WideShapes Go.ChangeAt Go.RowKit Go.Sx
set_option linter.unusedVariables false
set_option linter.unusedSimpArgs false
set_option maxRecDepth 100000
set_option maxHeartbeats 1600000
theorem good_l1_12_0 : GoodP rnL ((cd2.take 8).drop 1) (F_B0n ++ lem_l1_12) aS16 aG2 aX3 aP4 := ⟨[], by kernel_rfl, fun ρ _ ob h => absurd h List.not_mem_nil⟩
theorem good_l1_12_1 : GoodP rnL ((cd2.take 8).drop 1) (F_B0n ++ lem_l1_12) aS16 aG2 aX3 aP5 := ⟨[], by kernel_rfl, fun ρ _ ob h => absurd h List.not_mem_nil⟩
theorem good_l1_12_2 : GoodP rnL ((cd2.take 8).drop 1) (F_B0n ++ lem_l1_12) aS16 aG2 aX3 aP6 := ⟨[], by kernel_rfl, fun ρ _ ob h => absurd h List.not_mem_nil⟩
theorem good_l1_12_3 : GoodP rnL ((cd2.take 8).drop 1) (F_B0n ++ lem_l1_12) aS16 aG2 aX3 aP7 := ⟨[], by kernel_rfl, fun ρ _ ob h => absurd h List.not_mem_nil⟩
theorem good_l1_12_4 : GoodP rnL ((cd2.take 8).drop 1) (F_B0n ++ lem_l1_12) aS16 aG2 aX3 aP8 := ⟨[], by kernel_rfl, fun ρ _ ob h => absurd h List.not_mem_nil⟩
theorem good_l1_12_5 : GoodP rnL ((cd2.take 8).drop 1) (F_B0n ++ lem_l1_12) aS16 aG2 aX3 aP9 := ⟨[], by kernel_rfl, fun ρ _ ob h => absurd h List.not_mem_nil⟩
end Go.Proofs.Ytiocpbfbhbgfaaa.busAlone
