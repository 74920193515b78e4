/-
  'BusAlone': runs of its parts, checked by the kernel. Printed by program.
-/
import Derived.Test.YtiocpbfbhbgfaaaBusAloneL
namespace Go.Proofs.Ytiocpbfbhbgfaaa.busAlone
open Go.ChangeShapes Go.WideShapes Go.ChangeAt Go.RowKit Go.Sx
set_option linter.unusedVariables false
set_option linter.unusedSimpArgs false
set_option maxRecDepth 100000
set_option maxHeartbeats 1600000
theorem good_l3_76_2 : GoodP rnL ((cd2.take 8).drop 1) (F_B0 ++ lem_l3_76) aS39 aG40 aX41 aP6 := ⟨[], by kernel_rfl, fun ρ _ ob h => absurd h List.not_mem_nil⟩
theorem good_l3_76_3 : GoodP rnL ((cd2.take 8).drop 1) (F_B0 ++ lem_l3_76) aS39 aG40 aX41 aP7 := ⟨[], by kernel_rfl, fun ρ _ ob h => absurd h List.not_mem_nil⟩
theorem good_l3_76_4 : GoodP rnL ((cd2.take 8).drop 1) (F_B0 ++ lem_l3_76) aS39 aG40 aX41 aP8 := ⟨[], by kernel_rfl, fun ρ _ ob h => absurd h List.not_mem_nil⟩
theorem good_l3_76_5 : GoodP rnL ((cd2.take 8).drop 1) (F_B0 ++ lem_l3_76) aS39 aG40 aX41 aP9 := ⟨[], by kernel_rfl, fun ρ _ ob h => absurd h List.not_mem_nil⟩
theorem good_l3_76_6 : GoodP rnL ((cd2.take 8).drop 1) (F_B0 ++ lem_l3_76) aS39 aG40 aX41 aP10 := ⟨[], by kernel_rfl, fun ρ _ ob h => absurd h List.not_mem_nil⟩
theorem good_l3_76_7 : GoodP rnL ((cd2.take 8).drop 1) (F_B0 ++ lem_l3_76) aS39 aG40 aX41 aP11 := ⟨[], by kernel_rfl, fun ρ _ ob h => absurd h List.not_mem_nil⟩
theorem good_l3_76_8 : GoodP rnL ((cd2.take 8).drop 1) (F_B0 ++ lem_l3_76) aS39 aG40 aX41 aP12 := ⟨[], by kernel_rfl, fun ρ _ ob h => absurd h List.not_mem_nil⟩
theorem good_l3_76_9 : GoodP rnL ((cd2.take 8).drop 1) (F_B0 ++ lem_l3_76) aS39 aG40 aX41 aP13 := ⟨[], by kernel_rfl, fun ρ _ ob h => absurd h List.not_mem_nil⟩
theorem good_l3_76_10 : GoodP rnL ((cd2.take 8).drop 1) (F_B0 ++ lem_l3_76) aS39 aG40 aX41 aP14 := ⟨[], by kernel_rfl, fun ρ _ ob h => absurd h List.not_mem_nil⟩
end Go.Proofs.Ytiocpbfbhbgfaaa.busAlone
