/-
  'BusAlone': runs of its parts, checked by the kernel. Printed by program.
-/
import Derived.Test.YtiocpbfbhbgfaaaBusAloneL
namespace Go.Proofs.Ytiocpbfbhbgfaaa.busAlone
open Go.ChangeShapes Go.WideShapes Go.ChangeAt Go.RowKit Go.Sx
set_option linter.unusedVariables false
set_option linter.unusedSimpArgs false
set_option maxRecDepth 100000
set_option maxHeartbeats 1600000
theorem good_l3_76_11 : GoodP rnL ((cd2.take 8).drop 1) (F_B0 ++ lem_l3_76) aS39 aG40 aX41 aP15 := ⟨[], by kernel_rfl, fun ρ _ ob h => absurd h List.not_mem_nil⟩
theorem good_l3_77_0 : GoodP rnL ((cd2.take 8).drop 1) (F_B0 ++ lem_l3_77) aS42 aG40 aX41 aP4 := ⟨[], by kernel_rfl, fun ρ _ ob h => absurd h List.not_mem_nil⟩
theorem good_l3_77_1 : GoodP rnL ((cd2.take 8).drop 1) (F_B0 ++ lem_l3_77) aS42 aG40 aX41 aP5 := ⟨[], by kernel_rfl, fun ρ _ ob h => absurd h List.not_mem_nil⟩
theorem good_l3_77_2 : GoodP rnL ((cd2.take 8).drop 1) (F_B0 ++ lem_l3_77) aS42 aG40 aX41 aP6 := ⟨[], by kernel_rfl, fun ρ _ ob h => absurd h List.not_mem_nil⟩
theorem good_l3_77_3 : GoodP rnL ((cd2.take 8).drop 1) (F_B0 ++ lem_l3_77) aS42 aG40 aX41 aP7 := ⟨[], by kernel_rfl, fun ρ _ ob h => absurd h List.not_mem_nil⟩
theorem good_l3_77_4 : GoodP rnL ((cd2.take 8).drop 1) (F_B0 ++ lem_l3_77) aS42 aG40 aX41 aP8 := ⟨[], by kernel_rfl, fun ρ _ ob h => absurd h List.not_mem_nil⟩
theorem good_l3_77_5 : GoodP rnL ((cd2.take 8).drop 1) (F_B0 ++ lem_l3_77) aS42 aG40 aX41 aP9 := ⟨[], by kernel_rfl, fun ρ _ ob h => absurd h List.not_mem_nil⟩
theorem good_l3_77_6 : GoodP rnL ((cd2.take 8).drop 1) (F_B0 ++ lem_l3_77) aS42 aG40 aX41 aP10 := ⟨[], by kernel_rfl, fun ρ _ ob h => absurd h List.not_mem_nil⟩
end Go.Proofs.Ytiocpbfbhbgfaaa.busAlone
