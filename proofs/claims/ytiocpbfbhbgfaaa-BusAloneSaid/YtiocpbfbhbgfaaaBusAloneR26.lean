/-
  'BusAlone': runs of its parts, checked by the kernel. Printed by program.
-/
import Derived.Test.YtiocpbfbhbgfaaaBusAloneL
namespace Go.Proofs.Ytiocpbfbhbgfaaa.busAlone
open Go.ChangeShapes Go.WideShapes Go.ChangeAt Go.RowKit Go.Sx
set_option linter.unusedVariables false
set_option linter.unusedSimpArgs false
set_option maxRecDepth 100000
set_option maxHeartbeats 1600000
theorem good_l3_79_10 : GoodP rnL ((cd2.take 8).drop 1) (F_B0 ++ lem_l3_79) aS44 aG40 aX41 aP14 := ⟨[], by kernel_rfl, fun ρ _ ob h => absurd h List.not_mem_nil⟩
theorem good_l3_79_11 : GoodP rnL ((cd2.take 8).drop 1) (F_B0 ++ lem_l3_79) aS44 aG40 aX41 aP15 := ⟨[], by kernel_rfl, fun ρ _ ob h => absurd h List.not_mem_nil⟩
theorem good_l3_80_0 : GoodP rnL cd3 (F_T00r1 ++ lem_l3_80) T_T00r1.toS aG45 aX46 aP21 := ⟨aO22, by kernel_rfl, fun _ h => dueA h⟩
theorem good_l3_80_1 : GoodP rnL cd3 (F_T00r1 ++ lem_l3_80) T_T00r1.toS aG45 aX46 aP23 := ⟨aO24, by kernel_rfl, fun _ h => dueA h⟩
theorem good_l3_80_2 : GoodP rnL cd3 (F_T00r1 ++ lem_l3_80) T_T00r1.toS aG45 aX46 aP25 := ⟨aO26, by kernel_rfl, fun _ h => dueA h⟩
theorem good_l3_80_3 : GoodP rnL cd3 (F_T00r1 ++ lem_l3_80) T_T00r1.toS aG45 aX46 aP27 := ⟨aO28, by kernel_rfl, fun _ h => dueA h⟩
theorem good_l3_80_4 : GoodP rnL cd3 (F_T00r1 ++ lem_l3_80) T_T00r1.toS aG45 aX46 aP29 := ⟨aO30, by kernel_rfl, fun _ h => dueA h⟩
theorem good_l3_80_5 : GoodP rnL cd3 (F_T00r1 ++ lem_l3_80) T_T00r1.toS aG45 aX46 aP31 := ⟨aO32, by kernel_rfl, fun _ h => dueA h⟩
theorem good_l3_81_0 : GoodP rnL cd3 (F_T00r8 ++ lem_l3_81) T_T00r8.toS aG45 aX46 aP21 := ⟨aO22, by kernel_rfl, fun _ h => dueA h⟩
theorem good_l3_81_1 : GoodP rnL cd3 (F_T00r8 ++ lem_l3_81) T_T00r8.toS aG45 aX46 aP23 := ⟨aO24, by kernel_rfl, fun _ h => dueA h⟩
theorem good_l3_81_2 : GoodP rnL cd3 (F_T00r8 ++ lem_l3_81) T_T00r8.toS aG45 aX46 aP25 := ⟨aO26, by kernel_rfl, fun _ h => dueA h⟩
theorem good_l3_81_3 : GoodP rnL cd3 (F_T00r8 ++ lem_l3_81) T_T00r8.toS aG45 aX46 aP27 := ⟨aO28, by kernel_rfl, fun _ h => dueA h⟩
theorem good_l3_81_4 : GoodP rnL cd3 (F_T00r8 ++ lem_l3_81) T_T00r8.toS aG45 aX46 aP29 := ⟨aO30, by kernel_rfl, fun _ h => dueA h⟩
theorem good_l3_81_5 : GoodP rnL cd3 (F_T00r8 ++ lem_l3_81) T_T00r8.toS aG45 aX46 aP31 := ⟨aO32, by kernel_rfl, fun _ h => dueA h⟩
theorem good_l3_82_0 : GoodP rnL cd3 (F_T00w1 ++ lem_l3_82) T_T00w1.toS aG45 aX46 aP21 := ⟨aO22, by kernel_rfl, fun _ h => dueA h⟩
theorem good_l3_82_1 : GoodP rnL cd3 (F_T00w1 ++ lem_l3_82) T_T00w1.toS aG45 aX46 aP23 := ⟨aO24, by kernel_rfl, fun _ h => dueA h⟩
theorem good_l3_82_2 : GoodP rnL cd3 (F_T00w1 ++ lem_l3_82) T_T00w1.toS aG45 aX46 aP25 := ⟨aO26, by kernel_rfl, fun _ h => dueA h⟩
theorem good_l3_82_3 : GoodP rnL cd3 (F_T00w1 ++ lem_l3_82) T_T00w1.toS aG45 aX46 aP27 := ⟨aO28, by kernel_rfl, fun _ h => dueA h⟩
theorem good_l3_82_4 : GoodP rnL cd3 (F_T00w1 ++ lem_l3_82) T_T00w1.toS aG45 aX46 aP29 := ⟨aO30, by kernel_rfl, fun _ h => dueA h⟩
end Go.Proofs.Ytiocpbfbhbgfaaa.busAlone
