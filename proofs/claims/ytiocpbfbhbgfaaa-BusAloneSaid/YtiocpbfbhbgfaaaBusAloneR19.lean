/-
  'BusAlone': runs of its parts, checked by the kernel. Printed by program.
-/
import Derived.Test.YtiocpbfbhbgfaaaBusAloneL
namespace Go.Proofs.Ytiocpbfbhbgfaaa.busAlone
open Go.ChangeShapes Go.WideShapes Go.ChangeAt Go.RowKit Go.Sx
set_option linter.unusedVariables false
set_option linter.unusedSimpArgs false
set_option maxRecDepth 100000
set_option maxHeartbeats 1600000
theorem good_l1_64_1 : GoodP rnL cd3 (F_Uwn ++ lem_l1_64) T_Uwn.toS aG19 aX20 aP34 := ⟨[], by kernel_rfl, fun ρ _ ob h => absurd h List.not_mem_nil⟩
theorem good_l1_64_2 : GoodP rnL cd3 (F_Uwn ++ lem_l1_64) T_Uwn.toS aG19 aX20 aP35 := ⟨[], by kernel_rfl, fun ρ _ ob h => absurd h List.not_mem_nil⟩
theorem good_l1_65_0 : GoodP rnL cd3 (F_Urn ++ lem_l1_65) T_Urn.toS aG19 aX20 aP33 := ⟨[], by kernel_rfl, fun ρ _ ob h => absurd h List.not_mem_nil⟩
theorem good_l1_65_1 : GoodP rnL cd3 (F_Urn ++ lem_l1_65) T_Urn.toS aG19 aX20 aP34 := ⟨[], by kernel_rfl, fun ρ _ ob h => absurd h List.not_mem_nil⟩
theorem good_l1_65_2 : GoodP rnL cd3 (F_Urn ++ lem_l1_65) T_Urn.toS aG19 aX20 aP35 := ⟨[], by kernel_rfl, fun ρ _ ob h => absurd h List.not_mem_nil⟩
theorem good_l1_66_0 : GoodP rnL cd3 (F_URn ++ lem_l1_66) T_URn.toS aG19 aX20 aP33 := ⟨[], by kernel_rfl, fun ρ _ ob h => absurd h List.not_mem_nil⟩
theorem good_l1_66_1 : GoodP rnL cd3 (F_URn ++ lem_l1_66) T_URn.toS aG19 aX20 aP34 := ⟨[], by kernel_rfl, fun ρ _ ob h => absurd h List.not_mem_nil⟩
theorem good_l1_66_2 : GoodP rnL cd3 (F_URn ++ lem_l1_66) T_URn.toS aG19 aX20 aP35 := ⟨[], by kernel_rfl, fun ρ _ ob h => absurd h List.not_mem_nil⟩
theorem good_l1_67_0 : GoodP rnL (cd2.drop 9) (F_Ven ++ lem_l1_67) T_Ven.toS aG36 aX3 [] := ⟨[], by kernel_rfl, fun ρ _ ob h => absurd h List.not_mem_nil⟩
theorem good_l1_68_0 : GoodP rnL (cd2.drop 9) (F_Vwn ++ lem_l1_68) T_Vwn.toS aG36 aX3 [] := ⟨[], by kernel_rfl, fun ρ _ ob h => absurd h List.not_mem_nil⟩
theorem good_l1_69_0 : GoodP rnL (cd2.drop 9) (F_Vrn ++ lem_l1_69) T_Vrn.toS aG36 aX3 [] := ⟨[], by kernel_rfl, fun ρ _ ob h => absurd h List.not_mem_nil⟩
theorem good_l1_70_0 : GoodP rnL (cd2.drop 9) (F_VRn ++ lem_l1_70) T_VRn.toS aG36 aX3 [] := ⟨[], by kernel_rfl, fun ρ _ ob h => absurd h List.not_mem_nil⟩
theorem good_l1_71_0 : GoodP rnL (cd1.drop 3) (F_C0n ++ lem_l1_71) T_C0n.toS aG37 [(0, ⟨T_E0n, F_E0n, [], []⟩)] [] := ⟨[], by kernel_rfl, fun ρ _ ob h => absurd h List.not_mem_nil⟩
theorem good_l1_72_0 : GoodP rnL (cd0.drop 7) (F_E0n ++ lem_l1_72) T_E0n.toS none [] [] := ⟨[], by kernel_rfl, fun ρ _ ob h => absurd h List.not_mem_nil⟩
theorem good_l2_73_0 : GoodP rnL cd0 (facts2 ++ lem_l2_73) st2 none [] [] := ⟨[], by kernel_rfl, fun ρ _ ob h => absurd h List.not_mem_nil⟩
theorem good_l3_74_0 : GoodP rnL (cd0.take 6) (facts3 ++ lem_l3_74) st3 (some ⟨T_A0, F_A0, [], []⟩) [] [] := ⟨[], by kernel_rfl, fun ρ _ ob h => absurd h List.not_mem_nil⟩
theorem good_l3_75_0 : GoodP rnL (cd1.take 2) (F_A0 ++ lem_l3_75) T_A0.toS aG38 [(0, ⟨T_E0, F_E0, [], []⟩)] [] := ⟨[], by kernel_rfl, fun ρ _ ob h => absurd h List.not_mem_nil⟩
theorem good_l3_76_0 : GoodP rnL ((cd2.take 8).drop 1) (F_B0 ++ lem_l3_76) aS39 aG40 aX41 aP4 := ⟨[], by kernel_rfl, fun ρ _ ob h => absurd h List.not_mem_nil⟩
theorem good_l3_76_1 : GoodP rnL ((cd2.take 8).drop 1) (F_B0 ++ lem_l3_76) aS39 aG40 aX41 aP5 := ⟨[], by kernel_rfl, fun ρ _ ob h => absurd h List.not_mem_nil⟩
end Go.Proofs.Ytiocpbfbhbgfaaa.busAlone
