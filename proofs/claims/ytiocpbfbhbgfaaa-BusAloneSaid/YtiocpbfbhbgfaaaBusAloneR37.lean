/-
  'BusAlone': runs of its parts, checked by the kernel. Printed by program.
-/
import Derived.Test.YtiocpbfbhbgfaaaBusAloneL
namespace Go.Proofs.Ytiocpbfbhbgfaaa.busAlone
open Go.ChangeShapes Go.WideShapes Go.ChangeAt Go.RowKit Go.Sx
set_option linter.unusedVariables false
set_option linter.unusedSimpArgs false
set_option maxRecDepth 100000
set_option maxHeartbeats 1600000
theorem good_l3_129_2 : GoodP rnL cd3 (F_Uw ++ lem_l3_129) T_Uw.toS aG45 aX46 aP35 := ⟨[], by kernel_rfl, fun ρ _ ob h => absurd h List.not_mem_nil⟩
theorem good_l3_130_0 : GoodP rnL cd3 (F_Ur ++ lem_l3_130) T_Ur.toS aG45 aX46 aP33 := ⟨[], by kernel_rfl, fun ρ _ ob h => absurd h List.not_mem_nil⟩
theorem good_l3_130_1 : GoodP rnL cd3 (F_Ur ++ lem_l3_130) T_Ur.toS aG45 aX46 aP34 := ⟨[], by kernel_rfl, fun ρ _ ob h => absurd h List.not_mem_nil⟩
theorem good_l3_130_2 : GoodP rnL cd3 (F_Ur ++ lem_l3_130) T_Ur.toS aG45 aX46 aP35 := ⟨[], by kernel_rfl, fun ρ _ ob h => absurd h List.not_mem_nil⟩
theorem good_l3_131_0 : GoodP rnL cd3 (F_UR ++ lem_l3_131) T_UR.toS aG45 aX46 aP33 := ⟨[], by kernel_rfl, fun ρ _ ob h => absurd h List.not_mem_nil⟩
theorem good_l3_131_1 : GoodP rnL cd3 (F_UR ++ lem_l3_131) T_UR.toS aG45 aX46 aP34 := ⟨[], by kernel_rfl, fun ρ _ ob h => absurd h List.not_mem_nil⟩
theorem good_l3_131_2 : GoodP rnL cd3 (F_UR ++ lem_l3_131) T_UR.toS aG45 aX46 aP35 := ⟨[], by kernel_rfl, fun ρ _ ob h => absurd h List.not_mem_nil⟩
theorem good_l3_132_0 : GoodP rnL (cd2.drop 9) (F_Ve ++ lem_l3_132) T_Ve.toS aG47 aX41 [] := ⟨[], by kernel_rfl, fun ρ _ ob h => absurd h List.not_mem_nil⟩
theorem good_l3_133_0 : GoodP rnL (cd2.drop 9) (F_Vw ++ lem_l3_133) T_Vw.toS aG47 aX41 [] := ⟨[], by kernel_rfl, fun ρ _ ob h => absurd h List.not_mem_nil⟩
theorem good_l3_134_0 : GoodP rnL (cd2.drop 9) (F_Vr ++ lem_l3_134) T_Vr.toS aG47 aX41 [] := ⟨[], by kernel_rfl, fun ρ _ ob h => absurd h List.not_mem_nil⟩
end Go.Proofs.Ytiocpbfbhbgfaaa.busAlone
