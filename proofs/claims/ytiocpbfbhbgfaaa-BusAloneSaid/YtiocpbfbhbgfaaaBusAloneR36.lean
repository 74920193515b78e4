/-
  'BusAlone': runs of its parts, checked by the kernel. Printed by program.
-/
import Derived.Test.YtiocpbfbhbgfaaaBusAloneL
namespace Go.Proofs.Ytiocpbfbhbgfaaa.busAlone
open Go.ChangeShapes Go.WideShapes Go.ChangeAt Go.RowKit Go.Sx
set_option linter.unusedVariables false
set_option linter.unusedSimpArgs false
set_option maxRecDepth 100000
set_option maxHeartbeats 1600000
theorem good_l3_125_5 : GoodP rnL cd3 (F_T23r8 ++ lem_l3_125) T_T23r8.toS aG45 aX46 aP31 := ⟨aO32, by kernel_rfl, fun _ h => dueA h⟩
theorem good_l3_126_0 : GoodP rnL cd3 (F_T23w1 ++ lem_l3_126) T_T23w1.toS aG45 aX46 aP21 := ⟨aO22, by kernel_rfl, fun _ h => dueA h⟩
theorem good_l3_126_1 : GoodP rnL cd3 (F_T23w1 ++ lem_l3_126) T_T23w1.toS aG45 aX46 aP23 := ⟨aO24, by kernel_rfl, fun _ h => dueA h⟩
theorem good_l3_126_2 : GoodP rnL cd3 (F_T23w1 ++ lem_l3_126) T_T23w1.toS aG45 aX46 aP25 := ⟨aO26, by kernel_rfl, fun _ h => dueA h⟩
theorem good_l3_126_3 : GoodP rnL cd3 (F_T23w1 ++ lem_l3_126) T_T23w1.toS aG45 aX46 aP27 := ⟨aO28, by kernel_rfl, fun _ h => dueA h⟩
theorem good_l3_126_4 : GoodP rnL cd3 (F_T23w1 ++ lem_l3_126) T_T23w1.toS aG45 aX46 aP29 := ⟨aO30, by kernel_rfl, fun _ h => dueA h⟩
theorem good_l3_126_5 : GoodP rnL cd3 (F_T23w1 ++ lem_l3_126) T_T23w1.toS aG45 aX46 aP31 := ⟨aO32, by kernel_rfl, fun _ h => dueA h⟩
theorem good_l3_127_0 : GoodP rnL cd3 (F_T23w8 ++ lem_l3_127) T_T23w8.toS aG45 aX46 aP21 := ⟨aO22, by kernel_rfl, fun _ h => dueA h⟩
theorem good_l3_127_1 : GoodP rnL cd3 (F_T23w8 ++ lem_l3_127) T_T23w8.toS aG45 aX46 aP23 := ⟨aO24, by kernel_rfl, fun _ h => dueA h⟩
theorem good_l3_127_2 : GoodP rnL cd3 (F_T23w8 ++ lem_l3_127) T_T23w8.toS aG45 aX46 aP25 := ⟨aO26, by kernel_rfl, fun _ h => dueA h⟩
theorem good_l3_127_3 : GoodP rnL cd3 (F_T23w8 ++ lem_l3_127) T_T23w8.toS aG45 aX46 aP27 := ⟨aO28, by kernel_rfl, fun _ h => dueA h⟩
theorem good_l3_127_4 : GoodP rnL cd3 (F_T23w8 ++ lem_l3_127) T_T23w8.toS aG45 aX46 aP29 := ⟨aO30, by kernel_rfl, fun _ h => dueA h⟩
theorem good_l3_127_5 : GoodP rnL cd3 (F_T23w8 ++ lem_l3_127) T_T23w8.toS aG45 aX46 aP31 := ⟨aO32, by kernel_rfl, fun _ h => dueA h⟩
theorem good_l3_128_0 : GoodP rnL cd3 (F_Ue ++ lem_l3_128) T_Ue.toS aG45 aX46 aP33 := ⟨[], by kernel_rfl, fun ρ _ ob h => absurd h List.not_mem_nil⟩
theorem good_l3_128_1 : GoodP rnL cd3 (F_Ue ++ lem_l3_128) T_Ue.toS aG45 aX46 aP34 := ⟨[], by kernel_rfl, fun ρ _ ob h => absurd h List.not_mem_nil⟩
theorem good_l3_128_2 : GoodP rnL cd3 (F_Ue ++ lem_l3_128) T_Ue.toS aG45 aX46 aP35 := ⟨[], by kernel_rfl, fun ρ _ ob h => absurd h List.not_mem_nil⟩
theorem good_l3_129_0 : GoodP rnL cd3 (F_Uw ++ lem_l3_129) T_Uw.toS aG45 aX46 aP33 := ⟨[], by kernel_rfl, fun ρ _ ob h => absurd h List.not_mem_nil⟩
theorem good_l3_129_1 : GoodP rnL cd3 (F_Uw ++ lem_l3_129) T_Uw.toS aG45 aX46 aP34 := ⟨[], by kernel_rfl, fun ρ _ ob h => absurd h List.not_mem_nil⟩
end Go.Proofs.Ytiocpbfbhbgfaaa.busAlone
