/-
  'BufferPlays': runs of its parts, checked by the kernel. Printed by program.
-/
import Derived.Test.YtdicippbniglpaaBufferPlaysL
namespace Go.Proofs.Ytdicippbniglpaa.bufferPlays
open Go.ChangeShapes Go.WideShapes Go.ChangeAt Go.RowKit Go.Sx
set_option linter.unusedVariables false
set_option linter.unusedSimpArgs false
set_option maxRecDepth 100000
set_option maxHeartbeats 1600000
theorem good_c_find3_2_39_0 : GoodP rn_find3_2 (fb24.drop 4) (fF3_2 ++ nl) fE3_2.toS none [] [] := ⟨[], by kernel_rfl, fun ρ _ ob h => absurd h List.not_mem_nil⟩
theorem good_c_find3_3_40_0 : GoodP rn_find3_3 (fb24.take 3) (ct_find3_3.facts ++ nl) ct_find3_3.s0 (some ⟨fM3, fF3_3, [], []⟩) [] [] := ⟨[], by kernel_rfl, fun ρ _ ob h => absurd h List.not_mem_nil⟩
theorem good_c_find3_3_41_0 : GoodRg rn_find3_3 fM3 (fF3_3 ++ nl) 10 ⟨Try.f24.ntmps, rngPs fb24 3, rngAs fb24 3, rngBd fb24 3, [3, 6]⟩ ⟨fE3_3, fF3_3, [], []⟩ [] := ⟨[], by kernel_rfl, fun ρ _ ob h => absurd h List.not_mem_nil⟩
theorem good_c_find3_3_42_0 : GoodP rn_find3_3 (fb24.drop 4) (fF3_3 ++ nl) fE3_3.toS none [] [] := ⟨[], by kernel_rfl, fun ρ _ ob h => absurd h List.not_mem_nil⟩
theorem good_c_find4_0_43_0 : GoodP rn_find4_0 (fb24.take 3) (ct_find4_0.facts ++ nl) ct_find4_0.s0 (some ⟨fM4, fF4_0, [], []⟩) [] [] := ⟨[], by kernel_rfl, fun ρ _ ob h => absurd h List.not_mem_nil⟩
theorem good_c_find4_0_44_0 : GoodRg rn_find4_0 fM4 (fF4_0 ++ nl) 10 ⟨Try.f24.ntmps, rngPs fb24 3, rngAs fb24 3, rngBd fb24 3, [3, 6]⟩ ⟨fE4_0, fF4_0, [], []⟩ [] := ⟨[], by kernel_rfl, fun ρ _ ob h => absurd h List.not_mem_nil⟩
theorem good_c_find4_0_45_0 : GoodP rn_find4_0 (fb24.drop 4) (fF4_0 ++ nl) fE4_0.toS none [] [] := ⟨[], by kernel_rfl, fun ρ _ ob h => absurd h List.not_mem_nil⟩
theorem good_c_find4_1_46_0 : GoodP rn_find4_1 (fb24.take 3) (ct_find4_1.facts ++ nl) ct_find4_1.s0 (some ⟨fM4, fF4_1, [], []⟩) [] [] := ⟨[], by kernel_rfl, fun ρ _ ob h => absurd h List.not_mem_nil⟩
theorem good_c_find4_1_47_0 : GoodRg rn_find4_1 fM4 (fF4_1 ++ nl) 10 ⟨Try.f24.ntmps, rngPs fb24 3, rngAs fb24 3, rngBd fb24 3, [3, 6]⟩ ⟨fE4_1, fF4_1, [], []⟩ [] := ⟨[], by kernel_rfl, fun ρ _ ob h => absurd h List.not_mem_nil⟩
end Go.Proofs.Ytdicippbniglpaa.bufferPlays
