/-
  'BufferPlays': runs of its parts, checked by the kernel. Printed by program.
-/
import Derived.Test.YtdicippbniglpaaBufferPlaysL
namespace Go.Proofs.Ytdicippbniglpaa.bufferPlays
open Go.ChangeShapes Go.WideShapes Go.ChangeAt Go.RowKit Go.Sx
set_option linter.unusedVariables false
set_option linter.unusedSimpArgs false
set_option maxRecDepth 100000
set_option maxHeartbeats 1600000
theorem good_c_find2_2_30_0 : GoodP rn_find2_2 (fb24.drop 4) (fF2_2 ++ nl) fE2_2.toS none [] [] := ⟨[], by kernel_rfl, fun ρ _ ob h => absurd h List.not_mem_nil⟩
theorem good_c_find3_0_31_0 : GoodP rn_find3_0 (fb24.take 3) (ct_find3_0.facts ++ nl) ct_find3_0.s0 (some ⟨fM3, fF3_0, [], []⟩) [] [] := ⟨[], by kernel_rfl, fun ρ _ ob h => absurd h List.not_mem_nil⟩
theorem good_c_find3_0_32_0 : GoodRg rn_find3_0 fM3 (fF3_0 ++ nl) 10 ⟨Try.f24.ntmps, rngPs fb24 3, rngAs fb24 3, rngBd fb24 3, [3, 6]⟩ ⟨fE3_0, fF3_0, [], []⟩ [] := ⟨[], by kernel_rfl, fun ρ _ ob h => absurd h List.not_mem_nil⟩
theorem good_c_find3_0_33_0 : GoodP rn_find3_0 (fb24.drop 4) (fF3_0 ++ nl) fE3_0.toS none [] [] := ⟨[], by kernel_rfl, fun ρ _ ob h => absurd h List.not_mem_nil⟩
theorem good_c_find3_1_34_0 : GoodP rn_find3_1 (fb24.take 3) (ct_find3_1.facts ++ nl) ct_find3_1.s0 (some ⟨fM3, fF3_1, [], []⟩) [] [] := ⟨[], by kernel_rfl, fun ρ _ ob h => absurd h List.not_mem_nil⟩
theorem good_c_find3_1_35_0 : GoodRg rn_find3_1 fM3 (fF3_1 ++ nl) 10 ⟨Try.f24.ntmps, rngPs fb24 3, rngAs fb24 3, rngBd fb24 3, [3, 6]⟩ ⟨fE3_1, fF3_1, [], []⟩ [] := ⟨[], by kernel_rfl, fun ρ _ ob h => absurd h List.not_mem_nil⟩
theorem good_c_find3_1_36_0 : GoodP rn_find3_1 (fb24.drop 4) (fF3_1 ++ nl) fE3_1.toS none [] [] := ⟨[], by kernel_rfl, fun ρ _ ob h => absurd h List.not_mem_nil⟩
theorem good_c_find3_2_37_0 : GoodP rn_find3_2 (fb24.take 3) (ct_find3_2.facts ++ nl) ct_find3_2.s0 (some ⟨fM3, fF3_2, [], []⟩) [] [] := ⟨[], by kernel_rfl, fun ρ _ ob h => absurd h List.not_mem_nil⟩
theorem good_c_find3_2_38_0 : GoodRg rn_find3_2 fM3 (fF3_2 ++ nl) 10 ⟨Try.f24.ntmps, rngPs fb24 3, rngAs fb24 3, rngBd fb24 3, [3, 6]⟩ ⟨fE3_2, fF3_2, [], []⟩ [] := ⟨[], by kernel_rfl, fun ρ _ ob h => absurd h List.not_mem_nil⟩
end Go.Proofs.Ytdicippbniglpaa.bufferPlays
