/-
  'BufferPlays': runs of its parts, checked by the kernel. Printed by program.
-/
import Derived.Test.YtdicippbniglpaaBufferPlaysL
namespace Go.Proofs.Ytdicippbniglpaa.bufferPlays
open Go.ChangeShapes Go.WideShapes Go.ChangeAt Go.RowKit Go.Sx
set_option linter.unusedVariables false
set_option linter.unusedSimpArgs false
set_option maxRecDepth 100000
set_option maxHeartbeats 1600000
theorem good_c_find6_3_85_0 : GoodP rn_find6_3 (fb24.take 3) (ct_find6_3.facts ++ nl) ct_find6_3.s0 (some ⟨fM6, fF6_3, [], []⟩) [] [] := ⟨[], by kernel_rfl, fun ρ _ ob h => absurd h List.not_mem_nil⟩
theorem good_c_find6_3_86_0 : GoodRg rn_find6_3 fM6 (fF6_3 ++ nl) 10 ⟨Try.f24.ntmps, rngPs fb24 3, rngAs fb24 3, rngBd fb24 3, [3, 6]⟩ ⟨fE6_3, fF6_3, [], []⟩ [] := ⟨[], by kernel_rfl, fun ρ _ ob h => absurd h List.not_mem_nil⟩
theorem good_c_find6_3_87_0 : GoodP rn_find6_3 (fb24.drop 4) (fF6_3 ++ nl) fE6_3.toS none [] [] := ⟨[], by kernel_rfl, fun ρ _ ob h => absurd h List.not_mem_nil⟩
theorem good_c_find6_4_88_0 : GoodP rn_find6_4 (fb24.take 3) (ct_find6_4.facts ++ nl) ct_find6_4.s0 (some ⟨fM6, fF6_4, [], []⟩) [] [] := ⟨[], by kernel_rfl, fun ρ _ ob h => absurd h List.not_mem_nil⟩
theorem good_c_find6_4_89_0 : GoodRg rn_find6_4 fM6 (fF6_4 ++ nl) 10 ⟨Try.f24.ntmps, rngPs fb24 3, rngAs fb24 3, rngBd fb24 3, [3, 6]⟩ ⟨fE6_4, fF6_4, [], []⟩ [] := ⟨[], by kernel_rfl, fun ρ _ ob h => absurd h List.not_mem_nil⟩
theorem good_c_find6_4_90_0 : GoodP rn_find6_4 (fb24.drop 4) (fF6_4 ++ nl) fE6_4.toS none [] [] := ⟨[], by kernel_rfl, fun ρ _ ob h => absurd h List.not_mem_nil⟩
theorem good_c_find6_5_91_0 : GoodP rn_find6_5 (fb24.take 3) (ct_find6_5.facts ++ nl) ct_find6_5.s0 (some ⟨fM6, fF6_5, [], []⟩) [] [] := ⟨[], by kernel_rfl, fun ρ _ ob h => absurd h List.not_mem_nil⟩
end Go.Proofs.Ytdicippbniglpaa.bufferPlays
