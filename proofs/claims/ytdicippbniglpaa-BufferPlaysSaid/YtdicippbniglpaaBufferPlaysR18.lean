/-
  'BufferPlays': runs of its parts, checked by the kernel. Printed by program.
-/
import Derived.Test.YtdicippbniglpaaBufferPlaysL
namespace Go.Proofs.Ytdicippbniglpaa.bufferPlays
open Go.ChangeShapes Go.WideShapes Go.ChangeAt Go.RowKit Go.Sx
set_option linter.unusedVariables false
set_option linter.unusedSimpArgs false
set_option maxRecDepth 100000
set_option maxHeartbeats 1600000
theorem good_c_find8_2_128_0 : GoodRg rn_find8_2 fM8 (fF8_2 ++ nl) 10 ⟨Try.f24.ntmps, rngPs fb24 3, rngAs fb24 3, rngBd fb24 3, [3, 6]⟩ ⟨fE8_2, fF8_2, [], []⟩ [] := ⟨[], by kernel_rfl, fun ρ _ ob h => absurd h List.not_mem_nil⟩
theorem good_c_find8_2_129_0 : GoodP rn_find8_2 (fb24.drop 4) (fF8_2 ++ nl) fE8_2.toS none [] [] := ⟨[], by kernel_rfl, fun ρ _ ob h => absurd h List.not_mem_nil⟩
theorem good_c_find8_3_130_0 : GoodP rn_find8_3 (fb24.take 3) (ct_find8_3.facts ++ nl) ct_find8_3.s0 (some ⟨fM8, fF8_3, [], []⟩) [] [] := ⟨[], by kernel_rfl, fun ρ _ ob h => absurd h List.not_mem_nil⟩
theorem good_c_find8_3_131_0 : GoodRg rn_find8_3 fM8 (fF8_3 ++ nl) 10 ⟨Try.f24.ntmps, rngPs fb24 3, rngAs fb24 3, rngBd fb24 3, [3, 6]⟩ ⟨fE8_3, fF8_3, [], []⟩ [] := ⟨[], by kernel_rfl, fun ρ _ ob h => absurd h List.not_mem_nil⟩
theorem good_c_find8_3_132_0 : GoodP rn_find8_3 (fb24.drop 4) (fF8_3 ++ nl) fE8_3.toS none [] [] := ⟨[], by kernel_rfl, fun ρ _ ob h => absurd h List.not_mem_nil⟩
theorem good_c_find8_4_133_0 : GoodP rn_find8_4 (fb24.take 3) (ct_find8_4.facts ++ nl) ct_find8_4.s0 (some ⟨fM8, fF8_4, [], []⟩) [] [] := ⟨[], by kernel_rfl, fun ρ _ ob h => absurd h List.not_mem_nil⟩
end Go.Proofs.Ytdicippbniglpaa.bufferPlays
