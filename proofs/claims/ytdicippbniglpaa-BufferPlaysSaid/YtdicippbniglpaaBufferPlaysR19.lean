/-
  'BufferPlays': runs of its parts, checked by the kernel. Printed by program.
-/
import Derived.Test.YtdicippbniglpaaBufferPlaysL
namespace Go.Proofs.Ytdicippbniglpaa.bufferPlays
open Go.ChangeShapes Go.WideShapes Go.ChangeAt Go.RowKit Go.Sx
set_option linter.unusedVariables false
set_option linter.unusedSimpArgs false
set_option maxRecDepth 100000
set_option maxHeartbeats 1600000
theorem good_c_find8_4_134_0 : GoodRg rn_find8_4 fM8 (fF8_4 ++ nl) 10 ⟨Try.f24.ntmps, rngPs fb24 3, rngAs fb24 3, rngBd fb24 3, [3, 6]⟩ ⟨fE8_4, fF8_4, [], []⟩ [] := ⟨[], by kernel_rfl, fun ρ _ ob h => absurd h List.not_mem_nil⟩
theorem good_c_find8_4_135_0 : GoodP rn_find8_4 (fb24.drop 4) (fF8_4 ++ nl) fE8_4.toS none [] [] := ⟨[], by kernel_rfl, fun ρ _ ob h => absurd h List.not_mem_nil⟩
theorem good_c_find8_5_136_0 : GoodP rn_find8_5 (fb24.take 3) (ct_find8_5.facts ++ nl) ct_find8_5.s0 (some ⟨fM8, fF8_5, [], []⟩) [] [] := ⟨[], by kernel_rfl, fun ρ _ ob h => absurd h List.not_mem_nil⟩
theorem good_c_find8_5_137_0 : GoodRg rn_find8_5 fM8 (fF8_5 ++ nl) 10 ⟨Try.f24.ntmps, rngPs fb24 3, rngAs fb24 3, rngBd fb24 3, [3, 6]⟩ ⟨fE8_5, fF8_5, [], []⟩ [] := ⟨[], by kernel_rfl, fun ρ _ ob h => absurd h List.not_mem_nil⟩
theorem good_c_find8_5_138_0 : GoodP rn_find8_5 (fb24.drop 4) (fF8_5 ++ nl) fE8_5.toS none [] [] := ⟨[], by kernel_rfl, fun ρ _ ob h => absurd h List.not_mem_nil⟩
theorem good_c_find8_6_139_0 : GoodP rn_find8_6 (fb24.take 3) (ct_find8_6.facts ++ nl) ct_find8_6.s0 (some ⟨fM8, fF8_6, [], []⟩) [] [] := ⟨[], by kernel_rfl, fun ρ _ ob h => absurd h List.not_mem_nil⟩
end Go.Proofs.Ytdicippbniglpaa.bufferPlays
