/-
  'BufferPlays': runs of its parts, checked by the kernel. Printed by program.
-/
import Derived.Test.YtdicippbniglpaaBufferPlaysL
namespace Go.Proofs.Ytdicippbniglpaa.bufferPlays
open Go.ChangeShapes Go.WideShapes Go.ChangeAt Go.RowKit Go.Sx
set_option linter.unusedVariables false
set_option linter.unusedSimpArgs false
set_option maxRecDepth 100000
set_option maxHeartbeats 1600000
theorem good_c_find7_6_116_0 : GoodRg rn_find7_6 fM7 (fF7_6 ++ nl) 10 ⟨Try.f24.ntmps, rngPs fb24 3, rngAs fb24 3, rngBd fb24 3, [3, 6]⟩ ⟨fE7_6, fF7_6, [], []⟩ [] := ⟨[], by kernel_rfl, fun ρ _ ob h => absurd h List.not_mem_nil⟩
theorem good_c_find7_6_117_0 : GoodP rn_find7_6 (fb24.drop 4) (fF7_6 ++ nl) fE7_6.toS none [] [] := ⟨[], by kernel_rfl, fun ρ _ ob h => absurd h List.not_mem_nil⟩
theorem good_c_find7_7_118_0 : GoodP rn_find7_7 (fb24.take 3) (ct_find7_7.facts ++ nl) ct_find7_7.s0 (some ⟨fM7, fF7_7, [], []⟩) [] [] := ⟨[], by kernel_rfl, fun ρ _ ob h => absurd h List.not_mem_nil⟩
theorem good_c_find7_7_119_0 : GoodRg rn_find7_7 fM7 (fF7_7 ++ nl) 10 ⟨Try.f24.ntmps, rngPs fb24 3, rngAs fb24 3, rngBd fb24 3, [3, 6]⟩ ⟨fE7_7, fF7_7, [], []⟩ [] := ⟨[], by kernel_rfl, fun ρ _ ob h => absurd h List.not_mem_nil⟩
theorem good_c_find7_7_120_0 : GoodP rn_find7_7 (fb24.drop 4) (fF7_7 ++ nl) fE7_7.toS none [] [] := ⟨[], by kernel_rfl, fun ρ _ ob h => absurd h List.not_mem_nil⟩
theorem good_c_find8_0_121_0 : GoodP rn_find8_0 (fb24.take 3) (ct_find8_0.facts ++ nl) ct_find8_0.s0 (some ⟨fM8, fF8_0, [], []⟩) [] [] := ⟨[], by kernel_rfl, fun ρ _ ob h => absurd h List.not_mem_nil⟩
end Go.Proofs.Ytdicippbniglpaa.bufferPlays
