/-
  'BufferPlays': runs of its parts, checked by the kernel. Printed by program.
-/
import Derived.Test.YtdicippbniglpaaBufferPlaysL
namespace Go.Proofs.Ytdicippbniglpaa.bufferPlays
open Go.ChangeShapes Go.WideShapes Go.ChangeAt Go.RowKit Go.Sx
set_option linter.unusedVariables false
set_option linter.unusedSimpArgs false
set_option maxRecDepth 100000
set_option maxHeartbeats 1600000
theorem good_c_find6_5_92_0 : GoodRg rn_find6_5 fM6 (fF6_5 ++ nl) 10 ⟨Try.f24.ntmps, rngPs fb24 3, rngAs fb24 3, rngBd fb24 3, [3, 6]⟩ ⟨fE6_5, fF6_5, [], []⟩ [] := ⟨[], by kernel_rfl, fun ρ _ ob h => absurd h List.not_mem_nil⟩
theorem good_c_find6_5_93_0 : GoodP rn_find6_5 (fb24.drop 4) (fF6_5 ++ nl) fE6_5.toS none [] [] := ⟨[], by kernel_rfl, fun ρ _ ob h => absurd h List.not_mem_nil⟩
theorem good_c_find6_6_94_0 : GoodP rn_find6_6 (fb24.take 3) (ct_find6_6.facts ++ nl) ct_find6_6.s0 (some ⟨fM6, fF6_6, [], []⟩) [] [] := ⟨[], by kernel_rfl, fun ρ _ ob h => absurd h List.not_mem_nil⟩
theorem good_c_find6_6_95_0 : GoodRg rn_find6_6 fM6 (fF6_6 ++ nl) 10 ⟨Try.f24.ntmps, rngPs fb24 3, rngAs fb24 3, rngBd fb24 3, [3, 6]⟩ ⟨fE6_6, fF6_6, [], []⟩ [] := ⟨[], by kernel_rfl, fun ρ _ ob h => absurd h List.not_mem_nil⟩
theorem good_c_find6_6_96_0 : GoodP rn_find6_6 (fb24.drop 4) (fF6_6 ++ nl) fE6_6.toS none [] [] := ⟨[], by kernel_rfl, fun ρ _ ob h => absurd h List.not_mem_nil⟩
theorem good_c_find7_0_97_0 : GoodP rn_find7_0 (fb24.take 3) (ct_find7_0.facts ++ nl) ct_find7_0.s0 (some ⟨fM7, fF7_0, [], []⟩) [] [] := ⟨[], by kernel_rfl, fun ρ _ ob h => absurd h List.not_mem_nil⟩
end Go.Proofs.Ytdicippbniglpaa.bufferPlays
