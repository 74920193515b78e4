/-
  'BufferPlays': runs of its parts, checked by the kernel. Printed by program.
-/
import Derived.Test.YtdicippbniglpaaBufferPlaysL
namespace Go.Proofs.Ytdicippbniglpaa.bufferPlays
open Go.ChangeShapes Go.WideShapes Go.ChangeAt Go.RowKit Go.Sx
set_option linter.unusedVariables false
set_option linter.unusedSimpArgs false
set_option maxRecDepth 100000
set_option maxHeartbeats 1600000
theorem good_c_find7_4_110_0 : GoodRg rn_find7_4 fM7 (fF7_4 ++ nl) 10 ⟨Try.f24.ntmps, rngPs fb24 3, rngAs fb24 3, rngBd fb24 3, [3, 6]⟩ ⟨fE7_4, fF7_4, [], []⟩ [] := ⟨[], by kernel_rfl, fun ρ _ ob h => absurd h List.not_mem_nil⟩
theorem good_c_find7_4_111_0 : GoodP rn_find7_4 (fb24.drop 4) (fF7_4 ++ nl) fE7_4.toS none [] [] := ⟨[], by kernel_rfl, fun ρ _ ob h => absurd h List.not_mem_nil⟩
theorem good_c_find7_5_112_0 : GoodP rn_find7_5 (fb24.take 3) (ct_find7_5.facts ++ nl) ct_find7_5.s0 (some ⟨fM7, fF7_5, [], []⟩) [] [] := ⟨[], by kernel_rfl, fun ρ _ ob h => absurd h List.not_mem_nil⟩
theorem good_c_find7_5_113_0 : GoodRg rn_find7_5 fM7 (fF7_5 ++ nl) 10 ⟨Try.f24.ntmps, rngPs fb24 3, rngAs fb24 3, rngBd fb24 3, [3, 6]⟩ ⟨fE7_5, fF7_5, [], []⟩ [] := ⟨[], by kernel_rfl, fun ρ _ ob h => absurd h List.not_mem_nil⟩
theorem good_c_find7_5_114_0 : GoodP rn_find7_5 (fb24.drop 4) (fF7_5 ++ nl) fE7_5.toS none [] [] := ⟨[], by kernel_rfl, fun ρ _ ob h => absurd h List.not_mem_nil⟩
theorem good_c_find7_6_115_0 : GoodP rn_find7_6 (fb24.take 3) (ct_find7_6.facts ++ nl) ct_find7_6.s0 (some ⟨fM7, fF7_6, [], []⟩) [] [] := ⟨[], by kernel_rfl, fun ρ _ ob h => absurd h List.not_mem_nil⟩
end Go.Proofs.Ytdicippbniglpaa.bufferPlays
