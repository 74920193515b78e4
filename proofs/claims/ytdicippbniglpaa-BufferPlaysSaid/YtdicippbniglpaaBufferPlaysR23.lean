/-
  'BufferPlays': runs of its parts, checked by the kernel. Printed by program.
-/
import Derived.Test.YtdicippbniglpaaBufferPlaysL
namespace Go.Proofs.Ytdicippbniglpaa.bufferPlays
open Go.ChangeShapes Go.WideShapes Go.ChangeAt Go.RowKit Go.Sx
set_option linter.unusedVariables false
set_option linter.unusedSimpArgs false
set_option maxRecDepth 100000
set_option maxHeartbeats 1600000
theorem good_c_told0_150_0 : GoodP rn_told0 (fb23.drop 18) (tF0 ++ nl) tE0.toS none [] [] := ⟨[], by kernel_rfl, fun ρ _ ob h => absurd h List.not_mem_nil⟩
theorem good_c_told1_151_0 : GoodP rn_told1 (fb23.take 17) (ct_told1.facts ++ nl) ct_told1.s0 (some ⟨tM1, tF1, [], []⟩) [] [((tq 10), true)] := ⟨[], by kernel_rfl, fun ρ _ ob h => absurd h List.not_mem_nil⟩
theorem good_c_told1_151_1 : GoodP rn_told1 (fb23.take 17) (ct_told1.facts ++ nl) ct_told1.s0 (some ⟨tM1, tF1, [], []⟩) [] [((tq 10), false)] := ⟨[], by kernel_rfl, fun ρ _ ob h => absurd h List.not_mem_nil⟩
theorem good_c_told1_152_0 : GoodRg rn_told1 tM1 (tF1 ++ nl) 110 ⟨Try.f23.ntmps, rngPs fb23 17, rngAs fb23 17, rngBd fb23 17, [4, 6, 16]⟩ ⟨tE1, tF1, [], []⟩ [] := ⟨[], by kernel_rfl, fun ρ _ ob h => absurd h List.not_mem_nil⟩
theorem good_c_told1_153_0 : GoodP rn_told1 (fb23.drop 18) (tF1 ++ nl) tE1.toS none [] [] := ⟨[], by kernel_rfl, fun ρ _ ob h => absurd h List.not_mem_nil⟩
theorem good_c_told2_154_0 : GoodP rn_told2 (fb23.take 17) (ct_told2.facts ++ nl) ct_told2.s0 (some ⟨tM2, tF2, [], []⟩) [] [((tq 11), true)] := ⟨[], by kernel_rfl, fun ρ _ ob h => absurd h List.not_mem_nil⟩
end Go.Proofs.Ytdicippbniglpaa.bufferPlays
