/-
  'BufferPlays': runs of its parts, checked by the kernel. Printed by program.
-/
import Derived.Test.YtdicippbniglpaaBufferPlaysL
namespace Go.Proofs.Ytdicippbniglpaa.bufferPlays
open Go.ChangeShapes Go.WideShapes Go.ChangeAt Go.RowKit Go.Sx
set_option linter.unusedVariables false
set_option linter.unusedSimpArgs false
set_option maxRecDepth 100000
set_option maxHeartbeats 1600000
theorem good_c_told2_154_1 : GoodP rn_told2 (fb23.take 17) (ct_told2.facts ++ nl) ct_told2.s0 (some ⟨tM2, tF2, [], []⟩) [] [((tq 11), false), ((tq 10), true)] := ⟨[], by kernel_rfl, fun ρ _ ob h => absurd h List.not_mem_nil⟩
theorem good_c_told2_154_2 : GoodP rn_told2 (fb23.take 17) (ct_told2.facts ++ nl) ct_told2.s0 (some ⟨tM2, tF2, [], []⟩) [] [((tq 11), false), ((tq 10), false)] := ⟨[], by kernel_rfl, fun ρ _ ob h => absurd h List.not_mem_nil⟩
theorem good_c_told2_155_0 : GoodRg rn_told2 tM2 (tF2 ++ nl) 110 ⟨Try.f23.ntmps, rngPs fb23 17, rngAs fb23 17, rngBd fb23 17, [4, 6, 16]⟩ ⟨tE2, tF2, [], []⟩ [] := ⟨[], by kernel_rfl, fun ρ _ ob h => absurd h List.not_mem_nil⟩
theorem good_c_told2_156_0 : GoodP rn_told2 (fb23.drop 18) (tF2 ++ nl) tE2.toS none [] [] := ⟨[], by kernel_rfl, fun ρ _ ob h => absurd h List.not_mem_nil⟩
theorem good_c_told3_157_0 : GoodP rn_told3 (fb23.take 17) (ct_told3.facts ++ nl) ct_told3.s0 (some ⟨tM3, tF3, [], []⟩) [] [((tq 12), true)] := ⟨[], by kernel_rfl, fun ρ _ ob h => absurd h List.not_mem_nil⟩
theorem good_c_told3_157_1 : GoodP rn_told3 (fb23.take 17) (ct_told3.facts ++ nl) ct_told3.s0 (some ⟨tM3, tF3, [], []⟩) [] [((tq 12), false), ((tq 11), true)] := ⟨[], by kernel_rfl, fun ρ _ ob h => absurd h List.not_mem_nil⟩
theorem good_c_told3_157_2 : GoodP rn_told3 (fb23.take 17) (ct_told3.facts ++ nl) ct_told3.s0 (some ⟨tM3, tF3, [], []⟩) [] [((tq 12), false), ((tq 11), false), ((tq 10), true)] := ⟨[], by kernel_rfl, fun ρ _ ob h => absurd h List.not_mem_nil⟩
end Go.Proofs.Ytdicippbniglpaa.bufferPlays
