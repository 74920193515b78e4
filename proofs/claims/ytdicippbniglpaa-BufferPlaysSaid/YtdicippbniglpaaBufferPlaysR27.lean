/-
  'BufferPlays': runs of its parts, checked by the kernel. Printed by program.
-/
import Derived.Test.YtdicippbniglpaaBufferPlaysL
namespace Go.Proofs.Ytdicippbniglpaa.bufferPlays
open Go.ChangeShapes Go.WideShapes Go.ChangeAt Go.RowKit Go.Sx
set_option linter.unusedVariables false
set_option linter.unusedSimpArgs false
set_option maxRecDepth 100000
set_option maxHeartbeats 1600000
theorem good_c_told5_163_4 : GoodP rn_told5 (fb23.take 17) (ct_told5.facts ++ nl) ct_told5.s0 (some ⟨tM5, tF5, [], []⟩) [] [((tq 14), false), ((tq 13), false), ((tq 12), false), ((tq 11), false), ((tq 10), true)] := ⟨[], by kernel_rfl, fun ρ _ ob h => absurd h List.not_mem_nil⟩
theorem good_c_told5_163_5 : GoodP rn_told5 (fb23.take 17) (ct_told5.facts ++ nl) ct_told5.s0 (some ⟨tM5, tF5, [], []⟩) [] [((tq 14), false), ((tq 13), false), ((tq 12), false), ((tq 11), false), ((tq 10), false)] := ⟨[], by kernel_rfl, fun ρ _ ob h => absurd h List.not_mem_nil⟩
theorem good_c_told5_164_0 : GoodRg rn_told5 tM5 (tF5 ++ nl) 110 ⟨Try.f23.ntmps, rngPs fb23 17, rngAs fb23 17, rngBd fb23 17, [4, 6, 16]⟩ ⟨tE5, tF5, [], []⟩ [] := ⟨[], by kernel_rfl, fun ρ _ ob h => absurd h List.not_mem_nil⟩
theorem good_c_told5_165_0 : GoodP rn_told5 (fb23.drop 18) (tF5 ++ nl) tE5.toS none [] [] := ⟨[], by kernel_rfl, fun ρ _ ob h => absurd h List.not_mem_nil⟩
theorem good_c_told6_166_0 : GoodP rn_told6 (fb23.take 17) (ct_told6.facts ++ nl) ct_told6.s0 (some ⟨tM6, tF6, [], []⟩) [] [((tq 15), true)] := ⟨[], by kernel_rfl, fun ρ _ ob h => absurd h List.not_mem_nil⟩
theorem good_c_told6_166_1 : GoodP rn_told6 (fb23.take 17) (ct_told6.facts ++ nl) ct_told6.s0 (some ⟨tM6, tF6, [], []⟩) [] [((tq 15), false), ((tq 14), true)] := ⟨[], by kernel_rfl, fun ρ _ ob h => absurd h List.not_mem_nil⟩
end Go.Proofs.Ytdicippbniglpaa.bufferPlays
