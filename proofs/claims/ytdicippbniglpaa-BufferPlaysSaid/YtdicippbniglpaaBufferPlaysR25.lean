/-
  'BufferPlays': runs of its parts, checked by the kernel. Printed by program.
-/
import Derived.Test.YtdicippbniglpaaBufferPlaysL
namespace Go.Proofs.Ytdicippbniglpaa.bufferPlays
open Go.ChangeShapes Go.WideShapes Go.ChangeAt Go.RowKit Go.Sx
set_option linter.unusedVariables false
set_option linter.unusedSimpArgs false
set_option maxRecDepth 100000
set_option maxHeartbeats 1600000
theorem good_c_told3_157_3 : GoodP rn_told3 (fb23.take 17) (ct_told3.facts ++ nl) ct_told3.s0 (some ⟨tM3, tF3, [], []⟩) [] [((tq 12), false), ((tq 11), false), ((tq 10), false)] := ⟨[], by kernel_rfl, fun ρ _ ob h => absurd h List.not_mem_nil⟩
theorem good_c_told3_158_0 : GoodRg rn_told3 tM3 (tF3 ++ nl) 110 ⟨Try.f23.ntmps, rngPs fb23 17, rngAs fb23 17, rngBd fb23 17, [4, 6, 16]⟩ ⟨tE3, tF3, [], []⟩ [] := ⟨[], by kernel_rfl, fun ρ _ ob h => absurd h List.not_mem_nil⟩
theorem good_c_told3_159_0 : GoodP rn_told3 (fb23.drop 18) (tF3 ++ nl) tE3.toS none [] [] := ⟨[], by kernel_rfl, fun ρ _ ob h => absurd h List.not_mem_nil⟩
theorem good_c_told4_160_0 : GoodP rn_told4 (fb23.take 17) (ct_told4.facts ++ nl) ct_told4.s0 (some ⟨tM4, tF4, [], []⟩) [] [((tq 13), true)] := ⟨[], by kernel_rfl, fun ρ _ ob h => absurd h List.not_mem_nil⟩
theorem good_c_told4_160_1 : GoodP rn_told4 (fb23.take 17) (ct_told4.facts ++ nl) ct_told4.s0 (some ⟨tM4, tF4, [], []⟩) [] [((tq 13), false), ((tq 12), true)] := ⟨[], by kernel_rfl, fun ρ _ ob h => absurd h List.not_mem_nil⟩
theorem good_c_told4_160_2 : GoodP rn_told4 (fb23.take 17) (ct_told4.facts ++ nl) ct_told4.s0 (some ⟨tM4, tF4, [], []⟩) [] [((tq 13), false), ((tq 12), false), ((tq 11), true)] := ⟨[], by kernel_rfl, fun ρ _ ob h => absurd h List.not_mem_nil⟩
theorem good_c_told4_160_3 : GoodP rn_told4 (fb23.take 17) (ct_told4.facts ++ nl) ct_told4.s0 (some ⟨tM4, tF4, [], []⟩) [] [((tq 13), false), ((tq 12), false), ((tq 11), false), ((tq 10), true)] := ⟨[], by kernel_rfl, fun ρ _ ob h => absurd h List.not_mem_nil⟩
end Go.Proofs.Ytdicippbniglpaa.bufferPlays
