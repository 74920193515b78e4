/-
  'BufferPlays': runs of its parts, checked by the kernel. Printed by program.
-/
import Derived.Test.YtdicippbniglpaaBufferPlaysL
namespace Go.Proofs.Ytdicippbniglpaa.bufferPlays
open Go.ChangeShapes Go.WideShapes Go.ChangeAt Go.RowKit Go.Sx
set_option linter.unusedVariables false
set_option linter.unusedSimpArgs false
set_option maxRecDepth 100000
set_option maxHeartbeats 1600000
theorem good_c_told4_160_4 : GoodP rn_told4 (fb23.take 17) (ct_told4.facts ++ nl) ct_told4.s0 (some ⟨tM4, tF4, [], []⟩) [] [((tq 13), false), ((tq 12), false), ((tq 11), false), ((tq 10), false)] := ⟨[], by kernel_rfl, fun ρ _ ob h => absurd h List.not_mem_nil⟩
theorem good_c_told4_161_0 : GoodRg rn_told4 tM4 (tF4 ++ nl) 110 ⟨Try.f23.ntmps, rngPs fb23 17, rngAs fb23 17, rngBd fb23 17, [4, 6, 16]⟩ ⟨tE4, tF4, [], []⟩ [] := ⟨[], by kernel_rfl, fun ρ _ ob h => absurd h List.not_mem_nil⟩
theorem good_c_told4_162_0 : GoodP rn_told4 (fb23.drop 18) (tF4 ++ nl) tE4.toS none [] [] := ⟨[], by kernel_rfl, fun ρ _ ob h => absurd h List.not_mem_nil⟩
theorem good_c_told5_163_0 : GoodP rn_told5 (fb23.take 17) (ct_told5.facts ++ nl) ct_told5.s0 (some ⟨tM5, tF5, [], []⟩) [] [((tq 14), true)] := ⟨[], by kernel_rfl, fun ρ _ ob h => absurd h List.not_mem_nil⟩
theorem good_c_told5_163_1 : GoodP rn_told5 (fb23.take 17) (ct_told5.facts ++ nl) ct_told5.s0 (some ⟨tM5, tF5, [], []⟩) [] [((tq 14), false), ((tq 13), true)] := ⟨[], by kernel_rfl, fun ρ _ ob h => absurd h List.not_mem_nil⟩
theorem good_c_told5_163_2 : GoodP rn_told5 (fb23.take 17) (ct_told5.facts ++ nl) ct_told5.s0 (some ⟨tM5, tF5, [], []⟩) [] [((tq 14), false), ((tq 13), false), ((tq 12), true)] := ⟨[], by kernel_rfl, fun ρ _ ob h => absurd h List.not_mem_nil⟩
theorem good_c_told5_163_3 : GoodP rn_told5 (fb23.take 17) (ct_told5.facts ++ nl) ct_told5.s0 (some ⟨tM5, tF5, [], []⟩) [] [((tq 14), false), ((tq 13), false), ((tq 12), false), ((tq 11), true)] := ⟨[], by kernel_rfl, fun ρ _ ob h => absurd h List.not_mem_nil⟩
end Go.Proofs.Ytdicippbniglpaa.bufferPlays
