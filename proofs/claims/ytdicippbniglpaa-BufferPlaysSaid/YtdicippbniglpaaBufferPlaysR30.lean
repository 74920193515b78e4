/-
  'BufferPlays': runs of its parts, checked by the kernel. Printed by program.
-/
import Derived.Test.YtdicippbniglpaaBufferPlaysL
namespace Go.Proofs.Ytdicippbniglpaa.bufferPlays
open Go.ChangeShapes Go.WideShapes Go.ChangeAt Go.RowKit Go.Sx
set_option linter.unusedVariables false
set_option linter.unusedSimpArgs false
set_option maxRecDepth 100000
set_option maxHeartbeats 1600000
theorem good_c_told7_169_3 : GoodP rn_told7 (fb23.take 17) (ct_told7.facts ++ nl) ct_told7.s0 (some ⟨tM7, tF7, [], []⟩) [] [((tq 16), false), ((tq 15), false), ((tq 14), false), ((tq 13), true)] := ⟨[], by kernel_rfl, fun ρ _ ob h => absurd h List.not_mem_nil⟩
theorem good_c_told7_169_4 : GoodP rn_told7 (fb23.take 17) (ct_told7.facts ++ nl) ct_told7.s0 (some ⟨tM7, tF7, [], []⟩) [] [((tq 16), false), ((tq 15), false), ((tq 14), false), ((tq 13), false), ((tq 12), true)] := ⟨[], by kernel_rfl, fun ρ _ ob h => absurd h List.not_mem_nil⟩
theorem good_c_told7_169_5 : GoodP rn_told7 (fb23.take 17) (ct_told7.facts ++ nl) ct_told7.s0 (some ⟨tM7, tF7, [], []⟩) [] [((tq 16), false), ((tq 15), false), ((tq 14), false), ((tq 13), false), ((tq 12), false), ((tq 11), true)] := ⟨[], by kernel_rfl, fun ρ _ ob h => absurd h List.not_mem_nil⟩
theorem good_c_told7_169_6 : GoodP rn_told7 (fb23.take 17) (ct_told7.facts ++ nl) ct_told7.s0 (some ⟨tM7, tF7, [], []⟩) [] [((tq 16), false), ((tq 15), false), ((tq 14), false), ((tq 13), false), ((tq 12), false), ((tq 11), false), ((tq 10), true)] := ⟨[], by kernel_rfl, fun ρ _ ob h => absurd h List.not_mem_nil⟩
theorem good_c_told7_169_7 : GoodP rn_told7 (fb23.take 17) (ct_told7.facts ++ nl) ct_told7.s0 (some ⟨tM7, tF7, [], []⟩) [] [((tq 16), false), ((tq 15), false), ((tq 14), false), ((tq 13), false), ((tq 12), false), ((tq 11), false), ((tq 10), false)] := ⟨[], by kernel_rfl, fun ρ _ ob h => absurd h List.not_mem_nil⟩
end Go.Proofs.Ytdicippbniglpaa.bufferPlays
