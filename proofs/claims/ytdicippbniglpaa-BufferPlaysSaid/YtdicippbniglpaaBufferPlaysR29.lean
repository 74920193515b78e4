/-
  'BufferPlays': runs of its parts, checked by the kernel. Printed by program.
-/
import Derived.Test.YtdicippbniglpaaBufferPlaysL
namespace Go.Proofs.Ytdicippbniglpaa.bufferPlays
open Go.ChangeShapes Go.WideShapes Go.ChangeAt Go.RowKit Go.Sx
set_option linter.unusedVariables false
set_option linter.unusedSimpArgs false
set_option maxRecDepth 100000
set_option maxHeartbeats 1600000
theorem good_c_told6_167_0 : GoodRg rn_told6 tM6 (tF6 ++ nl) 110 ⟨Try.f23.ntmps, rngPs fb23 17, rngAs fb23 17, rngBd fb23 17, [4, 6, 16]⟩ ⟨tE6, tF6, [], []⟩ [] := ⟨[], by kernel_rfl, fun ρ _ ob h => absurd h List.not_mem_nil⟩
theorem good_c_told6_168_0 : GoodP rn_told6 (fb23.drop 18) (tF6 ++ nl) tE6.toS none [] [] := ⟨[], by kernel_rfl, fun ρ _ ob h => absurd h List.not_mem_nil⟩
theorem good_c_told7_169_0 : GoodP rn_told7 (fb23.take 17) (ct_told7.facts ++ nl) ct_told7.s0 (some ⟨tM7, tF7, [], []⟩) [] [((tq 16), true)] := ⟨[], by kernel_rfl, fun ρ _ ob h => absurd h List.not_mem_nil⟩
theorem good_c_told7_169_1 : GoodP rn_told7 (fb23.take 17) (ct_told7.facts ++ nl) ct_told7.s0 (some ⟨tM7, tF7, [], []⟩) [] [((tq 16), false), ((tq 15), true)] := ⟨[], by kernel_rfl, fun ρ _ ob h => absurd h List.not_mem_nil⟩
theorem good_c_told7_169_2 : GoodP rn_told7 (fb23.take 17) (ct_told7.facts ++ nl) ct_told7.s0 (some ⟨tM7, tF7, [], []⟩) [] [((tq 16), false), ((tq 15), false), ((tq 14), true)] := ⟨[], by kernel_rfl, fun ρ _ ob h => absurd h List.not_mem_nil⟩
end Go.Proofs.Ytdicippbniglpaa.bufferPlays
