/-
  'BufferPlays': runs of its parts, checked by the kernel. Printed by program.
-/
import Derived.Test.YtdicippbniglpaaBufferPlaysL
namespace Go.Proofs.Ytdicippbniglpaa.bufferPlays
open Go.ChangeShapes Go.WideShapes Go.ChangeAt Go.RowKit Go.Sx
set_option linter.unusedVariables false
set_option linter.unusedSimpArgs false
set_option maxRecDepth 100000
set_option maxHeartbeats 1600000
theorem good_c_told8_173_0 : GoodRg rn_told8 tM8 (tF8 ++ nl) 110 ⟨Try.f23.ntmps, rngPs fb23 17, rngAs fb23 17, rngBd fb23 17, [4, 6, 16]⟩ ⟨tE8, tF8, [], []⟩ [] := ⟨[], by kernel_rfl, fun ρ _ ob h => absurd h List.not_mem_nil⟩
theorem good_c_told8_174_0 : GoodP rn_told8 (fb23.drop 18) (tF8 ++ nl) tE8.toS none [] [] := ⟨[], by kernel_rfl, fun ρ _ ob h => absurd h List.not_mem_nil⟩
theorem good_l0_175_0 : GoodP rnL fb5 (facts0 ++ nl) st0 none [] [] := ⟨[], by kernel_rfl, fun ρ _ ob h => absurd h List.not_mem_nil⟩
theorem good_l1_176_0 : GoodP rnL (fb5.take 8) (facts1 ++ nl) st1 (some ⟨T0, F0, [], fam⟩) [] [] := ⟨[], by kernel_rfl, fun ρ _ ob h => absurd h List.not_mem_nil⟩
theorem good_l1_177_0 : GoodP rnL (flat (loopBody fb5 8)) (F0 ++ nl) T0.toS (some ⟨T0, F0, [(101, some 201)], fam⟩) [(0, ⟨TE, FE, [], []⟩)] [((.get (.tv 0) (.var 101) 0), true)] := ⟨[], by kernel_rfl, fun ρ _ ob h => absurd h List.not_mem_nil⟩
theorem good_l1_177_1 : GoodP rnL (flat (loopBody fb5 8)) (F0 ++ nl) T0.toS (some ⟨T0, F0, [(101, some 201)], fam⟩) [(0, ⟨TE, FE, [], []⟩)] [((.get (.tv 0) (.var 101) 0), false), ((.get (.tv 0) (.var 101) 3), true)] := ⟨[], by kernel_rfl, fun ρ _ ob h => absurd h List.not_mem_nil⟩
theorem good_l1_177_2 : GoodP rnL (flat (loopBody fb5 8)) (F0 ++ nl) T0.toS (some ⟨T0, F0, [(101, some 201)], fam⟩) [(0, ⟨TE, FE, [], []⟩)] [((.get (.tv 0) (.var 101) 0), false), ((.get (.tv 0) (.var 101) 3), false), ((.bin .eq (.var 0) (.lit (.ofNat 0))), true)] := ⟨[], by kernel_rfl, fun ρ _ ob h => absurd h List.not_mem_nil⟩
end Go.Proofs.Ytdicippbniglpaa.bufferPlays
