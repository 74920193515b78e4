/-
  'BufferPlays': runs of its parts, checked by the kernel. Printed by program.
-/
import Derived.Test.YtdicippbniglpaaBufferPlaysL
namespace Go.Proofs.Ytdicippbniglpaa.bufferPlays
open Go.ChangeShapes Go.WideShapes Go.ChangeAt Go.RowKit Go.Sx
set_option linter.unusedVariables false
set_option linter.unusedSimpArgs false
set_option maxRecDepth 100000
set_option maxHeartbeats 1600000
theorem good_l1_185_3 : GoodP rnL (flat (loopBody fb5 8)) (F8 ++ nl) T8.toS (some ⟨T0, F0, [(101, some 201)], fam⟩) [(0, ⟨TE, FE, [], []⟩)] [((.get (.tv 0) (.var 101) 0), false), ((.get (.tv 0) (.var 101) 3), false), ((.bin .eq (.var 0) (.lit (.ofNat 8))), false)] := ⟨[], by kernel_rfl, fun ρ _ ob h => absurd h List.not_mem_nil⟩
theorem good_l1_186_0 : GoodP rnL (fb5.drop 9) (FE ++ nl) TE.toS none [] [] := ⟨[], by kernel_rfl, fun ρ _ ob h => absurd h List.not_mem_nil⟩
end Go.Proofs.Ytdicippbniglpaa.bufferPlays
