/-
  'CsrKeeps': runs of its parts, checked by the kernel. Printed by program.
-/
import Derived.Test.YtlagjhnckdaonaaCsrKeepsL
namespace Go.Proofs.Ytlagjhnckdaonaa.csrKeeps
open Go.ChangeShapes Go.WideShapes Go.ChangeAt Go.RowKit Go.Sx
set_option linter.unusedVariables false
set_option linter.unusedSimpArgs false
set_option maxRecDepth 100000
theorem good0n0_0 : GoodP (TI.of Try.prog) (fnOf Try.prog) mbl 400 Try.f11 ((flat (bodyOf Try.f11)).take (5 + 1)) (facts0 ++ []) ⟨argSlots xs0 0 .nil, putSets .leaf hs0, 1, []⟩ (some TE) factsE none none [] [] := ⟨[], by kernel_rfl, fun ρ _ ob h => absurd h List.not_mem_nil⟩
theorem good0n1_0 : GoodP (TI.of Try.prog) (fnOf Try.prog) mbl 400 Try.f11 ((flat (bodyOf Try.f11)).take 5) (facts1 ++ []) ⟨argSlots xs1 0 .nil, putSets .leaf hs1, 1, []⟩ (some T) factsL none none [] [] := ⟨[], by kernel_rfl, fun ρ _ ob h => absurd h List.not_mem_nil⟩
theorem goodL_0 : GoodP (TI.of Try.prog) (fnOf Try.prog) mbl 400 Try.f11 (flat (loopBody (flat (bodyOf Try.f11)) 5)) (factsL ++ lemL) T.toS (some T) factsL (some (100, 200)) (some (0, TE)) factsE [((.get (.tv 0) (.var 100) 4), true), ((.bin .lt (.un (.wrap .i64) (.get (.tv 0) (.var 100) 0)) (.lit (257))), true)] := ⟨[], by kernel_rfl, fun ρ _ ob h => absurd h List.not_mem_nil⟩
end Go.Proofs.Ytlagjhnckdaonaa.csrKeeps
