/-
  'HazardTrue': runs of its parts, checked by the kernel. Printed by program.
-/
import Derived.Test.YtgjdhgmnkgbhiaaHazardTrueL
namespace Go.Proofs.Ytgjdhgmnkgbhiaa.hazardTrue
open Go.ChangeShapes Go.WideShapes Go.ChangeAt Go.RowKit Go.Sx
set_option linter.unusedVariables false
set_option linter.unusedSimpArgs false
set_option maxRecDepth 100000
theorem goodTL_3 : GoodP (TI.of Try.prog) (fnOf Try.prog) mbl 400 Try.f5 (flat (loopBody (flat (bodyOf Try.f5)) 10)) (factsL ++ lemL) T.toS (some T) factsL (some (101, 101)) (some (2, TE)) factsE [((.bin .lt (.lit (.ofNat 0)) (.var 112)), false), ((.bin .lt (.lit (.ofNat 0)) (.var 116)), false)] := ⟨[], by kernel_rfl, fun ρ _ ob h => absurd h List.not_mem_nil⟩
theorem good2_0 : GoodP (TI.of Try.prog) (fnOf Try.prog) mbl 400 Try.f5 ((flat (bodyOf Try.f5)).drop (10 + 1)) (factsE ++ lemE) TE.toS none [] none none [] [] := ⟨[], by kernel_rfl, fun ρ _ ob h => absurd h List.not_mem_nil⟩
end Go.Proofs.Ytgjdhgmnkgbhiaa.hazardTrue
