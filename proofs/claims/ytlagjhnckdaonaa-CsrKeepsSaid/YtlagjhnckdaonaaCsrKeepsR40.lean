/-
  'CsrKeeps': runs of its parts, checked by the kernel. Printed by program.
-/
import Derived.Test.YtlagjhnckdaonaaCsrKeepsL
namespace Go.Proofs.Ytlagjhnckdaonaa.csrKeeps
open Go.ChangeShapes Go.WideShapes Go.ChangeAt Go.RowKit Go.Sx
set_option linter.unusedVariables false
set_option linter.unusedSimpArgs false
set_option maxRecDepth 100000
theorem good2_0 : GoodP (TI.of Try.prog) (fnOf Try.prog) mbl 400 Try.f11 ((flat (bodyOf Try.f11)).drop (5 + 1)) (factsE ++ lemE) TE.toS none [] none none [] [] := ⟨[], by kernel_rfl, fun ρ _ ob h => absurd h List.not_mem_nil⟩
end Go.Proofs.Ytlagjhnckdaonaa.csrKeeps
