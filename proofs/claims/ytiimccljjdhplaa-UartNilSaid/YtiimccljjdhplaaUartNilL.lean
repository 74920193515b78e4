/-
  'UartNil': tests of which the outcome is always the same, and the tree of cases. Printed by program.
-/
import Derived.Test.YtiimccljjdhplaaRows
import Derived.Test.YtiimccljjdhplaaSxC
namespace Go.Proofs.Ytiimccljjdhplaa.uartNil
open Go.ChangeShapes Go.WideShapes Go.ChangeAt Go.RowKit Go.Sx
set_option linter.unusedVariables false
set_option linter.unusedSimpArgs false
def lem : List (E × Bool) := []
def tree : DT := .leaf
theorem hlem (ρ : Env) : ∀ t ∈ lem, (t.1.den ρ ≠ 0 ↔ t.2 = true) := fun _ h => absurd h List.not_mem_nil
end Go.Proofs.Ytiimccljjdhplaa.uartNil
