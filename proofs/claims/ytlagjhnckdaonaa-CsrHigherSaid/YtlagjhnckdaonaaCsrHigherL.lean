/-
  'CsrHigher': tests of which the outcome is always the same, and the tree of cases. Printed by program.
-/
import Derived.Test.YtlagjhnckdaonaaRows
import Derived.Test.YtlagjhnckdaonaaSxB
namespace Go.Proofs.Ytlagjhnckdaonaa.csrHigher
open Go.ChangeShapes Go.WideShapes Go.ChangeAt Go.RowKit Go.Sx
set_option linter.unusedVariables false
set_option linter.unusedSimpArgs false
def lem : List (E × Bool) := []
def tree : DT := (.node (.bin .lt (.var 30) (.lit (.ofNat 320))) .leaf (.node (.bin .lt (.var 30) (.lit (.ofNat 768))) .leaf (.node (.bin .lt (.var 30) (.lit (.ofNat 803))) .leaf (.node (.bin .lt (.var 30) (.lit (.ofNat 2816))) .leaf (.node (.bin .lt (.var 30) (.lit (.ofNat 3072))) .leaf .leaf)))))
theorem hlem (ρ : Env) : ∀ t ∈ lem, (t.1.den ρ ≠ 0 ↔ t.2 = true) := fun _ h => absurd h List.not_mem_nil
end Go.Proofs.Ytlagjhnckdaonaa.csrHigher
