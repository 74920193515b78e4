/-
  'CsrOthers': tests of which the outcome is always the same, and the tree of cases. Printed by program.
-/
import Derived.Test.YtlagjhnckdaonaaRows
import Derived.Test.YtlagjhnckdaonaaSxB
namespace Go.Proofs.Ytlagjhnckdaonaa.csrOthers
open Go.ChangeShapes Go.WideShapes Go.ChangeAt Go.RowKit Go.Sx
set_option linter.unusedVariables false
set_option linter.unusedSimpArgs false
def lem : List (E × Bool) := []
def tree : DT := (.node (.bin .lt (.var 30) (.lit (.ofNat 256))) .leaf (.node (.bin .lt (.var 30) (.lit (.ofNat 257))) .leaf (.node (.bin .lt (.var 30) (.lit (.ofNat 261))) .leaf (.node (.bin .lt (.var 30) (.lit (.ofNat 262))) .leaf (.node (.bin .lt (.var 30) (.lit (.ofNat 263))) .leaf (.node (.bin .lt (.var 30) (.lit (.ofNat 321))) .leaf (.node (.bin .lt (.var 30) (.lit (.ofNat 322))) .leaf (.node (.bin .lt (.var 30) (.lit (.ofNat 323))) .leaf (.node (.bin .lt (.var 30) (.lit (.ofNat 324))) .leaf (.node (.bin .lt (.var 30) (.lit (.ofNat 325))) .leaf (.node (.bin .lt (.var 30) (.lit (.ofNat 385))) .leaf (.node (.bin .lt (.var 30) (.lit (.ofNat 769))) .leaf (.node (.bin .lt (.var 30) (.lit (.ofNat 770))) .leaf (.node (.bin .lt (.var 30) (.lit (.ofNat 771))) .leaf (.node (.bin .lt (.var 30) (.lit (.ofNat 772))) .leaf (.node (.bin .lt (.var 30) (.lit (.ofNat 773))) .leaf (.node (.bin .lt (.var 30) (.lit (.ofNat 774))) .leaf (.node (.bin .lt (.var 30) (.lit (.ofNat 775))) .leaf (.node (.bin .lt (.var 30) (.lit (.ofNat 801))) .leaf (.node (.bin .lt (.var 30) (.lit (.ofNat 803))) .leaf (.node (.bin .lt (.var 30) (.lit (.ofNat 804))) .leaf (.node (.bin .lt (.var 30) (.lit (.ofNat 805))) .leaf (.node (.bin .lt (.var 30) (.lit (.ofNat 806))) .leaf (.node (.bin .lt (.var 30) (.lit (.ofNat 807))) .leaf (.node (.bin .lt (.var 30) (.lit (.ofNat 833))) .leaf (.node (.bin .lt (.var 30) (.lit (.ofNat 834))) .leaf (.node (.bin .lt (.var 30) (.lit (.ofNat 835))) .leaf (.node (.bin .lt (.var 30) (.lit (.ofNat 836))) .leaf (.node (.bin .lt (.var 30) (.lit (.ofNat 837))) .leaf (.node (.bin .lt (.var 30) (.lit (.ofNat 2817))) .leaf (.node (.bin .lt (.var 30) (.lit (.ofNat 2819))) .leaf (.node (.bin .lt (.var 30) (.lit (.ofNat 2820))) .leaf (.node (.bin .lt (.var 30) (.lit (.ofNat 2821))) .leaf (.node (.bin .lt (.var 30) (.lit (.ofNat 2822))) .leaf (.node (.bin .lt (.var 30) (.lit (.ofNat 2823))) .leaf .leaf)))))))))))))))))))))))))))))))))))
theorem hlem (ρ : Env) : ∀ t ∈ lem, (t.1.den ρ ≠ 0 ↔ t.2 = true) := fun _ h => absurd h List.not_mem_nil
end Go.Proofs.Ytlagjhnckdaonaa.csrOthers
