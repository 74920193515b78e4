/-
  'CsrViews': tests of which the outcome is always the same, and the tree of cases. Printed by program.
-/
import Derived.Test.YtlagjhnckdaonaaRows
import Derived.Test.YtlagjhnckdaonaaSxB
namespace Go.Proofs.Ytlagjhnckdaonaa.csrViews
open Go.ChangeShapes Go.WideShapes Go.ChangeAt Go.RowKit Go.Sx
set_option linter.unusedVariables false
set_option linter.unusedSimpArgs false
def lem : List (E × Bool) := [((.bin .eq (.bin (.andNot .u64) (.bin (.or .u64) (.bin (.and .u64) (.var 0) (.lit (.ofNat 786722))) (.lit (.ofNat 8589934592))) (.lit (.ofNat 8589934592))) (.bin (.and .u64) (.bin (.or .u64) (.var 0) (.lit (.ofNat 42949672960))) (.lit (.ofNat 786722)))), true)]
def tree : DT := (.node (.bin .eq (.bin .rem (.un (.wrap .u64) (.var 40)) (.lit (.ofNat 7))) (.lit (.ofNat 0))) .leaf (.node (.bin .eq (.bin .rem (.un (.wrap .u64) (.var 40)) (.lit (.ofNat 7))) (.lit (.ofNat 1))) .leaf (.node (.bin .eq (.bin .rem (.un (.wrap .u64) (.var 40)) (.lit (.ofNat 7))) (.lit (.ofNat 2))) .leaf (.node (.bin .eq (.bin .rem (.un (.wrap .u64) (.var 40)) (.lit (.ofNat 7))) (.lit (.ofNat 3))) .leaf (.node (.bin .eq (.bin .rem (.un (.wrap .u64) (.var 40)) (.lit (.ofNat 7))) (.lit (.ofNat 4))) .leaf (.node (.bin .eq (.bin .rem (.un (.wrap .u64) (.var 40)) (.lit (.ofNat 7))) (.lit (.ofNat 5))) .leaf (.node (.bin .eq (.bin .rem (.un (.wrap .u64) (.var 40)) (.lit (.ofNat 7))) (.lit (.ofNat 6))) .leaf .leaf)))))))
theorem lem0 (ρ : Env) : E.den ρ (.bin .eq (.bin (.andNot .u64) (.bin (.or .u64) (.bin (.and .u64) (.var 0) (.lit (.ofNat 786722))) (.lit (.ofNat 8589934592))) (.lit (.ofNat 8589934592))) (.bin (.and .u64) (.bin (.or .u64) (.var 0) (.lit (.ofNat 42949672960))) (.lit (.ofNat 786722)))) ≠ 0 := by
  refine den_eq ρ _ _ ?_
  simp only [den_and64, den_or64, den_xor64, den_andn64, den_add64, den_sub64, den_var, den_lit, B64_toNat]
  try simp only [B64_lit]
  refine cast_eq ?_
  exact bits_view (by decide) (by decide) _
theorem hlem (ρ : Env) : ∀ t ∈ lem, (t.1.den ρ ≠ 0 ↔ t.2 = true) := by
  unfold lem
  simp only [List.forall_mem_cons]
  exact ⟨⟨fun _ => by first | rfl | trivial, fun _ => lem0 ρ⟩, fun _ h => absurd h List.not_mem_nil⟩
end Go.Proofs.Ytlagjhnckdaonaa.csrViews
