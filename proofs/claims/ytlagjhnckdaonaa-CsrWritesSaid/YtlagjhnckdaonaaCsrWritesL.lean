/-
  'CsrWrites': tests of which the outcome is always the same, and the tree of cases. Printed by program.
-/
import Derived.Test.YtlagjhnckdaonaaRows
import Derived.Test.YtlagjhnckdaonaaSxB
namespace Go.Proofs.Ytlagjhnckdaonaa.csrWrites
open Go.ChangeShapes Go.WideShapes Go.ChangeAt Go.RowKit Go.Sx
set_option linter.unusedVariables false
set_option linter.unusedSimpArgs false
def lem : List (E × Bool) := [((.bin .eq (.bin (.sub .u64) (.bin (.add .u64) (.var 33) (.var 20)) (.var 21)) (.bin (.add .u64) (.var 20) (.bin (.sub .u64) (.var 33) (.var 21)))), true), ((.bin .eq (.bin (.or .u64) (.bin (.andNot .u64) (.var 4) (.bin (.and .u64) (.var 2) (.lit (.ofNat 2)))) (.bin (.and .u64) (.var 32) (.bin (.and .u64) (.var 2) (.lit (.ofNat 2))))) (.bin (.or .u64) (.bin (.andNot .u64) (.var 4) (.bin (.and .u64) (.var 2) (.lit (.ofNat 2)))) (.bin (.and .u64) (.bin (.and .u64) (.var 32) (.var 2)) (.lit (.ofNat 2))))), true), ((.bin .eq (.bin (.and .u64) (.bin (.or .u64) (.bin (.andNot .u64) (.var 32) (.lit (.ofNat 6144))) (.bin (.and .u64) (.var 0) (.lit (.ofNat 6144)))) (.lit (.ofNat 8264106))) (.bin (.or .u64) (.bin (.andNot .u64) (.bin (.and .u64) (.var 32) (.lit (.ofNat 8264106))) (.lit (.ofNat 6144))) (.bin (.and .u64) (.var 0) (.lit (.ofNat 6144))))), true)]
def tree : DT := (.node (.bin .lt (.var 30) (.lit (.ofNat 320))) .leaf (.node (.bin .lt (.var 30) (.lit (.ofNat 325))) .leaf (.node (.bin .lt (.var 30) (.lit (.ofNat 768))) .leaf (.node (.bin .lt (.var 30) (.lit (.ofNat 772))) .leaf (.node (.bin .lt (.var 30) (.lit (.ofNat 803))) .leaf (.node (.bin .lt (.var 30) (.lit (.ofNat 807))) .leaf (.node (.bin .lt (.var 30) (.lit (.ofNat 837))) .leaf (.node (.bin .lt (.var 30) (.lit (.ofNat 2816))) .leaf (.node (.bin .lt (.var 30) (.lit (.ofNat 2823))) .leaf (.node (.bin .lt (.var 30) (.lit (.ofNat 3072))) .leaf (.node (.bin .eq (.var 30) (.lit (.ofNat 3072))) .leaf (.node (.bin .eq (.var 30) (.lit (.ofNat 3073))) .leaf (.node (.bin .eq (.var 30) (.lit (.ofNat 3074))) .leaf .leaf)))))))))))))
theorem lem0 (ρ : Env) : E.den ρ (.bin .eq (.bin (.sub .u64) (.bin (.add .u64) (.var 33) (.var 20)) (.var 21)) (.bin (.add .u64) (.var 20) (.bin (.sub .u64) (.var 33) (.var 21)))) ≠ 0 := by
  refine den_eq ρ _ _ ?_
  simp only [den_and64, den_or64, den_xor64, den_andn64, den_add64, den_sub64, den_var, den_lit, B64_toNat]
  try simp only [B64_lit]
  refine cast_eq ?_
  exact bits_cyc _ _ _
theorem lem1 (ρ : Env) : E.den ρ (.bin .eq (.bin (.or .u64) (.bin (.andNot .u64) (.var 4) (.bin (.and .u64) (.var 2) (.lit (.ofNat 2)))) (.bin (.and .u64) (.var 32) (.bin (.and .u64) (.var 2) (.lit (.ofNat 2))))) (.bin (.or .u64) (.bin (.andNot .u64) (.var 4) (.bin (.and .u64) (.var 2) (.lit (.ofNat 2)))) (.bin (.and .u64) (.bin (.and .u64) (.var 32) (.var 2)) (.lit (.ofNat 2))))) ≠ 0 := by
  refine den_eq ρ _ _ ?_
  simp only [den_and64, den_or64, den_xor64, den_andn64, den_add64, den_sub64, den_var, den_lit, B64_toNat]
  try simp only [B64_lit]
  refine cast_eq ?_
  exact bits_sip _ _ _ _
theorem lem2 (ρ : Env) : E.den ρ (.bin .eq (.bin (.and .u64) (.bin (.or .u64) (.bin (.andNot .u64) (.var 32) (.lit (.ofNat 6144))) (.bin (.and .u64) (.var 0) (.lit (.ofNat 6144)))) (.lit (.ofNat 8264106))) (.bin (.or .u64) (.bin (.andNot .u64) (.bin (.and .u64) (.var 32) (.lit (.ofNat 8264106))) (.lit (.ofNat 6144))) (.bin (.and .u64) (.var 0) (.lit (.ofNat 6144))))) ≠ 0 := by
  refine den_eq ρ _ _ ?_
  simp only [den_and64, den_or64, den_xor64, den_andn64, den_add64, den_sub64, den_var, den_lit, B64_toNat]
  try simp only [B64_lit]
  refine cast_eq ?_
  exact bits_status (by decide) _ _
theorem hlem (ρ : Env) : ∀ t ∈ lem, (t.1.den ρ ≠ 0 ↔ t.2 = true) := by
  unfold lem
  simp only [List.forall_mem_cons]
  exact ⟨⟨fun _ => by first | rfl | trivial, fun _ => lem0 ρ⟩, ⟨fun _ => by first | rfl | trivial, fun _ => lem1 ρ⟩, ⟨fun _ => by first | rfl | trivial, fun _ => lem2 ρ⟩, fun _ h => absurd h List.not_mem_nil⟩
end Go.Proofs.Ytlagjhnckdaonaa.csrWrites
