/-
  'CsrTime': tests of which the outcome is always the same, and the tree of cases. Printed by program.
-/
import Derived.Test.YtlagjhnckdaonaaRows
import Derived.Test.YtlagjhnckdaonaaSxB
namespace Go.Proofs.Ytlagjhnckdaonaa.csrTime
open Go.ChangeShapes Go.WideShapes Go.ChangeAt Go.RowKit Go.Sx
set_option linter.unusedVariables false
set_option linter.unusedSimpArgs false
def lem : List (E × Bool) := [((.bin .eq (.bin (.sub .u64) (.bin (.add .u64) (.var 30) (.bin (.add .u64) (.var 32) (.var 31))) (.var 31)) (.bin (.add .u64) (.var 32) (.var 30))), true), ((.bin .eq (.bin (.sub .u64) (.bin (.add .u64) (.bin (.sub .u64) (.bin (.add .u64) (.var 30) (.bin (.add .u64) (.var 32) (.var 31))) (.var 31)) (.bin (.add .u64) (.bin (.add .u64) (.bin (.add .u64) (.var 32) (.var 31)) (.var 33)) (.lit (.ofNat 7)))) (.bin (.add .u64) (.bin (.add .u64) (.var 32) (.var 31)) (.var 33))) (.bin (.add .u64) (.bin (.add .u64) (.var 32) (.var 30)) (.lit (.ofNat 7)))), true)]
def tree : DT := .leaf
theorem lem0 (ρ : Env) : E.den ρ (.bin .eq (.bin (.sub .u64) (.bin (.add .u64) (.var 30) (.bin (.add .u64) (.var 32) (.var 31))) (.var 31)) (.bin (.add .u64) (.var 32) (.var 30))) ≠ 0 := by
  refine den_eq ρ _ _ ?_
  simp only [den_and64, den_or64, den_xor64, den_andn64, den_add64, den_sub64, den_var, den_lit, B64_toNat]
  try simp only [B64_lit]
  refine cast_eq ?_
  rw [← BitVec.add_assoc, BitVec.add_sub_cancel, BitVec.add_comm]
theorem lem1 (ρ : Env) : E.den ρ (.bin .eq (.bin (.sub .u64) (.bin (.add .u64) (.bin (.sub .u64) (.bin (.add .u64) (.var 30) (.bin (.add .u64) (.var 32) (.var 31))) (.var 31)) (.bin (.add .u64) (.bin (.add .u64) (.bin (.add .u64) (.var 32) (.var 31)) (.var 33)) (.lit (.ofNat 7)))) (.bin (.add .u64) (.bin (.add .u64) (.var 32) (.var 31)) (.var 33))) (.bin (.add .u64) (.bin (.add .u64) (.var 32) (.var 30)) (.lit (.ofNat 7)))) ≠ 0 := by
  refine den_eq ρ _ _ ?_
  simp only [den_and64, den_or64, den_xor64, den_andn64, den_add64, den_sub64, den_var, den_lit, B64_toNat]
  try simp only [B64_lit]
  refine cast_eq ?_
  rw [← BitVec.add_assoc (B64 (ρ.v 30)) (B64 (ρ.v 32)) (B64 (ρ.v 31)), BitVec.add_sub_cancel, BitVec.add_comm (B64 (ρ.v 32) + B64 (ρ.v 31) + B64 (ρ.v 33)) (BitVec.ofNat 64 7), ← BitVec.add_assoc, BitVec.add_sub_cancel, BitVec.add_comm (B64 (ρ.v 30)) (B64 (ρ.v 32))]
theorem hlem (ρ : Env) : ∀ t ∈ lem, (t.1.den ρ ≠ 0 ↔ t.2 = true) := by
  unfold lem
  simp only [List.forall_mem_cons]
  exact ⟨⟨fun _ => by first | rfl | trivial, fun _ => lem0 ρ⟩, ⟨fun _ => by first | rfl | trivial, fun _ => lem1 ρ⟩, fun _ h => absurd h List.not_mem_nil⟩
end Go.Proofs.Ytlagjhnckdaonaa.csrTime
