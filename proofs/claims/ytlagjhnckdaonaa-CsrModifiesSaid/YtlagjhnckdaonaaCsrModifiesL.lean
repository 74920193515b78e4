/-
  'CsrModifies': tests of which the outcome is always the same, and the tree of cases. Printed by program.
-/
import Derived.Test.YtlagjhnckdaonaaRows
import Derived.Test.YtlagjhnckdaonaaSxB
namespace Go.Proofs.Ytlagjhnckdaonaa.csrModifies
open Go.ChangeShapes Go.WideShapes Go.ChangeAt Go.RowKit Go.Sx
set_option linter.unusedVariables false
set_option linter.unusedSimpArgs false
def lem : List (E × Bool) := [((.bin .eq (.bin (.sub .u64) (.bin (.add .u64) (.var 35) (.var 20)) (.var 21)) (.bin (.add .u64) (.var 20) (.bin (.sub .u64) (.var 35) (.var 21)))), true), ((.bin .eq (.bin (.or .u64) (.bin (.andNot .u64) (.var 4) (.bin (.and .u64) (.var 2) (.lit (.ofNat 2)))) (.bin (.and .u64) (.bin (.or .u64) (.bin (.and .u64) (.bin (.or .u64) (.var 4) (.bin (.and .u64) (.var 37) (.lit (.ofNat 2696)))) (.var 2)) (.var 33)) (.bin (.and .u64) (.var 2) (.lit (.ofNat 2))))) (.bin (.or .u64) (.bin (.andNot .u64) (.var 4) (.bin (.and .u64) (.var 2) (.lit (.ofNat 2)))) (.bin (.and .u64) (.bin (.and .u64) (.bin (.or .u64) (.bin (.and .u64) (.bin (.or .u64) (.var 4) (.bin (.and .u64) (.var 37) (.lit (.ofNat 2696)))) (.var 2)) (.var 33)) (.var 2)) (.lit (.ofNat 2))))), true), ((.bin .eq (.bin (.or .u64) (.bin (.andNot .u64) (.var 4) (.bin (.and .u64) (.var 2) (.lit (.ofNat 2)))) (.bin (.and .u64) (.bin (.andNot .u64) (.bin (.and .u64) (.bin (.or .u64) (.var 4) (.bin (.and .u64) (.var 37) (.lit (.ofNat 2696)))) (.var 2)) (.var 33)) (.bin (.and .u64) (.var 2) (.lit (.ofNat 2))))) (.bin (.or .u64) (.bin (.andNot .u64) (.var 4) (.bin (.and .u64) (.var 2) (.lit (.ofNat 2)))) (.bin (.and .u64) (.bin (.and .u64) (.bin (.andNot .u64) (.bin (.and .u64) (.bin (.or .u64) (.var 4) (.bin (.and .u64) (.var 37) (.lit (.ofNat 2696)))) (.var 2)) (.var 33)) (.var 2)) (.lit (.ofNat 2))))), true), ((.bin .eq (.bin (.or .u64) (.bin (.andNot .u64) (.var 4) (.bin (.and .u64) (.var 2) (.lit (.ofNat 2)))) (.bin (.and .u64) (.var 33) (.bin (.and .u64) (.var 2) (.lit (.ofNat 2))))) (.bin (.or .u64) (.bin (.andNot .u64) (.var 4) (.bin (.and .u64) (.var 2) (.lit (.ofNat 2)))) (.bin (.and .u64) (.bin (.and .u64) (.var 33) (.var 2)) (.lit (.ofNat 2))))), true), ((.bin .eq (.bin (.and .u64) (.bin (.or .u64) (.bin (.andNot .u64) (.bin (.or .u64) (.bin (.or .u64) (.var 0) (.lit (.ofNat 42949672960))) (.var 33)) (.lit (.ofNat 6144))) (.bin (.and .u64) (.var 0) (.lit (.ofNat 6144)))) (.lit (.ofNat 8264106))) (.bin (.or .u64) (.bin (.andNot .u64) (.bin (.and .u64) (.bin (.or .u64) (.bin (.or .u64) (.var 0) (.lit (.ofNat 42949672960))) (.var 33)) (.lit (.ofNat 8264106))) (.lit (.ofNat 6144))) (.bin (.and .u64) (.var 0) (.lit (.ofNat 6144))))), true), ((.bin .eq (.bin (.and .u64) (.bin (.or .u64) (.bin (.andNot .u64) (.bin (.andNot .u64) (.bin (.or .u64) (.var 0) (.lit (.ofNat 42949672960))) (.var 33)) (.lit (.ofNat 6144))) (.bin (.and .u64) (.var 0) (.lit (.ofNat 6144)))) (.lit (.ofNat 8264106))) (.bin (.or .u64) (.bin (.andNot .u64) (.bin (.and .u64) (.bin (.andNot .u64) (.bin (.or .u64) (.var 0) (.lit (.ofNat 42949672960))) (.var 33)) (.lit (.ofNat 8264106))) (.lit (.ofNat 6144))) (.bin (.and .u64) (.var 0) (.lit (.ofNat 6144))))), true), ((.bin .eq (.bin (.and .u64) (.bin (.or .u64) (.bin (.andNot .u64) (.var 33) (.lit (.ofNat 6144))) (.bin (.and .u64) (.var 0) (.lit (.ofNat 6144)))) (.lit (.ofNat 8264106))) (.bin (.or .u64) (.bin (.andNot .u64) (.bin (.and .u64) (.var 33) (.lit (.ofNat 8264106))) (.lit (.ofNat 6144))) (.bin (.and .u64) (.var 0) (.lit (.ofNat 6144))))), true), ((.bin .eq (.bin (.or .u64) (.bin (.sub .u64) (.bin (.add .u64) (.var 35) (.var 20)) (.var 21)) (.var 33)) (.bin (.or .u64) (.bin (.add .u64) (.var 20) (.bin (.sub .u64) (.var 35) (.var 21))) (.var 33))), true), ((.bin .eq (.bin (.andNot .u64) (.bin (.sub .u64) (.bin (.add .u64) (.var 35) (.var 20)) (.var 21)) (.var 33)) (.bin (.andNot .u64) (.bin (.add .u64) (.var 20) (.bin (.sub .u64) (.var 35) (.var 21))) (.var 33))), true)]
def tree : DT := (.node (.bin .lt (.var 30) (.lit (.ofNat 262))) .leaf (.node (.bin .lt (.var 30) (.lit (.ofNat 323))) .leaf (.node (.bin .lt (.var 30) (.lit (.ofNat 384))) .leaf (.node (.bin .lt (.var 30) (.lit (.ofNat 769))) .leaf (.node (.bin .lt (.var 30) (.lit (.ofNat 772))) .leaf (.node (.bin .lt (.var 30) (.lit (.ofNat 775))) .leaf (.node (.bin .lt (.var 30) (.lit (.ofNat 803))) .leaf (.node (.bin .lt (.var 30) (.lit (.ofNat 807))) .leaf (.node (.bin .lt (.var 30) (.lit (.ofNat 834))) .leaf (.node (.bin .lt (.var 30) (.lit (.ofNat 837))) .leaf (.node (.bin .lt (.var 30) (.lit (.ofNat 2816))) .leaf (.node (.bin .lt (.var 30) (.lit (.ofNat 2819))) .leaf (.node (.bin .lt (.var 30) (.lit (.ofNat 2823))) .leaf (.node (.bin .lt (.var 30) (.lit (.ofNat 3072))) .leaf (.node (.bin .eq (.var 30) (.lit (.ofNat 3072))) .leaf (.node (.bin .eq (.var 30) (.lit (.ofNat 3073))) .leaf (.node (.bin .eq (.var 30) (.lit (.ofNat 3074))) .leaf (.node (.bin .lt (.var 30) (.lit (.ofNat 3077))) .leaf .leaf))))))))))))))))))
theorem lem0 (ρ : Env) : E.den ρ (.bin .eq (.bin (.sub .u64) (.bin (.add .u64) (.var 35) (.var 20)) (.var 21)) (.bin (.add .u64) (.var 20) (.bin (.sub .u64) (.var 35) (.var 21)))) ≠ 0 := by
  refine den_eq ρ _ _ ?_
  simp only [den_and64, den_or64, den_xor64, den_andn64, den_add64, den_sub64, den_var, den_lit, B64_toNat]
  try simp only [B64_lit]
  refine cast_eq ?_
  exact bits_cyc _ _ _
theorem lem1 (ρ : Env) : E.den ρ (.bin .eq (.bin (.or .u64) (.bin (.andNot .u64) (.var 4) (.bin (.and .u64) (.var 2) (.lit (.ofNat 2)))) (.bin (.and .u64) (.bin (.or .u64) (.bin (.and .u64) (.bin (.or .u64) (.var 4) (.bin (.and .u64) (.var 37) (.lit (.ofNat 2696)))) (.var 2)) (.var 33)) (.bin (.and .u64) (.var 2) (.lit (.ofNat 2))))) (.bin (.or .u64) (.bin (.andNot .u64) (.var 4) (.bin (.and .u64) (.var 2) (.lit (.ofNat 2)))) (.bin (.and .u64) (.bin (.and .u64) (.bin (.or .u64) (.bin (.and .u64) (.bin (.or .u64) (.var 4) (.bin (.and .u64) (.var 37) (.lit (.ofNat 2696)))) (.var 2)) (.var 33)) (.var 2)) (.lit (.ofNat 2))))) ≠ 0 := by
  refine den_eq ρ _ _ ?_
  simp only [den_and64, den_or64, den_xor64, den_andn64, den_add64, den_sub64, den_var, den_lit, B64_toNat]
  try simp only [B64_lit]
  refine cast_eq ?_
  exact bits_sip _ _ _ _
theorem lem2 (ρ : Env) : E.den ρ (.bin .eq (.bin (.or .u64) (.bin (.andNot .u64) (.var 4) (.bin (.and .u64) (.var 2) (.lit (.ofNat 2)))) (.bin (.and .u64) (.bin (.andNot .u64) (.bin (.and .u64) (.bin (.or .u64) (.var 4) (.bin (.and .u64) (.var 37) (.lit (.ofNat 2696)))) (.var 2)) (.var 33)) (.bin (.and .u64) (.var 2) (.lit (.ofNat 2))))) (.bin (.or .u64) (.bin (.andNot .u64) (.var 4) (.bin (.and .u64) (.var 2) (.lit (.ofNat 2)))) (.bin (.and .u64) (.bin (.and .u64) (.bin (.andNot .u64) (.bin (.and .u64) (.bin (.or .u64) (.var 4) (.bin (.and .u64) (.var 37) (.lit (.ofNat 2696)))) (.var 2)) (.var 33)) (.var 2)) (.lit (.ofNat 2))))) ≠ 0 := by
  refine den_eq ρ _ _ ?_
  simp only [den_and64, den_or64, den_xor64, den_andn64, den_add64, den_sub64, den_var, den_lit, B64_toNat]
  try simp only [B64_lit]
  refine cast_eq ?_
  exact bits_sip _ _ _ _
theorem lem3 (ρ : Env) : E.den ρ (.bin .eq (.bin (.or .u64) (.bin (.andNot .u64) (.var 4) (.bin (.and .u64) (.var 2) (.lit (.ofNat 2)))) (.bin (.and .u64) (.var 33) (.bin (.and .u64) (.var 2) (.lit (.ofNat 2))))) (.bin (.or .u64) (.bin (.andNot .u64) (.var 4) (.bin (.and .u64) (.var 2) (.lit (.ofNat 2)))) (.bin (.and .u64) (.bin (.and .u64) (.var 33) (.var 2)) (.lit (.ofNat 2))))) ≠ 0 := by
  refine den_eq ρ _ _ ?_
  simp only [den_and64, den_or64, den_xor64, den_andn64, den_add64, den_sub64, den_var, den_lit, B64_toNat]
  try simp only [B64_lit]
  refine cast_eq ?_
  exact bits_sip _ _ _ _
theorem lem4 (ρ : Env) : E.den ρ (.bin .eq (.bin (.and .u64) (.bin (.or .u64) (.bin (.andNot .u64) (.bin (.or .u64) (.bin (.or .u64) (.var 0) (.lit (.ofNat 42949672960))) (.var 33)) (.lit (.ofNat 6144))) (.bin (.and .u64) (.var 0) (.lit (.ofNat 6144)))) (.lit (.ofNat 8264106))) (.bin (.or .u64) (.bin (.andNot .u64) (.bin (.and .u64) (.bin (.or .u64) (.bin (.or .u64) (.var 0) (.lit (.ofNat 42949672960))) (.var 33)) (.lit (.ofNat 8264106))) (.lit (.ofNat 6144))) (.bin (.and .u64) (.var 0) (.lit (.ofNat 6144))))) ≠ 0 := by
  refine den_eq ρ _ _ ?_
  simp only [den_and64, den_or64, den_xor64, den_andn64, den_add64, den_sub64, den_var, den_lit, B64_toNat]
  try simp only [B64_lit]
  refine cast_eq ?_
  exact bits_status (by decide) _ _
theorem lem5 (ρ : Env) : E.den ρ (.bin .eq (.bin (.and .u64) (.bin (.or .u64) (.bin (.andNot .u64) (.bin (.andNot .u64) (.bin (.or .u64) (.var 0) (.lit (.ofNat 42949672960))) (.var 33)) (.lit (.ofNat 6144))) (.bin (.and .u64) (.var 0) (.lit (.ofNat 6144)))) (.lit (.ofNat 8264106))) (.bin (.or .u64) (.bin (.andNot .u64) (.bin (.and .u64) (.bin (.andNot .u64) (.bin (.or .u64) (.var 0) (.lit (.ofNat 42949672960))) (.var 33)) (.lit (.ofNat 8264106))) (.lit (.ofNat 6144))) (.bin (.and .u64) (.var 0) (.lit (.ofNat 6144))))) ≠ 0 := by
  refine den_eq ρ _ _ ?_
  simp only [den_and64, den_or64, den_xor64, den_andn64, den_add64, den_sub64, den_var, den_lit, B64_toNat]
  try simp only [B64_lit]
  refine cast_eq ?_
  exact bits_status (by decide) _ _
theorem lem6 (ρ : Env) : E.den ρ (.bin .eq (.bin (.and .u64) (.bin (.or .u64) (.bin (.andNot .u64) (.var 33) (.lit (.ofNat 6144))) (.bin (.and .u64) (.var 0) (.lit (.ofNat 6144)))) (.lit (.ofNat 8264106))) (.bin (.or .u64) (.bin (.andNot .u64) (.bin (.and .u64) (.var 33) (.lit (.ofNat 8264106))) (.lit (.ofNat 6144))) (.bin (.and .u64) (.var 0) (.lit (.ofNat 6144))))) ≠ 0 := by
  refine den_eq ρ _ _ ?_
  simp only [den_and64, den_or64, den_xor64, den_andn64, den_add64, den_sub64, den_var, den_lit, B64_toNat]
  try simp only [B64_lit]
  refine cast_eq ?_
  exact bits_status (by decide) _ _
theorem lem7 (ρ : Env) : E.den ρ (.bin .eq (.bin (.or .u64) (.bin (.sub .u64) (.bin (.add .u64) (.var 35) (.var 20)) (.var 21)) (.var 33)) (.bin (.or .u64) (.bin (.add .u64) (.var 20) (.bin (.sub .u64) (.var 35) (.var 21))) (.var 33))) ≠ 0 := by
  refine den_eq ρ _ _ ?_
  simp only [den_and64, den_or64, den_xor64, den_andn64, den_add64, den_sub64, den_var, den_lit, B64_toNat]
  try simp only [B64_lit]
  refine cast_eq ?_
  rw [bits_cyc]
theorem lem8 (ρ : Env) : E.den ρ (.bin .eq (.bin (.andNot .u64) (.bin (.sub .u64) (.bin (.add .u64) (.var 35) (.var 20)) (.var 21)) (.var 33)) (.bin (.andNot .u64) (.bin (.add .u64) (.var 20) (.bin (.sub .u64) (.var 35) (.var 21))) (.var 33))) ≠ 0 := by
  refine den_eq ρ _ _ ?_
  simp only [den_and64, den_or64, den_xor64, den_andn64, den_add64, den_sub64, den_var, den_lit, B64_toNat]
  try simp only [B64_lit]
  refine cast_eq ?_
  rw [bits_cyc]
theorem hlem (ρ : Env) : ∀ t ∈ lem, (t.1.den ρ ≠ 0 ↔ t.2 = true) := by
  unfold lem
  simp only [List.forall_mem_cons]
  exact ⟨⟨fun _ => by first | rfl | trivial, fun _ => lem0 ρ⟩, ⟨fun _ => by first | rfl | trivial, fun _ => lem1 ρ⟩, ⟨fun _ => by first | rfl | trivial, fun _ => lem2 ρ⟩, ⟨fun _ => by first | rfl | trivial, fun _ => lem3 ρ⟩, ⟨fun _ => by first | rfl | trivial, fun _ => lem4 ρ⟩, ⟨fun _ => by first | rfl | trivial, fun _ => lem5 ρ⟩, ⟨fun _ => by first | rfl | trivial, fun _ => lem6 ρ⟩, ⟨fun _ => by first | rfl | trivial, fun _ => lem7 ρ⟩, ⟨fun _ => by first | rfl | trivial, fun _ => lem8 ρ⟩, fun _ h => absurd h List.not_mem_nil⟩
end Go.Proofs.Ytlagjhnckdaonaa.csrModifies
