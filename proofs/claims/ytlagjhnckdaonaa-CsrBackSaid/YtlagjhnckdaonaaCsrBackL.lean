/-
  'CsrBack': the templates of its loop, and what is known there. Printed by program.
-/
import Derived.Test.YtlagjhnckdaonaaRows
import Derived.Test.YtlagjhnckdaonaaSxC
namespace Go.Proofs.Ytlagjhnckdaonaa.csrBack
open Go.ChangeShapes Go.WideShapes Go.ChangeAt Go.RowKit Go.Sx
set_option linter.unusedVariables false
set_option linter.unusedSimpArgs false

def tabE : Ent := ⟨false, .tab 0 (.tv 0) (.var 0) [.int .i64, .int .i64, .int .i64, .int .u64, .bool, .int .u64, .int .u64, .int .u64, .int .u64, .int .u64, .int .u64, .int .u64, .bool, .int .u64, .bool]⟩
def slotsE : List (Nat × SV) := [(1, .v (.one (.int .i64 (.var 2)))), (2, .v (.one (.int .u64 (.var 3)))), (3, .v (.agg [.int .u64 (.var 4), .int .u64 (.var 5), .int .u64 (.var 6), .int .u64 (.var 7), .int .u64 (.var 8), .int .u64 (.var 9), .int .u64 (.var 10), .bool (.var 11), .int .u64 (.var 12), .bool (.var 13)])), (7, .v (.one (.ptr 1 0))), (9, .v (.one (.ptr 2 0)))]
def heapE : List (Nat × Ent) := [(1, ⟨true, .cells [.int .u64 (.var 4), .int .u64 (.var 5), .int .u64 (.var 6), .int .u64 (.var 7), .int .u64 (.var 8), .int .u64 (.var 9), .int .u64 (.var 10), .bool (.var 11), .int .u64 (.var 12), .bool (.var 13)] 27⟩), (2, ⟨true, .cells [.int .u64 (.var 101), .int .u64 (.var 102), .int .u64 (.var 103), .int .u64 (.var 104), .int .u64 (.var 105), .int .u64 (.var 106), .int .u64 (.var 107), .int .u64 (.var 108), .int .u64 (.var 109), .int .u64 (.var 110), .int .u64 (.var 111), .int .u64 (.var 112), .int .u64 (.var 113), .int .u64 (.var 114), .int .u64 (.var 115), .int .u64 (.var 116), .int .u64 (.var 117), .int .u64 (.var 118), .int .u64 (.var 119), .int .u64 (.var 120), .int .u64 (.var 121), .int .u64 (.var 122), .int .u64 (.var 123), .int .u64 (.var 124), .int .u64 (.var 125), .int .u64 (.var 126), .int .u64 (.var 127), .int .u64 (.var 128), .int .u64 (.var 129), .int .u64 (.var 130)] 25⟩)]
def T : Tm := ⟨(0, .v (.one (.tslc 0 15 (.lit (.ofNat 0)) (.var 0) (.var 1)))) :: (10, .v (.one (.int .i64 (.var 100)))) :: slotsE, (0, tabE) :: heapE, 3⟩
def TE : Tm := ⟨slotsE, heapE, 3⟩
def factsE : List Fact := [.rng (.var 2) (some (.negSucc 9223372036854775807), some (.ofNat 9223372036854775807)), .rng (.var 3) (some (.ofNat 0), some (.ofNat 18446744073709551615)), .rng (.var 4) (some (.ofNat 0), some (.ofNat 18446744073709551615)), .rng (.var 5) (some (.ofNat 0), some (.ofNat 18446744073709551615)), .rng (.var 6) (some (.ofNat 0), some (.ofNat 18446744073709551615)), .rng (.var 7) (some (.ofNat 0), some (.ofNat 18446744073709551615)), .rng (.var 8) (some (.ofNat 0), some (.ofNat 18446744073709551615)), .rng (.var 9) (some (.ofNat 0), some (.ofNat 18446744073709551615)), .rng (.var 10) (some (.ofNat 0), some (.ofNat 18446744073709551615)), .rng (.var 11) (some (.ofNat 0), some (.ofNat 1)), .rng (.var 12) (some (.ofNat 0), some (.ofNat 18446744073709551615)), .rng (.var 13) (some (.ofNat 0), some (.ofNat 1)), .rng (.var 101) (some (.ofNat 0), some (.ofNat 18446744073709551615)), .rng (.var 102) (some (.ofNat 0), some (.ofNat 18446744073709551615)), .rng (.var 103) (some (.ofNat 0), some (.ofNat 18446744073709551615)), .rng (.var 104) (some (.ofNat 0), some (.ofNat 18446744073709551615)), .rng (.var 105) (some (.ofNat 0), some (.ofNat 18446744073709551615)), .rng (.var 106) (some (.ofNat 0), some (.ofNat 18446744073709551615)), .rng (.var 107) (some (.ofNat 0), some (.ofNat 18446744073709551615)), .rng (.var 108) (some (.ofNat 0), some (.ofNat 18446744073709551615)), .rng (.var 109) (some (.ofNat 0), some (.ofNat 18446744073709551615)), .rng (.var 110) (some (.ofNat 0), some (.ofNat 18446744073709551615)), .rng (.var 111) (some (.ofNat 0), some (.ofNat 18446744073709551615)), .rng (.var 112) (some (.ofNat 0), some (.ofNat 18446744073709551615)), .rng (.var 113) (some (.ofNat 0), some (.ofNat 18446744073709551615)), .rng (.var 114) (some (.ofNat 0), some (.ofNat 18446744073709551615)), .rng (.var 115) (some (.ofNat 0), some (.ofNat 18446744073709551615)), .rng (.var 116) (some (.ofNat 0), some (.ofNat 18446744073709551615)), .rng (.var 117) (some (.ofNat 0), some (.ofNat 18446744073709551615)), .rng (.var 118) (some (.ofNat 0), some (.ofNat 18446744073709551615)), .rng (.var 119) (some (.ofNat 0), some (.ofNat 18446744073709551615)), .rng (.var 120) (some (.ofNat 0), some (.ofNat 18446744073709551615)), .rng (.var 121) (some (.ofNat 0), some (.ofNat 18446744073709551615)), .rng (.var 122) (some (.ofNat 0), some (.ofNat 18446744073709551615)), .rng (.var 123) (some (.ofNat 0), some (.ofNat 5)), .rng (.var 124) (some (.ofNat 0), some (.ofNat 5)), .rng (.var 125) (some (.ofNat 0), some (.ofNat 5)), .rng (.var 126) (some (.ofNat 0), some (.ofNat 5)), .rng (.var 127) (some (.ofNat 0), some (.ofNat 18446744073709551615)), .rng (.var 128) (some (.ofNat 0), some (.ofNat 18446744073709551615)), .rng (.var 129) (some (.ofNat 0), some (.ofNat 18446744073709551615)), .rng (.var 130) (some (.ofNat 0), some (.ofNat 18446744073709551615)), .rng (.bin (.and .u64) (.var 102) (.lit (.ofNat 18446744073709505536))) (some (.ofNat 0), some (.ofNat 0)), .tr (.bin .eq (.bin (.and .u64) (.var 102) (.lit (.ofNat 18446744073709505536))) (.lit (.ofNat 0))) true, .rng (.bin (.and .u64) (.var 103) (.lit (.ofNat 18446744073709551069))) (some (.ofNat 0), some (.ofNat 0)), .tr (.bin .eq (.bin (.and .u64) (.var 103) (.lit (.ofNat 18446744073709551069))) (.lit (.ofNat 0))) true, .rng (.bin (.and .u64) (.var 104) (.lit (.ofNat 18446744073709548885))) (some (.ofNat 0), some (.ofNat 0)), .tr (.bin .eq (.bin (.and .u64) (.var 104) (.lit (.ofNat 18446744073709548885))) (.lit (.ofNat 0))) true, .rng (.bin (.and .u64) (.var 105) (.lit (.ofNat 18446744073709551069))) (some (.ofNat 0), some (.ofNat 0)), .tr (.bin .eq (.bin (.and .u64) (.var 105) (.lit (.ofNat 18446744073709551069))) (.lit (.ofNat 0))) true, .rng (.bin (.and .u64) (.var 106) (.lit (.ofNat 2))) (some (.ofNat 0), some (.ofNat 0)), .tr (.bin .eq (.bin (.and .u64) (.var 106) (.lit (.ofNat 2))) (.lit (.ofNat 0))) true, .rng (.bin (.and .u64) (.var 112) (.lit (.ofNat 2))) (some (.ofNat 0), some (.ofNat 0)), .tr (.bin .eq (.bin (.and .u64) (.var 112) (.lit (.ofNat 2))) (.lit (.ofNat 0))) true, .rng (.bin (.and .u64) (.var 107) (.lit (.ofNat 18446744073709551488))) (some (.ofNat 0), some (.ofNat 0)), .tr (.bin .eq (.bin (.and .u64) (.var 107) (.lit (.ofNat 18446744073709551488))) (.lit (.ofNat 0))) true, .rng (.bin (.and .u64) (.var 113) (.lit (.ofNat 18446744073709551488))) (some (.ofNat 0), some (.ofNat 0)), .tr (.bin .eq (.bin (.and .u64) (.var 113) (.lit (.ofNat 18446744073709551488))) (.lit (.ofNat 0))) true, .rng (.bin (.and .u64) (.var 109) (.lit (.ofNat 3))) (some (.ofNat 0), some (.ofNat 0)), .tr (.bin .eq (.bin (.and .u64) (.var 109) (.lit (.ofNat 3))) (.lit (.ofNat 0))) true, .rng (.bin (.and .u64) (.var 115) (.lit (.ofNat 3))) (some (.ofNat 0), some (.ofNat 0)), .tr (.bin .eq (.bin (.and .u64) (.var 115) (.lit (.ofNat 3))) (.lit (.ofNat 0))) true, .rng (.bin (.and .u64) (.var 110) (.lit (.ofNat 9223372036854775744))) (some (.ofNat 0), some (.ofNat 0)), .tr (.bin .eq (.bin (.and .u64) (.var 110) (.lit (.ofNat 9223372036854775744))) (.lit (.ofNat 0))) true, .rng (.bin (.and .u64) (.var 116) (.lit (.ofNat 9223372036854775744))) (some (.ofNat 0), some (.ofNat 0)), .tr (.bin .eq (.bin (.and .u64) (.var 116) (.lit (.ofNat 9223372036854775744))) (.lit (.ofNat 0))) true, .rng (.bin (.and .u64) (.var 119) (.lit (.ofNat 18446744073709551490))) (some (.ofNat 0), some (.ofNat 0)), .tr (.bin .eq (.bin (.and .u64) (.var 119) (.lit (.ofNat 18446744073709551490))) (.lit (.ofNat 0))) true, .rng (.bin (.and .u64) (.var 101) (.lit (.ofNat 18446744073701287509))) (some (.ofNat 0), some (.ofNat 0)), .tr (.bin .eq (.bin (.and .u64) (.var 101) (.lit (.ofNat 18446744073701287509))) (.lit (.ofNat 0))) true, .tr (.bin .eq (.bin (.and .u64) (.var 101) (.lit (.ofNat 8264106))) (.var 101)) true, .tr (.bin .eq (.var 101) (.bin (.and .u64) (.var 101) (.lit (.ofNat 8264106)))) true, .tr (.bin .eq (.bin (.and .u64) (.var 101) (.lit (.ofNat 6144))) (.lit (.ofNat 4096))) false, .tr (.ite (.bin .eq (.bin (.shr .u64) (.var 118) (.lit (.ofNat 60))) (.lit (.ofNat 0))) (.lit (.ofNat 1)) (.bin .eq (.bin (.shr .u64) (.var 118) (.lit (.ofNat 60))) (.lit (.ofNat 8)))) true]
def factsL : List Fact := [.rng (.var 0) (some (.ofNat 0), some (.ofNat 9223372036854775807)), .rng (.var 1) (some (.ofNat 0), some (.ofNat 9223372036854775807)), .rng (.var 100) (some (.ofNat 0), some (.ofNat 40))] ++ factsE


theorem rel2 : ∀ i, i < 64 → ((B64 ((2 : Nat) : Int)).getLsbD i && (B64 ((2696 : Nat) : Int)).getLsbD i) = false := by decide
theorem rel546 : ∀ i, i < 64 → ((B64 ((546 : Nat) : Int)).getLsbD i && (B64 ((2696 : Nat) : Int)).getLsbD i) = (B64 ((512 : Nat) : Int)).getLsbD i := by decide
theorem mip (x v : BitVec 64) (h : x &&& B64 ((512 : Nat) : Int) = 0) : ((v &&& B64 ((546 : Nat) : Int)) ||| (x &&& B64 ((2696 : Nat) : Int))) &&& B64 ((546 : Nat) : Int) = v &&& B64 ((546 : Nat) : Int) := by
  apply BitVec.eq_of_getLsbD_eq
  intro i hi
  have hl := rel546 i hi
  have hx := congrArg (fun w => BitVec.getLsbD w i) h
  simp only [BitVec.getLsbD_and, BitVec.getLsbD_or] at hx ⊢
  rw [← hl] at hx
  rw [show (0 : BitVec 64).getLsbD i = false by simp] at hx
  generalize x.getLsbD i = a at *
  generalize v.getLsbD i = c at *
  generalize (B64 ((546 : Nat) : Int)).getLsbD i = p at *
  generalize (B64 ((2696 : Nat) : Int)).getLsbD i = q at *
  revert hx
  clear hl h
  revert a c p q
  decide
theorem mip_E (ρ : Env) (h : E.den ρ (.bin .eq (.bin (.and .u64) (.var 6) (.lit (.ofNat 512))) (.lit (.ofNat 0))) ≠ 0) :
    E.den ρ (.bin .eq (.bin (.and .u64) (.bin (.or .u64) (.bin (.and .u64) (.var 3) (.lit (.ofNat 546))) (.bin (.and .u64) (.var 6) (.lit (.ofNat 2696)))) (.lit (.ofNat 546))) (.bin (.and .u64) (.var 3) (.lit (.ofNat 546)))) ≠ 0 := by
  rw [den_eq_iff] at h ⊢
  simp only [den_and64, den_or64, den_var, den_lit, B64_toNat] at h ⊢
  refine cast_eq (mip _ _ ?_)
  apply BitVec.eq_of_toNat_eq
  have : ((B64 (ρ.v 6) &&& B64 ((512 : Nat) : Int)).toNat : Int) = ((0 : Nat) : Int) := h
  simpa using this

def lemL : List Fact := []
theorem lemL_ok : ∀ ρ, (∀ g ∈ factsL, Fact.holds ρ g) → ∀ g ∈ lemL, Fact.holds ρ g := fun _ _ _ h => absurd h List.not_mem_nil
def lemE : List Fact := [.tr (.bin .eq (.bin (.and .u64) (.bin (.or .u64) (.bin (.andNot .u64) (.bin (.or .u64) (.bin (.andNot .u64) (.var 104) (.var 103)) (.bin (.and .u64) (.var 103) (.var 3))) (.var 103)) (.bin (.and .u64) (.bin (.and .u64) (.bin (.or .u64) (.bin (.andNot .u64) (.var 104) (.var 103)) (.bin (.and .u64) (.var 103) (.var 3))) (.var 103)) (.var 103))) (.var 103)) (.bin (.and .u64) (.bin (.or .u64) (.bin (.andNot .u64) (.var 104) (.var 103)) (.bin (.and .u64) (.var 103) (.var 3))) (.var 103))) true, .tr (.bin .eq (.bin (.or .u64) (.bin (.andNot .u64) (.bin (.or .u64) (.bin (.andNot .u64) (.var 104) (.var 103)) (.bin (.and .u64) (.var 103) (.var 3))) (.var 103)) (.bin (.and .u64) (.bin (.and .u64) (.bin (.or .u64) (.bin (.andNot .u64) (.var 104) (.var 103)) (.bin (.and .u64) (.var 103) (.var 3))) (.var 103)) (.var 103))) (.bin (.or .u64) (.bin (.andNot .u64) (.var 104) (.var 103)) (.bin (.and .u64) (.var 103) (.var 3)))) true, .tr (.bin .eq (.bin (.and .u64) (.bin (.or .u64) (.bin (.or .u64) (.bin (.andNot .u64) (.bin (.or .u64) (.bin (.andNot .u64) (.var 105) (.bin (.and .u64) (.var 103) (.lit (.ofNat 2)))) (.bin (.and .u64) (.var 3) (.bin (.and .u64) (.var 103) (.lit (.ofNat 2))))) (.bin (.and .u64) (.var 103) (.lit (.ofNat 2)))) (.bin (.and .u64) (.bin (.and .u64) (.bin (.or .u64) (.bin (.or .u64) (.bin (.andNot .u64) (.var 105) (.bin (.and .u64) (.var 103) (.lit (.ofNat 2)))) (.bin (.and .u64) (.var 3) (.bin (.and .u64) (.var 103) (.lit (.ofNat 2))))) (.bin (.and .u64) (.var 6) (.lit (.ofNat 2696)))) (.var 103)) (.bin (.and .u64) (.var 103) (.lit (.ofNat 2))))) (.bin (.and .u64) (.var 6) (.lit (.ofNat 2696)))) (.var 103)) (.bin (.and .u64) (.bin (.or .u64) (.bin (.or .u64) (.bin (.andNot .u64) (.var 105) (.bin (.and .u64) (.var 103) (.lit (.ofNat 2)))) (.bin (.and .u64) (.var 3) (.bin (.and .u64) (.var 103) (.lit (.ofNat 2))))) (.bin (.and .u64) (.var 6) (.lit (.ofNat 2696)))) (.var 103))) true, .tr (.bin .eq (.bin (.or .u64) (.bin (.andNot .u64) (.bin (.or .u64) (.bin (.andNot .u64) (.var 105) (.bin (.and .u64) (.var 103) (.lit (.ofNat 2)))) (.bin (.and .u64) (.var 3) (.bin (.and .u64) (.var 103) (.lit (.ofNat 2))))) (.bin (.and .u64) (.var 103) (.lit (.ofNat 2)))) (.bin (.and .u64) (.bin (.and .u64) (.bin (.or .u64) (.bin (.or .u64) (.bin (.andNot .u64) (.var 105) (.bin (.and .u64) (.var 103) (.lit (.ofNat 2)))) (.bin (.and .u64) (.var 3) (.bin (.and .u64) (.var 103) (.lit (.ofNat 2))))) (.bin (.and .u64) (.var 6) (.lit (.ofNat 2696)))) (.var 103)) (.bin (.and .u64) (.var 103) (.lit (.ofNat 2))))) (.bin (.or .u64) (.bin (.andNot .u64) (.var 105) (.bin (.and .u64) (.var 103) (.lit (.ofNat 2)))) (.bin (.and .u64) (.var 3) (.bin (.and .u64) (.var 103) (.lit (.ofNat 2)))))) true, .tr (.bin .eq (.bin (.or .u64) (.bin (.and .u64) (.bin (.or .u64) (.bin (.and .u64) (.var 3) (.lit (.ofNat 546))) (.bin (.and .u64) (.var 6) (.lit (.ofNat 2696)))) (.lit (.ofNat 546))) (.bin (.and .u64) (.var 6) (.lit (.ofNat 2696)))) (.bin (.or .u64) (.bin (.and .u64) (.var 3) (.lit (.ofNat 546))) (.bin (.and .u64) (.var 6) (.lit (.ofNat 2696))))) true]
theorem lemE0 : ∀ ρ, (∀ g ∈ factsE, Fact.holds ρ g) → Fact.holds ρ (.tr (.bin .eq (.bin (.and .u64) (.bin (.or .u64) (.bin (.andNot .u64) (.bin (.or .u64) (.bin (.andNot .u64) (.var 104) (.var 103)) (.bin (.and .u64) (.var 103) (.var 3))) (.var 103)) (.bin (.and .u64) (.bin (.and .u64) (.bin (.or .u64) (.bin (.andNot .u64) (.var 104) (.var 103)) (.bin (.and .u64) (.var 103) (.var 3))) (.var 103)) (.var 103))) (.var 103)) (.bin (.and .u64) (.bin (.or .u64) (.bin (.andNot .u64) (.var 104) (.var 103)) (.bin (.and .u64) (.var 103) (.var 3))) (.var 103))) true) := by
  intro ρ hk
  refine eq_iff.2 ⟨fun _ => rfl, fun _ => ?_⟩
  simp only [den_and64, den_or64, den_andn64, den_var, den_lit, B64_toNat]
  refine cast_eq ?_
  apply BitVec.eq_of_getLsbD_eq
  intro i hi
  simp only [BitVec.getLsbD_and, BitVec.getLsbD_or, BitVec.getLsbD_not, hi, decide_true, Bool.true_and]
  generalize (B64 (ρ.v 3)).getLsbD i = a0
  generalize (B64 (ρ.v 103)).getLsbD i = a1
  generalize (B64 (ρ.v 104)).getLsbD i = a2
  revert a0 a1 a2
  decide
theorem lemE1 : ∀ ρ, (∀ g ∈ factsE, Fact.holds ρ g) → Fact.holds ρ (.tr (.bin .eq (.bin (.or .u64) (.bin (.andNot .u64) (.bin (.or .u64) (.bin (.andNot .u64) (.var 104) (.var 103)) (.bin (.and .u64) (.var 103) (.var 3))) (.var 103)) (.bin (.and .u64) (.bin (.and .u64) (.bin (.or .u64) (.bin (.andNot .u64) (.var 104) (.var 103)) (.bin (.and .u64) (.var 103) (.var 3))) (.var 103)) (.var 103))) (.bin (.or .u64) (.bin (.andNot .u64) (.var 104) (.var 103)) (.bin (.and .u64) (.var 103) (.var 3)))) true) := by
  intro ρ hk
  refine eq_iff.2 ⟨fun _ => rfl, fun _ => ?_⟩
  simp only [den_and64, den_or64, den_andn64, den_var, den_lit, B64_toNat]
  refine cast_eq ?_
  apply BitVec.eq_of_getLsbD_eq
  intro i hi
  simp only [BitVec.getLsbD_and, BitVec.getLsbD_or, BitVec.getLsbD_not, hi, decide_true, Bool.true_and]
  generalize (B64 (ρ.v 3)).getLsbD i = a0
  generalize (B64 (ρ.v 103)).getLsbD i = a1
  generalize (B64 (ρ.v 104)).getLsbD i = a2
  revert a0 a1 a2
  decide
theorem lemE2 : ∀ ρ, (∀ g ∈ factsE, Fact.holds ρ g) → Fact.holds ρ (.tr (.bin .eq (.bin (.and .u64) (.bin (.or .u64) (.bin (.or .u64) (.bin (.andNot .u64) (.bin (.or .u64) (.bin (.andNot .u64) (.var 105) (.bin (.and .u64) (.var 103) (.lit (.ofNat 2)))) (.bin (.and .u64) (.var 3) (.bin (.and .u64) (.var 103) (.lit (.ofNat 2))))) (.bin (.and .u64) (.var 103) (.lit (.ofNat 2)))) (.bin (.and .u64) (.bin (.and .u64) (.bin (.or .u64) (.bin (.or .u64) (.bin (.andNot .u64) (.var 105) (.bin (.and .u64) (.var 103) (.lit (.ofNat 2)))) (.bin (.and .u64) (.var 3) (.bin (.and .u64) (.var 103) (.lit (.ofNat 2))))) (.bin (.and .u64) (.var 6) (.lit (.ofNat 2696)))) (.var 103)) (.bin (.and .u64) (.var 103) (.lit (.ofNat 2))))) (.bin (.and .u64) (.var 6) (.lit (.ofNat 2696)))) (.var 103)) (.bin (.and .u64) (.bin (.or .u64) (.bin (.or .u64) (.bin (.andNot .u64) (.var 105) (.bin (.and .u64) (.var 103) (.lit (.ofNat 2)))) (.bin (.and .u64) (.var 3) (.bin (.and .u64) (.var 103) (.lit (.ofNat 2))))) (.bin (.and .u64) (.var 6) (.lit (.ofNat 2696)))) (.var 103))) true) := by
  intro ρ hk
  refine eq_iff.2 ⟨fun _ => rfl, fun _ => ?_⟩
  simp only [den_and64, den_or64, den_andn64, den_var, den_lit, B64_toNat]
  refine cast_eq ?_
  apply BitVec.eq_of_getLsbD_eq
  intro i hi
  have hl := rel2 i hi
  simp only [BitVec.getLsbD_and, BitVec.getLsbD_or, BitVec.getLsbD_not, hi, decide_true, Bool.true_and]
  generalize (B64 (ρ.v 3)).getLsbD i = a0
  generalize (B64 (ρ.v 6)).getLsbD i = a1
  generalize (B64 (ρ.v 103)).getLsbD i = a2
  generalize (B64 (ρ.v 105)).getLsbD i = a3
  generalize (B64 ((2 : Nat) : Int)).getLsbD i = c0 at *
  generalize (B64 ((2696 : Nat) : Int)).getLsbD i = c1 at *
  revert hl
  revert a0 a1 a2 a3 c0 c1
  decide
theorem lemE3 : ∀ ρ, (∀ g ∈ factsE, Fact.holds ρ g) → Fact.holds ρ (.tr (.bin .eq (.bin (.or .u64) (.bin (.andNot .u64) (.bin (.or .u64) (.bin (.andNot .u64) (.var 105) (.bin (.and .u64) (.var 103) (.lit (.ofNat 2)))) (.bin (.and .u64) (.var 3) (.bin (.and .u64) (.var 103) (.lit (.ofNat 2))))) (.bin (.and .u64) (.var 103) (.lit (.ofNat 2)))) (.bin (.and .u64) (.bin (.and .u64) (.bin (.or .u64) (.bin (.or .u64) (.bin (.andNot .u64) (.var 105) (.bin (.and .u64) (.var 103) (.lit (.ofNat 2)))) (.bin (.and .u64) (.var 3) (.bin (.and .u64) (.var 103) (.lit (.ofNat 2))))) (.bin (.and .u64) (.var 6) (.lit (.ofNat 2696)))) (.var 103)) (.bin (.and .u64) (.var 103) (.lit (.ofNat 2))))) (.bin (.or .u64) (.bin (.andNot .u64) (.var 105) (.bin (.and .u64) (.var 103) (.lit (.ofNat 2)))) (.bin (.and .u64) (.var 3) (.bin (.and .u64) (.var 103) (.lit (.ofNat 2)))))) true) := by
  intro ρ hk
  refine eq_iff.2 ⟨fun _ => rfl, fun _ => ?_⟩
  simp only [den_and64, den_or64, den_andn64, den_var, den_lit, B64_toNat]
  refine cast_eq ?_
  apply BitVec.eq_of_getLsbD_eq
  intro i hi
  have hl := rel2 i hi
  simp only [BitVec.getLsbD_and, BitVec.getLsbD_or, BitVec.getLsbD_not, hi, decide_true, Bool.true_and]
  generalize (B64 (ρ.v 3)).getLsbD i = a0
  generalize (B64 (ρ.v 6)).getLsbD i = a1
  generalize (B64 (ρ.v 103)).getLsbD i = a2
  generalize (B64 (ρ.v 105)).getLsbD i = a3
  generalize (B64 ((2 : Nat) : Int)).getLsbD i = c0 at *
  generalize (B64 ((2696 : Nat) : Int)).getLsbD i = c1 at *
  revert hl
  revert a0 a1 a2 a3 c0 c1
  decide
theorem lemE4 : ∀ ρ, (∀ g ∈ factsE, Fact.holds ρ g) → Fact.holds ρ (.tr (.bin .eq (.bin (.or .u64) (.bin (.and .u64) (.bin (.or .u64) (.bin (.and .u64) (.var 3) (.lit (.ofNat 546))) (.bin (.and .u64) (.var 6) (.lit (.ofNat 2696)))) (.lit (.ofNat 546))) (.bin (.and .u64) (.var 6) (.lit (.ofNat 2696)))) (.bin (.or .u64) (.bin (.and .u64) (.var 3) (.lit (.ofNat 546))) (.bin (.and .u64) (.var 6) (.lit (.ofNat 2696))))) true) := by
  intro ρ hk
  refine eq_iff.2 ⟨fun _ => rfl, fun _ => ?_⟩
  simp only [den_and64, den_or64, den_andn64, den_var, den_lit, B64_toNat]
  refine cast_eq ?_
  apply BitVec.eq_of_getLsbD_eq
  intro i hi
  simp only [BitVec.getLsbD_and, BitVec.getLsbD_or, BitVec.getLsbD_not, hi, decide_true, Bool.true_and]
  generalize (B64 (ρ.v 3)).getLsbD i = a0
  generalize (B64 (ρ.v 6)).getLsbD i = a1
  generalize (B64 ((546 : Nat) : Int)).getLsbD i = c0 at *
  generalize (B64 ((2696 : Nat) : Int)).getLsbD i = c1 at *
  revert a0 a1 c0 c1
  decide
theorem lemE_ok : ∀ ρ, (∀ g ∈ factsE, Fact.holds ρ g) → ∀ g ∈ lemE, Fact.holds ρ g := by
  intro ρ hk
  unfold lemE
  simp only [List.forall_mem_cons]
  exact ⟨lemE0 ρ hk, lemE1 ρ hk, lemE2 ρ hk, lemE3 ρ hk, lemE4 ρ hk, fun _ h => absurd h List.not_mem_nil⟩
def xs0 : List V1 := [(.one .nils), (.one (.int .i64 (.var 2))), (.one (.int .u64 (.var 3))), (.agg [(.int .u64 (.var 4)), (.int .u64 (.var 5)), (.int .u64 (.var 6)), (.int .u64 (.var 7)), (.int .u64 (.var 8)), (.int .u64 (.var 9)), (.int .u64 (.var 10)), (.bool (.var 11)), (.int .u64 (.var 12)), (.bool (.var 13))])]
def hs0 : List (Nat × Ent) := []
def facts0 : List Fact := [(.rng (.var 2) ((some (.negSucc 9223372036854775807)), (some (.ofNat 9223372036854775807)))), (.rng (.var 3) ((some (.ofNat 0)), (some (.ofNat 18446744073709551615)))), (.rng (.var 4) ((some (.ofNat 0)), (some (.ofNat 18446744073709551615)))), (.rng (.var 5) ((some (.ofNat 0)), (some (.ofNat 18446744073709551615)))), (.rng (.var 6) ((some (.ofNat 0)), (some (.ofNat 18446744073709551615)))), (.rng (.var 7) ((some (.ofNat 0)), (some (.ofNat 18446744073709551615)))), (.rng (.var 8) ((some (.ofNat 0)), (some (.ofNat 18446744073709551615)))), (.rng (.var 9) ((some (.ofNat 0)), (some (.ofNat 18446744073709551615)))), (.rng (.var 10) ((some (.ofNat 0)), (some (.ofNat 18446744073709551615)))), (.rng (.var 11) ((some (.ofNat 0)), (some (.ofNat 1)))), (.rng (.var 12) ((some (.ofNat 0)), (some (.ofNat 18446744073709551615)))), (.rng (.var 13) ((some (.ofNat 0)), (some (.ofNat 1))))]
def xs1 : List V1 := [(.one (.tslc 0 15 (.lit (.ofNat 0)) (.var 0) (.var 1))), (.one (.int .i64 (.var 2))), (.one (.int .u64 (.var 3))), (.agg [(.int .u64 (.var 4)), (.int .u64 (.var 5)), (.int .u64 (.var 6)), (.int .u64 (.var 7)), (.int .u64 (.var 8)), (.int .u64 (.var 9)), (.int .u64 (.var 10)), (.bool (.var 11)), (.int .u64 (.var 12)), (.bool (.var 13))])]
def hs1 : List (Nat × Ent) := [(0, ⟨false, .tab 0 (.tv 0) (.var 0) [.int .i64, .int .i64, .int .i64, .int .u64, .bool, .int .u64, .int .u64, .int .u64, .int .u64, .int .u64, .int .u64, .int .u64, .bool, .int .u64, .bool]⟩)]
def facts1 : List Fact := [(.rng (.var 0) ((some (.ofNat 0)), (some (.ofNat 9223372036854775807)))), (.rng (.var 1) ((some (.ofNat 0)), (some (.ofNat 9223372036854775807)))), (.rng (.var 2) ((some (.negSucc 9223372036854775807)), (some (.ofNat 9223372036854775807)))), (.rng (.var 3) ((some (.ofNat 0)), (some (.ofNat 18446744073709551615)))), (.rng (.var 4) ((some (.ofNat 0)), (some (.ofNat 18446744073709551615)))), (.rng (.var 5) ((some (.ofNat 0)), (some (.ofNat 18446744073709551615)))), (.rng (.var 6) ((some (.ofNat 0)), (some (.ofNat 18446744073709551615)))), (.rng (.var 7) ((some (.ofNat 0)), (some (.ofNat 18446744073709551615)))), (.rng (.var 8) ((some (.ofNat 0)), (some (.ofNat 18446744073709551615)))), (.rng (.var 9) ((some (.ofNat 0)), (some (.ofNat 18446744073709551615)))), (.rng (.var 10) ((some (.ofNat 0)), (some (.ofNat 18446744073709551615)))), (.rng (.var 11) ((some (.ofNat 0)), (some (.ofNat 1)))), (.rng (.var 12) ((some (.ofNat 0)), (some (.ofNat 18446744073709551615)))), (.rng (.var 13) ((some (.ofNat 0)), (some (.ofNat 1))))]
end Go.Proofs.Ytlagjhnckdaonaa.csrBack
