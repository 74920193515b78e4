/-
  'CsrCounts': tests of which the outcome is always the same, and the tree of cases. Printed by program.
-/
import Derived.Test.YtlagjhnckdaonaaRows
import Derived.Test.YtlagjhnckdaonaaSxU
namespace Go.Proofs.Ytlagjhnckdaonaa.csrCounts
open Go.ChangeShapes Go.WideShapes Go.ChangeAt Go.RowKit Go.Sx
set_option linter.unusedVariables false
set_option linter.unusedSimpArgs false
def lem : List (E × Bool) := [((.bin .eq (.bin (.sub .u64) (.bin (.add .u64) (.var 30) (.var 20)) (.var 21)) (.bin (.add .u64) (.var 20) (.bin (.sub .u64) (.var 30) (.var 21)))), true)]
def tree : DT := .leaf
theorem lem0 (ρ : Env) : E.den ρ (.bin .eq (.bin (.sub .u64) (.bin (.add .u64) (.var 30) (.var 20)) (.var 21)) (.bin (.add .u64) (.var 20) (.bin (.sub .u64) (.var 30) (.var 21)))) ≠ 0 := by
  refine den_eq ρ _ _ ?_
  simp only [den_and64, den_or64, den_xor64, den_andn64, den_add64, den_sub64, den_var, den_lit, B64_toNat]
  try simp only [B64_lit]
  refine cast_eq ?_
  exact bits_cyc _ _ _
theorem hlem (ρ : Env) : ∀ t ∈ lem, (t.1.den ρ ≠ 0 ↔ t.2 = true) := by
  unfold lem
  simp only [List.forall_mem_cons]
  exact ⟨⟨fun _ => by first | rfl | trivial, fun _ => lem0 ρ⟩, fun _ h => absurd h List.not_mem_nil⟩
def xs : List V1 := [(.agg [(.int .u64 (.var 0)), (.int .u64 (.var 1)), (.int .u64 (.var 2)), (.int .u64 (.var 3)), (.int .u64 (.var 4)), (.int .u64 (.var 5)), (.int .u64 (.var 6)), (.int .u64 (.var 7)), (.int .u64 (.var 8)), (.int .u64 (.var 9)), (.int .u64 (.var 10)), (.int .u64 (.var 11)), (.int .u64 (.var 12)), (.int .u64 (.var 13)), (.int .u64 (.var 14)), (.int .u64 (.var 15)), (.int .u64 (.var 16)), (.int .u64 (.var 17)), (.int .u64 (.var 18)), (.int .u64 (.var 19)), (.int .u64 (.var 20)), (.int .u64 (.var 21)), (.int .u64 (.var 22)), (.int .u64 (.var 23)), (.int .u64 (.var 24)), (.int .u64 (.var 25)), (.int .u64 (.var 26)), (.int .u64 (.var 27)), (.int .u64 (.var 28)), (.int .u64 (.var 29))]), (.agg [(.int .u64 (.var 30)), (.int .u64 (.var 31)), (.int .u64 (.var 32)), (.int .u64 (.var 33)), (.int .u64 (.var 34)), (.int .u64 (.var 35)), (.int .u64 (.var 36)), (.bool (.var 37)), (.int .u64 (.var 38)), (.bool (.var 39))]), (.one (.bool (.var 40))), (.one (.bool (.var 41)))]
def facts0 : List Fact := [(.rng (.var 0) ((some (.ofNat 0)), (some (.ofNat 18446744073709551615)))), (.rng (.var 1) ((some (.ofNat 0)), (some (.ofNat 18446744073709551615)))), (.rng (.var 2) ((some (.ofNat 0)), (some (.ofNat 18446744073709551615)))), (.rng (.var 3) ((some (.ofNat 0)), (some (.ofNat 18446744073709551615)))), (.rng (.var 4) ((some (.ofNat 0)), (some (.ofNat 18446744073709551615)))), (.rng (.var 5) ((some (.ofNat 0)), (some (.ofNat 18446744073709551615)))), (.rng (.var 6) ((some (.ofNat 0)), (some (.ofNat 18446744073709551615)))), (.rng (.var 7) ((some (.ofNat 0)), (some (.ofNat 18446744073709551615)))), (.rng (.var 8) ((some (.ofNat 0)), (some (.ofNat 18446744073709551615)))), (.rng (.var 9) ((some (.ofNat 0)), (some (.ofNat 18446744073709551615)))), (.rng (.var 10) ((some (.ofNat 0)), (some (.ofNat 18446744073709551615)))), (.rng (.var 11) ((some (.ofNat 0)), (some (.ofNat 18446744073709551615)))), (.rng (.var 12) ((some (.ofNat 0)), (some (.ofNat 18446744073709551615)))), (.rng (.var 13) ((some (.ofNat 0)), (some (.ofNat 18446744073709551615)))), (.rng (.var 14) ((some (.ofNat 0)), (some (.ofNat 18446744073709551615)))), (.rng (.var 15) ((some (.ofNat 0)), (some (.ofNat 18446744073709551615)))), (.rng (.var 16) ((some (.ofNat 0)), (some (.ofNat 18446744073709551615)))), (.rng (.var 17) ((some (.ofNat 0)), (some (.ofNat 18446744073709551615)))), (.rng (.var 18) ((some (.ofNat 0)), (some (.ofNat 18446744073709551615)))), (.rng (.var 19) ((some (.ofNat 0)), (some (.ofNat 18446744073709551615)))), (.rng (.var 20) ((some (.ofNat 0)), (some (.ofNat 18446744073709551615)))), (.rng (.var 21) ((some (.ofNat 0)), (some (.ofNat 18446744073709551615)))), (.rng (.var 22) ((some (.ofNat 0)), (some (.ofNat 18446744073709551615)))), (.rng (.var 23) ((some (.ofNat 0)), (some (.ofNat 18446744073709551615)))), (.rng (.var 24) ((some (.ofNat 0)), (some (.ofNat 18446744073709551615)))), (.rng (.var 25) ((some (.ofNat 0)), (some (.ofNat 18446744073709551615)))), (.rng (.var 26) ((some (.ofNat 0)), (some (.ofNat 18446744073709551615)))), (.rng (.var 27) ((some (.ofNat 0)), (some (.ofNat 18446744073709551615)))), (.rng (.var 28) ((some (.ofNat 0)), (some (.ofNat 18446744073709551615)))), (.rng (.var 29) ((some (.ofNat 0)), (some (.ofNat 18446744073709551615)))), (.rng (.var 30) ((some (.ofNat 0)), (some (.ofNat 18446744073709551615)))), (.rng (.var 31) ((some (.ofNat 0)), (some (.ofNat 18446744073709551615)))), (.rng (.var 32) ((some (.ofNat 0)), (some (.ofNat 18446744073709551615)))), (.rng (.var 33) ((some (.ofNat 0)), (some (.ofNat 18446744073709551615)))), (.rng (.var 34) ((some (.ofNat 0)), (some (.ofNat 18446744073709551615)))), (.rng (.var 35) ((some (.ofNat 0)), (some (.ofNat 18446744073709551615)))), (.rng (.var 36) ((some (.ofNat 0)), (some (.ofNat 18446744073709551615)))), (.rng (.var 37) ((some (.ofNat 0)), (some (.ofNat 1)))), (.rng (.var 38) ((some (.ofNat 0)), (some (.ofNat 18446744073709551615)))), (.rng (.var 39) ((some (.ofNat 0)), (some (.ofNat 1)))), (.rng (.var 40) ((some (.ofNat 0)), (some (.ofNat 1)))), (.rng (.var 41) ((some (.ofNat 0)), (some (.ofNat 1))))]
theorem hsym : symArgs Try.prog Try.f9.params.toList 0 = some (xs, facts0, 42) := by kernel_rfl
theorem and4 (v : Int) (h : 0 ≤ v ∧ v ≤ 18446744073709551615) : (BO.and .u64).den v 4 = 0 ↔ (BO.and .u64).den ((BO.shr .u64).den v 2) 1 = 0 := by
  obtain ⟨n, rfl⟩ := Int.eq_ofNat_of_zero_le h.1
  have hn : n < 18446744073709551616 := by omega
  have e1 : (BO.and .u64).den (n : Int) 4 = ((n &&& 2 ^ 2 : Nat) : Int) := by
    rw [← BO.run_eq]
    have t1 : tn .u64 (n : Int) = n := by show ((n : Int) % 18446744073709551616).toNat = n; omega
    have t2 : tn .u64 4 = 4 := rfl
    simp only [BO.run, t1, t2]
    rw [wrapF_eq, wrap_u64]
    have hle : n &&& 4 ≤ 4 := Nat.and_le_right
    show ((n &&& 4 : Nat) : Int) % _ = ((n &&& 4 : Nat) : Int)
    omega
  have e2 : (BO.shr .u64).den (n : Int) 2 = ((n / 4 : Nat) : Int) := by
    show (n : Int).fdiv 4 = _
    rw [Int.fdiv_eq_ediv_of_nonneg _ (by omega)]
    omega
  have e3 : ∀ q : Nat, q < 18446744073709551616 → (BO.and .u64).den (q : Int) 1 = ((q % 2 : Nat) : Int) := by
    intro q hq
    rw [← BO.run_eq]
    have t1 : tn .u64 (q : Int) = q := by show ((q : Int) % 18446744073709551616).toNat = q; omega
    have t2 : tn .u64 1 = 1 := rfl
    simp only [BO.run, t1, t2]
    rw [wrapF_eq, wrap_u64]
    have hle : q &&& 1 = q % 2 := Nat.and_one_is_mod q
    show ((q &&& 1 : Nat) : Int) % _ = _
    rw [hle]
    omega
  rw [e1, e2, e3 _ (by omega)]
  have key : n &&& 2 ^ 2 = 0 ↔ n.testBit 2 = false := by
    constructor
    · intro h0
      have h3 : (n &&& 2 ^ 2).testBit 2 = false := by rw [h0]; exact Nat.zero_testBit 2
      rw [Nat.testBit_and, Nat.testBit_two_pow] at h3
      simpa using h3
    · intro h0
      apply Nat.eq_of_testBit_eq
      intro i
      rw [Nat.testBit_and, Nat.testBit_two_pow, Nat.zero_testBit]
      by_cases hi : 2 = i
      · subst hi; simp [h0]
      · simp [hi]
  have k2 : n.testBit 2 = false ↔ n / 4 % 2 = 0 := by
    rw [Nat.testBit_eq_decide_div_mod_eq]
    show decide (n / 4 % 2 = 1) = false ↔ _
    rw [decide_eq_false_iff_not]
    omega
  constructor
  · intro h0; have := k2.1 (key.1 (by exact_mod_cast h0)); exact_mod_cast this
  · intro h0; have := key.2 (k2.2 (by exact_mod_cast h0)); exact_mod_cast this
theorem x18 (ρ : Env) (h : ∀ g ∈ facts0, Fact.holds ρ g) : 0 ≤ ρ.v 18 ∧ ρ.v 18 ≤ 18446744073709551615 := by
  have := h (.rng (.var 18) (some (.ofNat 0), some (.ofNat 18446744073709551615))) (by simp [facts0])
  rw [rng_iff] at this
  exact this
end Go.Proofs.Ytlagjhnckdaonaa.csrCounts
