/-
  'PerfSums': the templates of its loop, and what is known there. Printed by program.
-/
import Derived.Test.YtcobklmobbfolaaRows
import Derived.Test.YtcobklmobbfolaaSxC
namespace Go.Proofs.Ytcobklmobbfolaa.perfSums
open Go.ChangeShapes Go.WideShapes Go.ChangeAt Go.RowKit Go.Sx
set_option linter.unusedVariables false
set_option linter.unusedSimpArgs false

def tabE : Ent := ⟨false, .tab 0 (.tv 0) (.var 0) [.bool, .bool, .bool, .bool, .int .i64, .int .i64, .int .i64, .int .i64, .int .u64, .int .u64, .int .u64, .int .u64, .int .u64]⟩
def slotsE : List (Nat × SV) := [(0, .v (.one (.tslc 0 13 (.lit (.ofNat 0)) (.var 0) (.var 1)))), (3, .v (.one (.ptr 1 0)))]
def u (i : Nat) : CV := .int .u64 (.var i)
def T : Tm := ⟨(4, .v (.one (.int .i64 (.var 100)))) :: slotsE, [(0, tabE), (1, ⟨true, .cells [.int .u64 (.var 100), u 102, u 103, u 104, u 105, u 106, u 107, u 108, u 109, u 110, u 111, u 112, u 113] 43⟩)], 2⟩
def TE : Tm := ⟨[], [], 2⟩
def factsE : List Fact := []
def r (i : Nat) (b : Nat) : Fact := .rng (.var i) (some (.ofNat 0), some (.ofNat b))
def big : Nat := 18446744073709551615
def sumF : Fact := .tr (.bin .eq (.bin (.add .u64) (.bin (.add .u64) (.var 102) (.var 103)) (.var 104)) (.var 100)) true
def factsL : List Fact := [r 0 9223372036854775807, r 1 9223372036854775807, r 100 300, .rng (.var 102) (some (.ofNat 0), some (.ofNat big)), .rng (.var 103) (some (.ofNat 0), some (.ofNat big)), r 104 big, r 105 big, r 106 big, r 107 big, r 108 big, r 109 big, r 110 big, r 111 big, r 112 big, r 113 big,
  sumF, .tr (.bin .lt (.var 102) (.var 109)) false, .tr (.bin .lt (.var 100) (.var 102)) false]


theorem base (ρ : Env) (hk : ∀ g ∈ factsL, Fact.holds ρ g) : (0 ≤ ρ.v 100 ∧ ρ.v 100 ≤ 300) ∧ (0 ≤ ρ.v 102 ∧ ρ.v 102 ≤ 18446744073709551615) ∧ (0 ≤ ρ.v 103 ∧ ρ.v 103 ≤ 18446744073709551615) ∧ (0 ≤ ρ.v 104 ∧ ρ.v 104 ≤ 18446744073709551615) ∧ (0 ≤ ρ.v 109 ∧ ρ.v 109 ≤ 18446744073709551615) ∧
    ((ρ.v 102 + ρ.v 103) % 18446744073709551616 + ρ.v 104) % 18446744073709551616 = ρ.v 100 ∧ ρ.v 109 ≤ ρ.v 102 ∧ ρ.v 102 ≤ ρ.v 100 := by
  have m : ∀ g, g ∈ factsL → Fact.holds ρ g := hk
  have h100 := rng_iff.1 (m (r 100 300) (by simp [factsL]))
  have h102 := rng_iff.1 (m (.rng (.var 102) (some (.ofNat 0), some (.ofNat big))) (by simp [factsL]))
  have h103 := rng_iff.1 (m (.rng (.var 103) (some (.ofNat 0), some (.ofNat big))) (by simp [factsL]))
  have h104 := rng_iff.1 (m (r 104 big) (by simp [factsL]))
  have h109 := rng_iff.1 (m (r 109 big) (by simp [factsL]))
  have hs := (eq_iff.1 (m sumF (by simp [factsL]))).2 rfl
  have h1 := lt_iff.1 (m (.tr (.bin .lt (.var 102) (.var 109)) false) (by simp [factsL]))
  have h2 := lt_iff.1 (m (.tr (.bin .lt (.var 100) (.var 102)) false) (by simp [factsL]))
  simp only [E.den, BO.den, wrap_u64, big, Bool.false_eq_true, iff_false] at h100 h102 h103 h104 h109 hs h1 h2
  exact ⟨h100, h102, h103, h104, h109, hs, by omega, by omega⟩

def lemL : List Fact := [.tr (.bin .eq (.bin (.add .u64) (.var 100) (.lit (.ofNat 1))) (.bin (.add .i64) (.var 100) (.lit (.ofNat 1)))) true, .tr (.bin .eq (.bin (.add .u64) (.bin (.add .u64) (.bin (.add .u64) (.var 102) (.lit (.ofNat 1))) (.var 103)) (.var 104)) (.bin (.add .u64) (.var 100) (.lit (.ofNat 1)))) true, .tr (.bin .eq (.bin (.add .u64) (.bin (.add .u64) (.bin (.add .u64) (.var 102) (.lit (.ofNat 1))) (.var 103)) (.var 104)) (.bin (.add .i64) (.var 100) (.lit (.ofNat 1)))) true, .tr (.bin .eq (.bin (.add .u64) (.bin (.add .u64) (.var 102) (.bin (.add .u64) (.var 103) (.lit (.ofNat 1)))) (.var 104)) (.bin (.add .u64) (.var 100) (.lit (.ofNat 1)))) true, .tr (.bin .eq (.bin (.add .u64) (.bin (.add .u64) (.var 102) (.bin (.add .u64) (.var 103) (.lit (.ofNat 1)))) (.var 104)) (.bin (.add .i64) (.var 100) (.lit (.ofNat 1)))) true, .tr (.bin .eq (.bin (.add .u64) (.bin (.add .u64) (.var 103) (.var 102)) (.bin (.add .u64) (.var 104) (.lit (.ofNat 1)))) (.bin (.add .u64) (.var 100) (.lit (.ofNat 1)))) true, .tr (.bin .eq (.bin (.add .u64) (.bin (.add .u64) (.var 103) (.var 102)) (.bin (.add .u64) (.var 104) (.lit (.ofNat 1)))) (.bin (.add .i64) (.var 100) (.lit (.ofNat 1)))) true, .tr (.bin .eq (.bin (.add .u64) (.bin (.add .u64) (.var 102) (.var 103)) (.bin (.add .u64) (.var 104) (.lit (.ofNat 1)))) (.bin (.add .u64) (.var 100) (.lit (.ofNat 1)))) true, .tr (.bin .eq (.bin (.add .u64) (.bin (.add .u64) (.var 102) (.var 103)) (.bin (.add .u64) (.var 104) (.lit (.ofNat 1)))) (.bin (.add .i64) (.var 100) (.lit (.ofNat 1)))) true, .tr (.bin .lt (.bin (.add .u64) (.var 102) (.lit (.ofNat 1))) (.bin (.add .u64) (.var 109) (.lit (.ofNat 1)))) false, .tr (.bin .lt (.bin (.add .u64) (.var 102) (.lit (.ofNat 1))) (.var 109)) false, .tr (.bin .lt (.bin (.add .i64) (.var 100) (.lit (.ofNat 1))) (.bin (.add .u64) (.var 102) (.lit (.ofNat 1)))) false, .tr (.bin .lt (.bin (.add .i64) (.var 100) (.lit (.ofNat 1))) (.var 102)) false]
theorem lemL0 : ∀ ρ, (∀ g ∈ factsL, Fact.holds ρ g) → Fact.holds ρ (.tr (.bin .eq (.bin (.add .u64) (.var 100) (.lit (.ofNat 1))) (.bin (.add .i64) (.var 100) (.lit (.ofNat 1)))) true) := by
  intro ρ hk
  obtain ⟨a, b, c, d, e, f, g, h⟩ := base ρ hk
  have w : IntKind.i64.wrap (ρ.v 100 + 1) = ρ.v 100 + 1 := wrap_i64 (by omega)
  refine eq_iff.2 ⟨fun _ => rfl, fun _ => ?_⟩
  show _ = _
  simp only [E.den, BO.den, wrap_u64]
  try simp only [Int.ofNat_eq_natCast, Int.natCast_one, w]
  try rw [show (Int.ofNat 1) = (1 : Int) from rfl] at *
  try rw [w]
  omega
theorem lemL1 : ∀ ρ, (∀ g ∈ factsL, Fact.holds ρ g) → Fact.holds ρ (.tr (.bin .eq (.bin (.add .u64) (.bin (.add .u64) (.bin (.add .u64) (.var 102) (.lit (.ofNat 1))) (.var 103)) (.var 104)) (.bin (.add .u64) (.var 100) (.lit (.ofNat 1)))) true) := by
  intro ρ hk
  obtain ⟨a, b, c, d, e, f, g, h⟩ := base ρ hk
  have w : IntKind.i64.wrap (ρ.v 100 + 1) = ρ.v 100 + 1 := wrap_i64 (by omega)
  refine eq_iff.2 ⟨fun _ => rfl, fun _ => ?_⟩
  show _ = _
  simp only [E.den, BO.den, wrap_u64]
  try simp only [Int.ofNat_eq_natCast, Int.natCast_one, w]
  try rw [show (Int.ofNat 1) = (1 : Int) from rfl] at *
  try rw [w]
  omega
theorem lemL2 : ∀ ρ, (∀ g ∈ factsL, Fact.holds ρ g) → Fact.holds ρ (.tr (.bin .eq (.bin (.add .u64) (.bin (.add .u64) (.bin (.add .u64) (.var 102) (.lit (.ofNat 1))) (.var 103)) (.var 104)) (.bin (.add .i64) (.var 100) (.lit (.ofNat 1)))) true) := by
  intro ρ hk
  obtain ⟨a, b, c, d, e, f, g, h⟩ := base ρ hk
  have w : IntKind.i64.wrap (ρ.v 100 + 1) = ρ.v 100 + 1 := wrap_i64 (by omega)
  refine eq_iff.2 ⟨fun _ => rfl, fun _ => ?_⟩
  show _ = _
  simp only [E.den, BO.den, wrap_u64]
  try simp only [Int.ofNat_eq_natCast, Int.natCast_one, w]
  try rw [show (Int.ofNat 1) = (1 : Int) from rfl] at *
  try rw [w]
  omega
theorem lemL3 : ∀ ρ, (∀ g ∈ factsL, Fact.holds ρ g) → Fact.holds ρ (.tr (.bin .eq (.bin (.add .u64) (.bin (.add .u64) (.var 102) (.bin (.add .u64) (.var 103) (.lit (.ofNat 1)))) (.var 104)) (.bin (.add .u64) (.var 100) (.lit (.ofNat 1)))) true) := by
  intro ρ hk
  obtain ⟨a, b, c, d, e, f, g, h⟩ := base ρ hk
  have w : IntKind.i64.wrap (ρ.v 100 + 1) = ρ.v 100 + 1 := wrap_i64 (by omega)
  refine eq_iff.2 ⟨fun _ => rfl, fun _ => ?_⟩
  show _ = _
  simp only [E.den, BO.den, wrap_u64]
  try simp only [Int.ofNat_eq_natCast, Int.natCast_one, w]
  try rw [show (Int.ofNat 1) = (1 : Int) from rfl] at *
  try rw [w]
  omega
theorem lemL4 : ∀ ρ, (∀ g ∈ factsL, Fact.holds ρ g) → Fact.holds ρ (.tr (.bin .eq (.bin (.add .u64) (.bin (.add .u64) (.var 102) (.bin (.add .u64) (.var 103) (.lit (.ofNat 1)))) (.var 104)) (.bin (.add .i64) (.var 100) (.lit (.ofNat 1)))) true) := by
  intro ρ hk
  obtain ⟨a, b, c, d, e, f, g, h⟩ := base ρ hk
  have w : IntKind.i64.wrap (ρ.v 100 + 1) = ρ.v 100 + 1 := wrap_i64 (by omega)
  refine eq_iff.2 ⟨fun _ => rfl, fun _ => ?_⟩
  show _ = _
  simp only [E.den, BO.den, wrap_u64]
  try simp only [Int.ofNat_eq_natCast, Int.natCast_one, w]
  try rw [show (Int.ofNat 1) = (1 : Int) from rfl] at *
  try rw [w]
  omega
theorem lemL5 : ∀ ρ, (∀ g ∈ factsL, Fact.holds ρ g) → Fact.holds ρ (.tr (.bin .eq (.bin (.add .u64) (.bin (.add .u64) (.var 103) (.var 102)) (.bin (.add .u64) (.var 104) (.lit (.ofNat 1)))) (.bin (.add .u64) (.var 100) (.lit (.ofNat 1)))) true) := by
  intro ρ hk
  obtain ⟨a, b, c, d, e, f, g, h⟩ := base ρ hk
  have w : IntKind.i64.wrap (ρ.v 100 + 1) = ρ.v 100 + 1 := wrap_i64 (by omega)
  refine eq_iff.2 ⟨fun _ => rfl, fun _ => ?_⟩
  show _ = _
  simp only [E.den, BO.den, wrap_u64]
  try simp only [Int.ofNat_eq_natCast, Int.natCast_one, w]
  try rw [show (Int.ofNat 1) = (1 : Int) from rfl] at *
  try rw [w]
  omega
theorem lemL6 : ∀ ρ, (∀ g ∈ factsL, Fact.holds ρ g) → Fact.holds ρ (.tr (.bin .eq (.bin (.add .u64) (.bin (.add .u64) (.var 103) (.var 102)) (.bin (.add .u64) (.var 104) (.lit (.ofNat 1)))) (.bin (.add .i64) (.var 100) (.lit (.ofNat 1)))) true) := by
  intro ρ hk
  obtain ⟨a, b, c, d, e, f, g, h⟩ := base ρ hk
  have w : IntKind.i64.wrap (ρ.v 100 + 1) = ρ.v 100 + 1 := wrap_i64 (by omega)
  refine eq_iff.2 ⟨fun _ => rfl, fun _ => ?_⟩
  show _ = _
  simp only [E.den, BO.den, wrap_u64]
  try simp only [Int.ofNat_eq_natCast, Int.natCast_one, w]
  try rw [show (Int.ofNat 1) = (1 : Int) from rfl] at *
  try rw [w]
  omega
theorem lemL7 : ∀ ρ, (∀ g ∈ factsL, Fact.holds ρ g) → Fact.holds ρ (.tr (.bin .eq (.bin (.add .u64) (.bin (.add .u64) (.var 102) (.var 103)) (.bin (.add .u64) (.var 104) (.lit (.ofNat 1)))) (.bin (.add .u64) (.var 100) (.lit (.ofNat 1)))) true) := by
  intro ρ hk
  obtain ⟨a, b, c, d, e, f, g, h⟩ := base ρ hk
  have w : IntKind.i64.wrap (ρ.v 100 + 1) = ρ.v 100 + 1 := wrap_i64 (by omega)
  refine eq_iff.2 ⟨fun _ => rfl, fun _ => ?_⟩
  show _ = _
  simp only [E.den, BO.den, wrap_u64]
  try simp only [Int.ofNat_eq_natCast, Int.natCast_one, w]
  try rw [show (Int.ofNat 1) = (1 : Int) from rfl] at *
  try rw [w]
  omega
theorem lemL8 : ∀ ρ, (∀ g ∈ factsL, Fact.holds ρ g) → Fact.holds ρ (.tr (.bin .eq (.bin (.add .u64) (.bin (.add .u64) (.var 102) (.var 103)) (.bin (.add .u64) (.var 104) (.lit (.ofNat 1)))) (.bin (.add .i64) (.var 100) (.lit (.ofNat 1)))) true) := by
  intro ρ hk
  obtain ⟨a, b, c, d, e, f, g, h⟩ := base ρ hk
  have w : IntKind.i64.wrap (ρ.v 100 + 1) = ρ.v 100 + 1 := wrap_i64 (by omega)
  refine eq_iff.2 ⟨fun _ => rfl, fun _ => ?_⟩
  show _ = _
  simp only [E.den, BO.den, wrap_u64]
  try simp only [Int.ofNat_eq_natCast, Int.natCast_one, w]
  try rw [show (Int.ofNat 1) = (1 : Int) from rfl] at *
  try rw [w]
  omega
theorem lemL9 : ∀ ρ, (∀ g ∈ factsL, Fact.holds ρ g) → Fact.holds ρ (.tr (.bin .lt (.bin (.add .u64) (.var 102) (.lit (.ofNat 1))) (.bin (.add .u64) (.var 109) (.lit (.ofNat 1)))) false) := by
  intro ρ hk
  obtain ⟨a, b, c, d, e, f, g, h⟩ := base ρ hk
  have w : IntKind.i64.wrap (ρ.v 100 + 1) = ρ.v 100 + 1 := wrap_i64 (by omega)
  refine lt_iff.2 ⟨fun hh => ?_, fun hh => by cases hh⟩
  exfalso
  simp only [E.den, BO.den, wrap_u64] at hh
  try rw [show (Int.ofNat 1) = (1 : Int) from rfl] at hh
  try rw [w] at hh
  omega
theorem lemL10 : ∀ ρ, (∀ g ∈ factsL, Fact.holds ρ g) → Fact.holds ρ (.tr (.bin .lt (.bin (.add .u64) (.var 102) (.lit (.ofNat 1))) (.var 109)) false) := by
  intro ρ hk
  obtain ⟨a, b, c, d, e, f, g, h⟩ := base ρ hk
  have w : IntKind.i64.wrap (ρ.v 100 + 1) = ρ.v 100 + 1 := wrap_i64 (by omega)
  refine lt_iff.2 ⟨fun hh => ?_, fun hh => by cases hh⟩
  exfalso
  simp only [E.den, BO.den, wrap_u64] at hh
  try rw [show (Int.ofNat 1) = (1 : Int) from rfl] at hh
  try rw [w] at hh
  omega
theorem lemL11 : ∀ ρ, (∀ g ∈ factsL, Fact.holds ρ g) → Fact.holds ρ (.tr (.bin .lt (.bin (.add .i64) (.var 100) (.lit (.ofNat 1))) (.bin (.add .u64) (.var 102) (.lit (.ofNat 1)))) false) := by
  intro ρ hk
  obtain ⟨a, b, c, d, e, f, g, h⟩ := base ρ hk
  have w : IntKind.i64.wrap (ρ.v 100 + 1) = ρ.v 100 + 1 := wrap_i64 (by omega)
  refine lt_iff.2 ⟨fun hh => ?_, fun hh => by cases hh⟩
  exfalso
  simp only [E.den, BO.den, wrap_u64] at hh
  try rw [show (Int.ofNat 1) = (1 : Int) from rfl] at hh
  try rw [w] at hh
  omega
theorem lemL12 : ∀ ρ, (∀ g ∈ factsL, Fact.holds ρ g) → Fact.holds ρ (.tr (.bin .lt (.bin (.add .i64) (.var 100) (.lit (.ofNat 1))) (.var 102)) false) := by
  intro ρ hk
  obtain ⟨a, b, c, d, e, f, g, h⟩ := base ρ hk
  have w : IntKind.i64.wrap (ρ.v 100 + 1) = ρ.v 100 + 1 := wrap_i64 (by omega)
  refine lt_iff.2 ⟨fun hh => ?_, fun hh => by cases hh⟩
  exfalso
  simp only [E.den, BO.den, wrap_u64] at hh
  try rw [show (Int.ofNat 1) = (1 : Int) from rfl] at hh
  try rw [w] at hh
  omega
theorem lemL_ok : ∀ ρ, (∀ g ∈ factsL, Fact.holds ρ g) → ∀ g ∈ lemL, Fact.holds ρ g := by
  intro ρ hk
  unfold lemL
  simp only [List.forall_mem_cons]
  exact ⟨lemL0 ρ hk, lemL1 ρ hk, lemL2 ρ hk, lemL3 ρ hk, lemL4 ρ hk, lemL5 ρ hk, lemL6 ρ hk, lemL7 ρ hk, lemL8 ρ hk, lemL9 ρ hk, lemL10 ρ hk, lemL11 ρ hk, lemL12 ρ hk, fun _ h => absurd h List.not_mem_nil⟩
def lemE : List Fact := []
theorem lemE_ok : ∀ ρ, (∀ g ∈ factsE, Fact.holds ρ g) → ∀ g ∈ lemE, Fact.holds ρ g := fun _ _ _ h => absurd h List.not_mem_nil
def xs0 : List V1 := [(.one .nils)]
def hs0 : List (Nat × Ent) := []
def facts0 : List Fact := []
def xs1 : List V1 := [(.one (.tslc 0 13 (.lit (.ofNat 0)) (.var 0) (.var 1)))]
def hs1 : List (Nat × Ent) := [(0, ⟨false, .tab 0 (.tv 0) (.var 0) [.bool, .bool, .bool, .bool, .int .i64, .int .i64, .int .i64, .int .i64, .int .u64, .int .u64, .int .u64, .int .u64, .int .u64]⟩)]
def facts1 : List Fact := [(.rng (.var 0) ((some (.ofNat 0)), (some (.ofNat 9223372036854775807)))), (.rng (.var 1) ((some (.ofNat 0)), (some (.ofNat 9223372036854775807))))]
end Go.Proofs.Ytcobklmobbfolaa.perfSums
