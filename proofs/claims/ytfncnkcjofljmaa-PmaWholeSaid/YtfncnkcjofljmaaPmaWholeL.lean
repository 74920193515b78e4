/-
  'PmaWhole': tests of which the outcome is always the same, and the tree of cases. Printed by program.
-/
import Derived.Test.YtfncnkcjofljmaaRows
import Derived.Test.YtfncnkcjofljmaaSxU
namespace Go.Proofs.Ytfncnkcjofljmaa.pmaWhole
open Go.ChangeShapes Go.WideShapes Go.ChangeAt Go.RowKit Go.Sx
set_option linter.unusedVariables false
set_option linter.unusedSimpArgs false
def lem : List (E × Bool) := [((.bin .lt (.bin (.mul .u64) (.bin .max (.bin .min (.var 0) (.lit (.ofNat 256))) (.lit (.ofNat 4))) (.lit (.ofNat 4096))) (.lit (.ofNat 1048577))), true)]
def tree : DT := (.node (.bin .lt (.var 1) (.lit (.ofNat 2147483648))) (.node (.bin .eq (.var 2) (.lit (.ofNat 1))) .leaf (.node (.bin .eq (.var 2) (.lit (.ofNat 2))) .leaf (.node (.bin .eq (.var 2) (.lit (.ofNat 4))) .leaf (.node (.bin .eq (.var 2) (.lit (.ofNat 8))) .leaf .leaf)))) (.node (.bin .lt (.var 1) (.lit (.ofNat 2148532224))) (.node (.bin .eq (.var 2) (.lit (.ofNat 1))) .leaf (.node (.bin .eq (.var 2) (.lit (.ofNat 2))) .leaf (.node (.bin .eq (.var 2) (.lit (.ofNat 4))) .leaf (.node (.bin .eq (.var 2) (.lit (.ofNat 8))) .leaf .leaf)))) (.node (.bin .eq (.var 2) (.lit (.ofNat 1))) .leaf (.node (.bin .eq (.var 2) (.lit (.ofNat 2))) .leaf (.node (.bin .eq (.var 2) (.lit (.ofNat 4))) .leaf (.node (.bin .eq (.var 2) (.lit (.ofNat 8))) .leaf .leaf))))))
def nE : E := .bin .max (.bin .min (.var 0) (.lit (.ofNat 256))) (.lit (.ofNat 4))
theorem max_cases (x y : Int) : (BO.max.den x y = x ∧ y ≤ x) ∨ (BO.max.den x y = y ∧ x < y) := by
  by_cases h : x < y
  · right; exact ⟨if_pos h, h⟩
  · left; exact ⟨if_neg h, by omega⟩
theorem min_cases (x y : Int) : (BO.min.den x y = y ∧ y < x) ∨ (BO.min.den x y = x ∧ x ≤ y) := by
  by_cases h : y < x
  · left; exact ⟨if_pos h, h⟩
  · right; exact ⟨if_neg h, by omega⟩
theorem nE_bd (ρ : Env) : 4 ≤ nE.den ρ ∧ nE.den ρ ≤ 256 := by
  have e : nE.den ρ = BO.max.den (BO.min.den (ρ.v 0) 256) 4 := rfl
  rw [e]
  have h1 := min_cases (ρ.v 0) 256
  have h2 := max_cases (BO.min.den (ρ.v 0) 256) 4
  omega
theorem den_subI (ρ : Env) (a b : E) : (E.bin (.sub .u64) a b).den ρ = (a.den ρ - b.den ρ) % 18446744073709551616 := by simp only [E.den, BO.den, wrap_u64]
theorem den_addI (ρ : Env) (a b : E) : (E.bin (.add .u64) a b).den ρ = (a.den ρ + b.den ρ) % 18446744073709551616 := by simp only [E.den, BO.den, wrap_u64]
theorem den_mulI (ρ : Env) (a b : E) : (E.bin (.mul .u64) a b).den ρ = (a.den ρ * b.den ρ) % 18446744073709551616 := by simp only [E.den, BO.den, wrap_u64]
theorem den_nE (ρ : Env) : (E.bin .max (.bin .min (.var 0) (.lit (.ofNat 256))) (.lit (.ofNat 4))).den ρ = nE.den ρ := rfl
theorem lt_ne (ρ : Env) (a b : E) : (E.bin .lt a b).den ρ ≠ 0 ↔ a.den ρ < b.den ρ := by
  simp only [E.den, BO.den]; by_cases h : a.den ρ < b.den ρ <;> simp [h]
theorem eq_ne (ρ : Env) (a b : E) : (E.bin .eq a b).den ρ ≠ 0 ↔ a.den ρ = b.den ρ := by
  simp only [E.den, BO.den]; by_cases h : a.den ρ = b.den ρ <;> simp [h]
theorem lem0 (ρ : Env) : E.den ρ (.bin .lt (.bin (.mul .u64) (.bin .max (.bin .min (.var 0) (.lit (.ofNat 256))) (.lit (.ofNat 4))) (.lit (.ofNat 4096))) (.lit (.ofNat 1048577))) ≠ 0 := by
  have h := nE_bd ρ
  have := (lt_iff (ρ := ρ) (a := .bin (.mul .u64) nE (.lit (.ofNat 4096))) (b := .lit (.ofNat 1048577)) (t := true)).2 (by
    rw [den_mulI, den_lit, den_lit]
    constructor
    · intro _; rfl
    · intro _; omega)
  exact this.2 rfl
theorem hlem (ρ : Env) : ∀ t ∈ lem, (t.1.den ρ ≠ 0 ↔ t.2 = true) := by
  unfold lem
  simp only [List.forall_mem_cons]
  exact ⟨⟨fun _ => by first | rfl | trivial, fun _ => lem0 ρ⟩, fun _ h => absurd h List.not_mem_nil⟩
def xs : List V1 := [(.one (.int .i64 (.var 0))), (.one (.int .u64 (.var 1))), (.one (.int .i64 (.var 2))), (.one (.int .i64 (.var 3)))]
def facts0 : List Fact := [(.rng (.var 0) ((some (.negSucc 9223372036854775807)), (some (.ofNat 9223372036854775807)))), (.rng (.var 1) ((some (.ofNat 0)), (some (.ofNat 18446744073709551615)))), (.rng (.var 2) ((some (.negSucc 9223372036854775807)), (some (.ofNat 9223372036854775807)))), (.rng (.var 3) ((some (.negSucc 9223372036854775807)), (some (.ofNat 9223372036854775807))))]
theorem hsym : symArgs Try.prog Try.f4.params.toList 0 = some (xs, facts0, 4) := by kernel_rfl
end Go.Proofs.Ytfncnkcjofljmaa.pmaWhole
