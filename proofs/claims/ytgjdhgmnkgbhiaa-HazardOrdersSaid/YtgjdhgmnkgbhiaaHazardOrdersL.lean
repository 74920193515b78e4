/-
  'HazardOrders': the templates of its loops, what is known there, contracts of what it calls. Printed by program.
-/
import Derived.Test.YtgjdhgmnkgbhiaaRows
import Derived.Test.YtgjdhgmnkgbhiaaSxC
namespace Go.Proofs.Ytgjdhgmnkgbhiaa.hazardOrders
open Go.ChangeShapes Go.WideShapes Go.ChangeAt Go.RowKit Go.Sx
set_option linter.unusedVariables false
set_option linter.unusedSimpArgs false
noncomputable section

def z : E := .lit (.ofNat 0)
def r (i : Nat) (a b : Nat) : Fact := .rng (.var i) (some (.ofNat a), some (.ofNat b))
def ord : E := .app 16 (.app 2 (.tv 0) (.tv 0)) (.lit (.ofNat 0))
def iseq (l : Nat) (t n : E) (wr : Bool) : Nat × Ent := (l, ⟨wr, .seq l t n [.int .i64] 3⟩)
def rseq (l : Nat) (t n : E) : Nat × Ent := (l, ⟨false, .seq l t n [.int .i64, .int .i64, .int .i64, .int .i64] 23⟩)
def rtab (l : Nat) (n : E) : Nat × Ent := (l, ⟨false, .tab l (.tv l) n [.int .i64, .int .i64, .int .i64, .int .i64]⟩)
def iv (i : Nat) : SV := .v (.one (.int .i64 (.var i)))
def ihp (n : E) : List (Nat × Ent) := [iseq 0 (.tv 0) (.var 0) false, iseq 1 (.tv 1) n false]
def iT : Tm := ⟨[(0, .v (.one (.osl 0))), (1, .v (.one (.osl 1))), (2, .v (.one (.fn 19 [] []))), (7, iv 101)], ihp (.var 0), 2, 2⟩
def iE : Tm := ⟨[], ihp (.var 0), 2, 2⟩
def eF : List Fact := [r 0 0 140737488355328, r 1 0 140737488355328, .tr (.bin .eq (.var 1) (.var 0)) true]
def iF : List Fact := [r 101 0 140737488355328, .tr (.bin .lt (.var 0) (.var 101)) false, .tr (.app 68 (.app 2 (.tv 0) (.tv 1)) (.var 101)) true] ++ eF
def iG : List Fact := .tr (.app 68 (.app 2 (.tv 0) (.tv 1)) (.var 0)) true :: eF
def rhp (n : E) : List (Nat × Ent) := [rseq 0 (.tv 0) (.var 4), rtab 1 n]
def rT : Tm := ⟨[(0, .v (.one (.osub 0 (.var 0) (.var 2)))), (1, .v (.one (.tslc 1 4 z (.var 0) (.var 3)))), (2, .v (.one (.fn 22 [] []))), (7, iv 101)], rhp (.var 0), 2, 2⟩
def rE : Tm := ⟨[], rhp (.var 0), 2, 2⟩
def rF0 : List Fact := [r 0 0 140737488355328, r 1 0 140737488355328, r 2 0 140737488355328, r 3 0 9223372036854775807, r 4 0 140737488355328, .tr (.bin .lt (.var 4) (.var 0)) false]
def rF : List Fact := [r 101 0 140737488355328, .tr (.bin .lt (.var 0) (.var 101)) false, .tr (.app 17540 (.app 2 (.tv 0) (.tv 1)) (.var 101)) true, .tr (.bin .eq (.var 1) (.var 0)) true] ++ rF0
def rG : List Fact := [.tr (.app 17540 (.app 2 (.tv 0) (.tv 1)) (.var 0)) true, .tr (.bin .eq (.var 1) (.var 0)) true] ++ rF0
def oT (n : E) : Tm := ⟨[(0, .v (.one (.osub 0 (.var 0) (.var 1)))), (3, .v (.one (.osl 1))), (11, .v (.one (.osub 0 (.var 0) (.var 1)))), (12, iv 0), (13, iv 101)], [rseq 0 (.tv 0) (.var 2), iseq 1 ord n true], 2, 1⟩
def oF0 : List Fact := [r 0 0 4398046511104, r 1 0 140737488355328, r 2 0 140737488355328, .tr (.bin .lt (.var 2) (.var 0)) false]
def oF : List Fact := [r 101 0 4398046511104, .tr (.bin .lt (.var 0) (.var 101)) false] ++ oF0
def pT (n : E) : Tm := ⟨[(0, .v (.one (.tslc 0 4 z (.var 0) (.var 1)))), (3, .v (.one (.osl 1))), (4, iv 101)], [rtab 0 (.var 0), iseq 1 ord n true], 2, 1⟩
def pF0 : List Fact := [r 0 0 4398046511104, r 1 0 9223372036854775807]
def pF : List Fact := [r 101 0 4398046511104, .tr (.bin .lt (.var 0) (.var 101)) false] ++ pF0
def T : Tm := ⟨[(4, .v (.one (.osl 0))), (5, iv 101)], [iseq 0 ord (.var 0) true], 1, 0⟩
def TE : Tm := ⟨[], [], 0, 0⟩
def F : List Fact := [r 0 0 4398046511104, r 101 1 4398046511105]
def FE : List Fact := []

def ct_byp : Ctr := ⟨7, [.agg [.int .i64 (.var 0), .int .i64 (.var 1), .int .i64 (.var 2), .int .i64 (.var 3)], .agg [.int .i64 (.var 4), .int .i64 (.var 5), .int .i64 (.var 6), .int .i64 (.var 7)], .agg [.int .i64 (.var 8), .int .i64 (.var 9), .int .i64 (.var 10), .int .i64 (.var 11)]], [], 0, [], ⟨[.one (.int .i64 (.ite (.ite (.bin .eq (.var 7) (.lit (.ofNat 2))) (.ite (.ite (.bin .eq (.var 0) (.lit (.ofNat 0))) (.lit (.ofNat 0)) (.bin .eq (.var 6) (.var 0))) (.lit (.ofNat 1)) (.ite (.bin .eq (.var 1) (.lit (.ofNat 0))) (.lit (.ofNat 0)) (.bin .eq (.var 6) (.var 1)))) (.lit (.ofNat 0))) (.lit (.ofNat 0)) (.ite (.bin .eq (.var 0) (.lit (.ofNat 0))) (.lit (.ofNat 0)) (.ite (.bin .eq (.var 6) (.var 0)) (.lit (.ofNat 1)) (.ite (.bin .eq (.var 10) (.var 0)) (.lit (.ofNat 2)) (.lit (.ofNat 0))))))), .one (.int .i64 (.ite (.ite (.bin .eq (.var 7) (.lit (.ofNat 2))) (.ite (.ite (.bin .eq (.var 0) (.lit (.ofNat 0))) (.lit (.ofNat 0)) (.bin .eq (.var 6) (.var 0))) (.lit (.ofNat 1)) (.ite (.bin .eq (.var 1) (.lit (.ofNat 0))) (.lit (.ofNat 0)) (.bin .eq (.var 6) (.var 1)))) (.lit (.ofNat 0))) (.lit (.ofNat 0)) (.ite (.bin .eq (.var 1) (.lit (.ofNat 0))) (.lit (.ofNat 0)) (.ite (.bin .eq (.var 6) (.var 1)) (.lit (.ofNat 1)) (.ite (.bin .eq (.var 10) (.var 1)) (.lit (.ofNat 2)) (.lit (.ofNat 0))))))), .one (.bool (.ite (.bin .eq (.var 7) (.lit (.ofNat 2))) (.ite (.ite (.bin .eq (.var 0) (.lit (.ofNat 0))) (.lit (.ofNat 0)) (.bin .eq (.var 6) (.var 0))) (.lit (.ofNat 1)) (.ite (.bin .eq (.var 1) (.lit (.ofNat 0))) (.lit (.ofNat 0)) (.bin .eq (.var 6) (.var 1)))) (.lit (.ofNat 0))))], [], 0, 0⟩⟩
def ct_rbyp : Ctr := ⟨9, [.agg [.int .i64 (.var 0), .int .i64 (.var 1), .int .i64 (.var 2), .int .i64 (.var 3)], .agg [.int .i64 (.var 4), .int .i64 (.var 5), .int .i64 (.var 6), .int .i64 (.var 7)], .agg [.int .i64 (.var 8), .int .i64 (.var 9), .int .i64 (.var 10), .int .i64 (.var 11)]], [], 0, [], ⟨[.one (.int .i64 (.ite (.ite (.bin .eq (.var 7) (.lit (.ofNat 2))) (.ite (.ite (.bin .eq (.var 0) (.lit (.ofNat 0))) (.lit (.ofNat 0)) (.bin .eq (.var 6) (.var 0))) (.lit (.ofNat 1)) (.ite (.bin .eq (.var 1) (.lit (.ofNat 0))) (.lit (.ofNat 0)) (.bin .eq (.var 6) (.var 1)))) (.lit (.ofNat 0))) (.lit (.ofNat 0)) (.ite (.bin .eq (.var 0) (.lit (.ofNat 0))) (.lit (.ofNat 0)) (.ite (.bin .eq (.var 6) (.var 0)) (.lit (.ofNat 1)) (.ite (.bin .eq (.var 10) (.var 0)) (.lit (.ofNat 2)) (.lit (.ofNat 0))))))), .one (.int .i64 (.ite (.ite (.bin .eq (.var 7) (.lit (.ofNat 2))) (.ite (.ite (.bin .eq (.var 0) (.lit (.ofNat 0))) (.lit (.ofNat 0)) (.bin .eq (.var 6) (.var 0))) (.lit (.ofNat 1)) (.ite (.bin .eq (.var 1) (.lit (.ofNat 0))) (.lit (.ofNat 0)) (.bin .eq (.var 6) (.var 1)))) (.lit (.ofNat 0))) (.lit (.ofNat 0)) (.ite (.bin .eq (.var 1) (.lit (.ofNat 0))) (.lit (.ofNat 0)) (.ite (.bin .eq (.var 6) (.var 1)) (.lit (.ofNat 1)) (.ite (.bin .eq (.var 10) (.var 1)) (.lit (.ofNat 2)) (.lit (.ofNat 0))))))), .one (.bool (.ite (.bin .eq (.var 7) (.lit (.ofNat 2))) (.ite (.ite (.bin .eq (.var 0) (.lit (.ofNat 0))) (.lit (.ofNat 0)) (.bin .eq (.var 6) (.var 0))) (.lit (.ofNat 1)) (.ite (.bin .eq (.var 1) (.lit (.ofNat 0))) (.lit (.ofNat 0)) (.bin .eq (.var 6) (.var 1)))) (.lit (.ofNat 0))))], [], 0, 0⟩⟩
def ct_samei : Ctr := ⟨18, [.one (.osl 0), .one (.osl 1), .one (.fn 19 [] [])], ihp (.var 1), 2, [r 0 0 140737488355328, r 1 0 140737488355328], ⟨[.one (.bool (.ite (.bin .eq (.var 1) (.var 0)) (.app 68 (.app 2 (.tv 0) (.tv 1)) (.var 0)) z))], [], 2, 2⟩⟩
def ct_samer : Ctr := ⟨21, [.one (.osub 0 (.var 0) (.var 2)), .one (.tslc 1 4 z (.var 1) (.var 3)), .one (.fn 22 [] [])], rhp (.var 1), 2, rF0, ⟨[.one (.bool (.ite (.bin .eq (.var 1) (.var 0)) (.app 17540 (.app 2 (.tv 0) (.tv 1)) (.var 0)) z))], [], 2, 2⟩⟩
def ct_order : Ctr := ⟨12, [.one (.osub 0 (.var 0) (.var 1))], [rseq 0 (.tv 0) (.var 2)], 1, oF0, ⟨[.one (.osl 1)], [iseq 1 ord (.var 0) true], 2, 1⟩⟩
def ct_reford : Ctr := ⟨14, [.one (.tslc 0 4 z (.var 0) (.var 1))], [rtab 0 (.var 0)], 1, pF0, ⟨[.one (.osl 1)], [iseq 1 ord (.var 0) true], 2, 1⟩⟩
def xs0 : List V1 := [(.one .nils)]
def hs0 : List (Nat × Ent) := []
def facts0 : List Fact := []
def st0 : S := ⟨argSlots xs0 0 .nil, putSets .leaf hs0, 1, []⟩
def xs1 : List V1 := [(.one (.tslc 0 4 (.lit (.ofNat 0)) (.var 0) (.var 1)))]
def hs1 : List (Nat × Ent) := [(0, ⟨false, .tab 0 (.tv 0) (.var 0) [.int .i64, .int .i64, .int .i64, .int .i64]⟩)]
def facts1 : List Fact := [(.rng (.var 0) ((some (.ofNat 0)), (some (.ofNat 4398046510976)))), (.rng (.var 1) ((some (.ofNat 0)), (some (.ofNat 9223372036854775807))))]
def st1 : S := ⟨argSlots xs1 0 .nil, putSets .leaf hs1, 1, []⟩
def lem_c_byp_0 : List Fact := []
def lem_c_rbyp_1 : List Fact := []
def lem_c_samei_2 : List Fact := []
def lem_c_samei_3 : List Fact := []
def lem_c_samei_4 : List Fact := []
def lem_c_samer_5 : List Fact := []
def lem_c_samer_6 : List Fact := []
def lem_c_samer_7 : List Fact := []
def lem_c_order_8 : List Fact := []
def lem_c_order_9 : List Fact := []
def lem_c_order_10 : List Fact := []
def lem_c_reford_11 : List Fact := []
def lem_c_reford_12 : List Fact := []
def lem_c_reford_13 : List Fact := []
def lem_l0_14 : List Fact := []
def lem_l1_15 : List Fact := []
def lem_l1_16 : List Fact := []
def lem_l1_17 : List Fact := []

theorem i10 {p : Prop} [Decidable p] : ((if p then (1 : Int) else 0) = 0) = ¬p := by by_cases h : p <;> simp [h]
theorem ordS_nn (t : Int → Nat → Int) : ∀ n : Nat, 0 ≤ ordS t n ∧ ordS t n ≤ 2 * n
  | 0 => by simp [ordS]
  | n + 1 => by
    have := ordS_nn t n
    simp only [ordS]
    have hb : ∀ b, 0 ≤ b01 b ∧ b01 b ≤ 1 := by intro b; cases b <;> simp [b01]
    have := hb (waitS t (n + 1) n)
    push_cast
    omega
theorem ordS_at (t : Int → Nat → Int) {i : Int} (h : 1 ≤ i) : ordS t i.toNat = ordS t (i - 1).toNat + 1 + b01 (waitS t i (i - 1)) := by
  obtain ⟨n, rfl⟩ : ∃ n : Nat, i = n + 1 := ⟨(i - 1).toNat, by omega⟩
  rw [show ((n : Int) + 1).toNat = n + 1 by omega, show ((n : Int) + 1 - 1).toNat = n by omega]
  simp only [ordS, show (n : Int) + 1 - 1 = n by omega]
theorem ord_row (ρ : Env) (x e n : E) (hx : x.den ρ = ρ.v 101) (hn : n.den ρ = ρ.v 101 + 1) (h0 : 0 ≤ ρ.v 101) (h : e.den ρ = ordS (ρ.t 0) (ρ.v 101).toNat) : TEqP ρ ρ (.upd (.app 16 (.app 2 (.tv 0) (.tv 0)) (.lit (.ofNat 0))) x 0 e, (.app 16 (.app 2 (.tv 0) (.tv 0)) (.lit (.ofNat 0))), some (n, 1)) := by
  intro i hi j hj
  have : j = 0 := by omega
  subst this
  simp only [E.tden, specT, hx, and_true, if_true]
  by_cases hq : (i : Int) = ρ.v 101
  · rw [if_pos hq, h, ← hq]
  · rw [if_neg hq]

theorem lem_c_byp_0_ok : ∀ ρ, (∀ g ∈ ct_byp.facts, Fact.holds ρ g) → ∀ g ∈ lem_c_byp_0, Fact.holds ρ g := fun _ _ _ h => absurd h List.not_mem_nil
theorem lem_c_rbyp_1_ok : ∀ ρ, (∀ g ∈ ct_rbyp.facts, Fact.holds ρ g) → ∀ g ∈ lem_c_rbyp_1, Fact.holds ρ g := fun _ _ _ h => absurd h List.not_mem_nil
theorem lem_c_samei_2_ok : ∀ ρ, (∀ g ∈ ct_samei.facts, Fact.holds ρ g) → ∀ g ∈ lem_c_samei_2, Fact.holds ρ g := fun _ _ _ h => absurd h List.not_mem_nil
theorem lem_c_samei_3_ok : ∀ ρ, (∀ g ∈ iF, Fact.holds ρ g) → ∀ g ∈ lem_c_samei_3, Fact.holds ρ g := fun _ _ _ h => absurd h List.not_mem_nil
theorem lem_c_samei_4_ok : ∀ ρ, (∀ g ∈ iG, Fact.holds ρ g) → ∀ g ∈ lem_c_samei_4, Fact.holds ρ g := fun _ _ _ h => absurd h List.not_mem_nil
theorem lem_c_samer_5_ok : ∀ ρ, (∀ g ∈ ct_samer.facts, Fact.holds ρ g) → ∀ g ∈ lem_c_samer_5, Fact.holds ρ g := fun _ _ _ h => absurd h List.not_mem_nil
theorem lem_c_samer_6_ok : ∀ ρ, (∀ g ∈ rF, Fact.holds ρ g) → ∀ g ∈ lem_c_samer_6, Fact.holds ρ g := fun _ _ _ h => absurd h List.not_mem_nil
theorem lem_c_samer_7_ok : ∀ ρ, (∀ g ∈ rG, Fact.holds ρ g) → ∀ g ∈ lem_c_samer_7, Fact.holds ρ g := fun _ _ _ h => absurd h List.not_mem_nil
theorem lem_c_order_8_ok : ∀ ρ, (∀ g ∈ ct_order.facts, Fact.holds ρ g) → ∀ g ∈ lem_c_order_8, Fact.holds ρ g := fun _ _ _ h => absurd h List.not_mem_nil
theorem lem_c_order_9_ok : ∀ ρ, (∀ g ∈ oF, Fact.holds ρ g) → ∀ g ∈ lem_c_order_9, Fact.holds ρ g := fun _ _ _ h => absurd h List.not_mem_nil
theorem lem_c_order_10_ok : ∀ ρ, (∀ g ∈ oF0, Fact.holds ρ g) → ∀ g ∈ lem_c_order_10, Fact.holds ρ g := fun _ _ _ h => absurd h List.not_mem_nil
theorem lem_c_reford_11_ok : ∀ ρ, (∀ g ∈ ct_reford.facts, Fact.holds ρ g) → ∀ g ∈ lem_c_reford_11, Fact.holds ρ g := fun _ _ _ h => absurd h List.not_mem_nil
theorem lem_c_reford_12_ok : ∀ ρ, (∀ g ∈ pF, Fact.holds ρ g) → ∀ g ∈ lem_c_reford_12, Fact.holds ρ g := fun _ _ _ h => absurd h List.not_mem_nil
theorem lem_c_reford_13_ok : ∀ ρ, (∀ g ∈ pF0, Fact.holds ρ g) → ∀ g ∈ lem_c_reford_13, Fact.holds ρ g := fun _ _ _ h => absurd h List.not_mem_nil
theorem lem_l0_14_ok : ∀ ρ, (∀ g ∈ facts0, Fact.holds ρ g) → ∀ g ∈ lem_l0_14, Fact.holds ρ g := fun _ _ _ h => absurd h List.not_mem_nil
theorem lem_l1_15_ok : ∀ ρ, (∀ g ∈ facts1, Fact.holds ρ g) → ∀ g ∈ lem_l1_15, Fact.holds ρ g := fun _ _ _ h => absurd h List.not_mem_nil
theorem lem_l1_16_ok : ∀ ρ, (∀ g ∈ F, Fact.holds ρ g) → ∀ g ∈ lem_l1_16, Fact.holds ρ g := fun _ _ _ h => absurd h List.not_mem_nil
theorem lem_l1_17_ok : ∀ ρ, (∀ g ∈ FE, Fact.holds ρ g) → ∀ g ∈ lem_l1_17, Fact.holds ρ g := fun _ _ _ h => absurd h List.not_mem_nil
end
end Go.Proofs.Ytgjdhgmnkgbhiaa.hazardOrders
