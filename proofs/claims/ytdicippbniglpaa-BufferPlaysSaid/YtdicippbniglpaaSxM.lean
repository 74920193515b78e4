/-
  SX: a symbolic executor, sound for the model's rules; several parts in one text. Copied by program.
-/
import Derived.Test.YtdicippbniglpaaSxX
import Derived.OpenShut
import Derived.Orders
import Derived.ProofKit
import Derived.ReadAgain
import Derived.RowKit3
/-
  SX: STATES OF SEVERAL WAYS MADE ONE: that what is made of them stands for each.
-/
namespace Go.Sx
set_option linter.unusedSimpArgs false
set_option linter.unusedVariables false
set_option linter.unusedSectionVars false
noncomputable section
set_option linter.unusedVariables false

/-- c stands for a where the test holds, for b where it does not. -/
structure IteV {α : Type} (ρ : Env) (t : E) (D : α → Lab → Value) (B : Nat → α → Prop) (a b c : α) : Prop where
  yes : t.den ρ ≠ 0 → ∀ β, D c β = D a β
  no : t.den ρ = 0 → ∀ β, D c β = D b β
  ba : ∀ n, B n a → B n c
  bb : ∀ n, B n b → B n c
theorem cvIte_ok {ρ : Env} {t : E} {a b c : CV} (h : cvIte t a b = some c) : IteV ρ t (fun c β => CV.den ρ β c) CV.below a b c := by
  have key : ∀ x y : E, (t.den ρ ≠ 0 → (mkIte t x y).den ρ = x.den ρ) ∧ (t.den ρ = 0 → (mkIte t x y).den ρ = y.den ρ) := by
    intro x y
    rw [mkIte_den]
    exact ⟨fun h => if_neg h, fun h => if_pos h⟩
  unfold cvIte at h
  split at h
  · split at h
    · rename_i k x k' y hk
      cases h
      have := keq_eq hk
      subst this
      exact ⟨fun ht β => by simp only [CV.den, (key _ _).1 ht], fun ht β => by simp only [CV.den, (key _ _).2 ht], fun _ _ => trivial, fun _ _ => trivial⟩
    · cases h
  · rename_i x y
    cases h
    exact ⟨fun ht β => by simp only [CV.den, (key _ _).1 ht], fun ht β => by simp only [CV.den, (key _ _).2 ht], fun _ _ => trivial, fun _ _ => trivial⟩
  · split at h
    · rename_i hb
      simp only [Bool.and_eq_true] at hb
      have h1 := Nat.eq_of_beq_eq_true hb.1
      have h2 := Nat.eq_of_beq_eq_true hb.2
      subst h1; subst h2
      cases h
      exact ⟨fun _ _ => rfl, fun _ _ => rfl, fun _ h => h, fun _ h => h⟩
    · cases h
  · cases h; exact ⟨fun _ _ => rfl, fun _ _ => rfl, fun _ h => h, fun _ h => h⟩
  · cases h; exact ⟨fun _ _ => rfl, fun _ _ => rfl, fun _ h => h, fun _ h => h⟩
  · cases h; exact ⟨fun _ _ => rfl, fun _ _ => rfl, fun _ h => h, fun _ h => h⟩
  · split at h
    · rename_i hb
      have h1 := Nat.eq_of_beq_eq_true hb
      subst h1
      cases h
      exact ⟨fun _ _ => rfl, fun _ _ => rfl, fun _ h => h, fun _ h => h⟩
    · cases h
  · split at h
    · rename_i l o n c l' o' n' c' hb
      simp only [Bool.and_eq_true] at hb
      have h1 := Nat.eq_of_beq_eq_true hb.1
      have h2 := Nat.eq_of_beq_eq_true hb.2
      subst h1; subst h2
      cases h
      exact ⟨fun ht β => by simp only [CV.den, (key _ _).1 ht], fun ht β => by simp only [CV.den, (key _ _).2 ht], fun _ h => h, fun _ h => h⟩
    · cases h
  · split at h
    · rename_i l z r n c l' z' r' n' c' hb
      simp only [Bool.and_eq_true] at hb
      have h1 := Nat.eq_of_beq_eq_true hb.1
      have h2 := Nat.eq_of_beq_eq_true hb.2
      subst h1; subst h2
      cases h
      exact ⟨fun ht β => by simp only [CV.den, (key _ _).1 ht], fun ht β => by simp only [CV.den, (key _ _).2 ht], fun _ h => h, fun _ h => h⟩
    · cases h
  · split at h
    · rename_i l z r j l' z' r' j' hb
      simp only [Bool.and_eq_true] at hb
      have h1 := Nat.eq_of_beq_eq_true hb.1
      have h2 := Nat.eq_of_beq_eq_true hb.2.1
      have h3 := Nat.eq_of_beq_eq_true hb.2.2
      subst h1; subst h2; subst h3
      cases h
      exact ⟨fun ht β => by simp only [CV.den, (key _ _).1 ht], fun ht β => by simp only [CV.den, (key _ _).2 ht], fun _ h => h, fun _ h => h⟩
    · cases h
  · split at h
    · rename_i hb
      have h1 := Nat.eq_of_beq_eq_true hb
      subst h1
      cases h
      exact ⟨fun _ _ => rfl, fun _ _ => rfl, fun _ h => h, fun _ h => h⟩
    · cases h
  · split at h
    · rename_i hb
      have h1 := Nat.eq_of_beq_eq_true hb
      subst h1
      cases h
      exact ⟨fun ht β => by simp only [CV.den, (key _ _).1 ht], fun ht β => by simp only [CV.den, (key _ _).2 ht], fun _ h => h, fun _ h => h⟩
    · cases h
  · split at h
    · rename_i hb
      simp only [Bool.and_eq_true] at hb
      have h1 := Nat.eq_of_beq_eq_true hb.1
      have h2 := Nat.eq_of_beq_eq_true hb.2.1
      have h3 := Nat.eq_of_beq_eq_true hb.2.2
      subst h1; subst h2; subst h3
      cases h
      exact ⟨fun ht β => by simp only [CV.den, (key _ _).1 ht], fun ht β => by simp only [CV.den, (key _ _).2 ht], fun _ h => h, fun _ h => h⟩
    · cases h
  · split at h
    · rename_i hb
      have h1 := Nat.eq_of_beq_eq_true hb
      subst h1
      cases h
      exact ⟨fun ht β => by simp only [CV.den, (key _ _).1 ht], fun ht β => by simp only [CV.den, (key _ _).2 ht], fun _ h => h, fun _ h => h⟩
    · cases h
  · cases h
theorem ckSame_eq : ∀ {a b : List CK}, ckSame a b = true → a = b
  | [], [], _ => rfl
  | .int k :: r, .int k' :: r', h => by
    simp only [ckSame] at h
    split at h
    · rename_i hk; rw [keq_eq hk, ckSame_eq h]
    · cases h
  | .bool :: r, .bool :: r', h => by
    simp only [ckSame] at h
    rw [ckSame_eq h]
  | [], _ :: _, h => by simp [ckSame] at h
  | _ :: _, [], h => by simp [ckSame] at h
  | .int _ :: _, .bool :: _, h => by simp [ckSame] at h
  | .bool :: _, .int _ :: _, h => by simp [ckSame] at h
theorem tIte_ok {ρ : Env} (t a b : E) : (t.den ρ ≠ 0 → (tIte t a b).tden ρ = a.tden ρ) ∧ (t.den ρ = 0 → (tIte t a b).tden ρ = b.tden ρ) := by
  unfold tIte
  split
  · rename_i h
    rw [E.same_eq h]
    exact ⟨fun _ => rfl, fun _ => rfl⟩
  · simp only [E.tden]
    exact ⟨fun h => if_neg h, fun h => if_pos h⟩
theorem mkIte_two {ρ : Env} (t x y : E) : (t.den ρ ≠ 0 → (mkIte t x y).den ρ = x.den ρ) ∧ (t.den ρ = 0 → (mkIte t x y).den ρ = y.den ρ) := by
  rw [mkIte_den]
  exact ⟨fun h => if_neg h, fun h => if_pos h⟩
theorem cvsIte_ok {ρ : Env} {t : E} : ∀ {a b c : List CV}, cvsIte t a b = some c → (t.den ρ ≠ 0 → ∀ β, c.map (CV.den ρ β) = a.map (CV.den ρ β)) ∧ (t.den ρ = 0 → ∀ β, c.map (CV.den ρ β) = b.map (CV.den ρ β)) ∧
    (∀ n, (∀ x ∈ a, CV.below n x) → ∀ x ∈ c, CV.below n x) ∧ (∀ n, (∀ x ∈ b, CV.below n x) → ∀ x ∈ c, CV.below n x)
  | [], [], c, h => by cases h; exact ⟨fun _ _ => rfl, fun _ _ => rfl, fun _ h => h, fun _ h => h⟩
  | a :: r, b :: r', c, h => by
    simp only [cvsIte] at h
    split at h
    · rename_i x xs hx hxs
      cases h
      have h1 := cvIte_ok (ρ := ρ) hx
      obtain ⟨i1, i2, i3, i4⟩ := cvsIte_ok (ρ := ρ) hxs
      refine ⟨fun ht β => by rw [List.map_cons, List.map_cons, h1.yes ht β, i1 ht β], fun ht β => by rw [List.map_cons, List.map_cons, h1.no ht β, i2 ht β], fun n hn y hy => ?_, fun n hn y hy => ?_⟩
      · rcases List.mem_cons.1 hy with rfl | hy
        · exact h1.ba n (hn _ (List.mem_cons_self ..))
        · exact i3 n (fun z hz => hn z (List.mem_cons_of_mem _ hz)) y hy
      · rcases List.mem_cons.1 hy with rfl | hy
        · exact h1.bb n (hn _ (List.mem_cons_self ..))
        · exact i4 n (fun z hz => hn z (List.mem_cons_of_mem _ hz)) y hy
    · cases h
  | [], _ :: _, c, h => by simp [cvsIte] at h
  | _ :: _, [], c, h => by simp [cvsIte] at h
theorem svIte_ok {ρ : Env} {t : E} {a b c : SV} (h : svIte t a b = some c) : IteV ρ t (fun c β => SV.den ρ β c) SV.below a b c := by
  unfold svIte at h
  split at h
  · rename_i x y
    split at h
    · rename_i z hz
      cases h
      unfold v1Ite at hz
      split at hz
      · split at hz
        · rename_i c' hc
          cases hz
          have := cvIte_ok (ρ := ρ) hc
          exact ⟨fun ht β => this.yes ht β, fun ht β => this.no ht β, fun n h => this.ba n h, fun n h => this.bb n h⟩
        · cases hz
      · split at hz
        · rename_i c' hc
          cases hz
          obtain ⟨i1, i2, i3, i4⟩ := cvsIte_ok (ρ := ρ) hc
          exact ⟨fun ht β => by simp only [SV.den, V1.den, i1 ht β], fun ht β => by simp only [SV.den, V1.den, i2 ht β], fun n h => i3 n h, fun n h => i4 n h⟩
        · cases hz
      · cases hz
    · cases h
  · cases h
/-- An entry that stands for another. -/
structure EntEq (ρ : Env) (e x : Ent) : Prop where
  wr : x.wr = e.wr
  hb : ∀ β, x.blk.hb β ↔ e.blk.hb β
  below : ∀ n, e.blk.below n → x.blk.below n
  sat : ∀ β b w, e.blk.sat ρ β b w → x.blk.sat ρ β b w
theorem entIte_ok {ρ : Env} {t : E} {a b x : Ent} (h : entIte t a b = some x) : (t.den ρ ≠ 0 → EntEq ρ a x) ∧ (t.den ρ = 0 → EntEq ρ b x) := by
  unfold entIte at h
  split at h
  · rename_i wr ca ty wr' cb ty'
    split at h
    · rename_i hb
      simp only [Bool.and_eq_true] at hb
      have e1 := Nat.eq_of_beq_eq_true hb.1
      have e2 : wr = wr' := by
        have := hb.2
        rw [eqvB_eq] at this
        exact eq_of_beq this
      subst e1; subst e2
      split at h
      · rename_i c hc
        cases h
        obtain ⟨i1, i2, i3, i4⟩ := cvsIte_ok (ρ := ρ) hc
        exact ⟨fun ht => ⟨rfl, fun _ => Iff.rfl, fun n h => i3 n h, fun β b w h => by simp only [Blk.sat] at h ⊢; rw [i1 ht β]; exact h⟩,
          fun ht => ⟨rfl, fun _ => Iff.rfl, fun n h => i4 n h, fun β b w h => by simp only [Blk.sat] at h ⊢; rw [i2 ht β]; exact h⟩⟩
      · cases h
    · cases h
  · rename_i wr ta n k ty wr' tb n' k' ty'
    split at h
    · rename_i hb
      simp only [Bool.and_eq_true] at hb
      have e1 := Nat.eq_of_beq_eq_true hb.1
      have e2 : wr = wr' := by
        have := hb.2.1
        rw [eqvB_eq] at this
        exact eq_of_beq this
      have e3 := Nat.eq_of_beq_eq_true hb.2.2.1
      have e4 := ckSame_eq hb.2.2.2
      cases e4
      subst e1; subst e2; subst e3
      cases h
      have hi := tIte_ok (ρ := ρ) t ta tb
      exact ⟨fun ht => ⟨rfl, fun _ => Iff.rfl, fun _ _ => trivial, fun β b w h => by simp only [Blk.sat] at h ⊢; rw [hi.1 ht]; exact h⟩,
        fun ht => ⟨rfl, fun _ => Iff.rfl, fun _ _ => trivial, fun β b w h => by simp only [Blk.sat] at h ⊢; rw [hi.2 ht]; exact h⟩⟩
    · cases h
  · rename_i wr q ta n ks ty wr' q' tb n' ks' ty'
    split at h
    · rename_i hb
      simp only [Bool.and_eq_true] at hb
      have e1 := Nat.eq_of_beq_eq_true hb.1
      have e2 : wr = wr' := by
        have := hb.2.1
        rw [eqvB_eq] at this
        exact eq_of_beq this
      have e3 := Nat.eq_of_beq_eq_true hb.2.2.1
      have e4 := ckSame_eq hb.2.2.2
      subst e1; subst e2; subst e3; subst e4
      cases h
      have hi := tIte_ok (ρ := ρ) t ta tb
      have hn := mkIte_two (ρ := ρ) t n n'
      exact ⟨fun ht => ⟨rfl, fun _ => Iff.rfl, fun _ h => h, fun β b w h => by simp only [Blk.sat] at h ⊢; rw [hi.1 ht, hn.1 ht]; exact h⟩,
        fun ht => ⟨rfl, fun _ => Iff.rfl, fun _ h => h, fun β b w h => by simp only [Blk.sat] at h ⊢; rw [hi.2 ht, hn.2 ht]; exact h⟩⟩
    · cases h
  · rename_i wr wr'
    split at h
    · rename_i hb
      have e2 : wr = wr' := by
        rw [eqvB_eq] at hb
        exact eq_of_beq hb
      subst e2
      cases h
      exact ⟨fun _ => ⟨rfl, fun _ => Iff.rfl, fun _ h => h, fun _ _ _ h => h⟩, fun _ => ⟨rfl, fun _ => Iff.rfl, fun _ h => h, fun _ _ _ h => h⟩⟩
    · cases h
  · cases h
theorem Sets.find_pair {l : Nat} {x : Ent} : ∀ {s : Sets}, s.find l = some x → (l, x) ∈ s
  | [], h => by cases h
  | (l', y) :: r, h => by
    unfold Sets.find at h
    split at h
    · rename_i z hz
      cases h
      exact List.mem_cons_of_mem _ (Sets.find_pair hz)
    · split at h
      · rename_i hb
        cases h
        rw [Nat.eq_of_beq_eq_true hb]
        exact List.mem_cons_self ..
      · cases h
/-- One way's state, and what stands for it. -/
theorem half {Δ : Dv} {ρ : Env} {β β' : Lab} {nt : Nat} {s0 s1 : S} {a' : Act} {w w' : World} (hs : SatH ρ β s0.nx s0.heap.get w) (hg : Goes Δ ρ β nt s0 w β' s1 a' w') {sl : Sl} {sets : Sets} {nx : Nat}
    (hsl : ∀ n v, sl.get n = some v → ∃ v1, s1.slots.get n = some v1 ∧ (∀ β, v.den ρ β = v1.den ρ β) ∧ ∀ n, v1.below n → v.below n)
    (hsets : ∀ p ∈ sets, (∃ e, s1.heap.get p.1 = some e ∧ EntEq ρ e p.2) ∧ (p.1 < s0.nx → ∃ x0, s0.heap.get p.1 = some x0 ∧ x0.wr = true))
    (hcov : ∀ l ∈ s1.log, l < s0.nx → l ∈ sets.labels) (hnx : s1.nx ≤ nx) : Goes Δ ρ β nt s0 w β' ⟨sl, putSets s0.heap sets, nx, sets.labels ++ s0.log⟩ a' w' := by
  obtain ⟨t, st, hlog, hsub⟩ := hg.step
  -- what is in the new memory is, but for its looks, in the old way's
  have hset : ∀ l x, (Heap.set s0.heap.get sets) l = some x → ∃ y, (Heap.set s0.heap.get t) l = some y ∧ EntEq ρ y x := by
    intro l x hx
    by_cases hm : l ∈ sets.labels
    · rw [Heap.set_of_mem hm] at hx
      obtain ⟨⟨e, he, heq⟩, _⟩ := hsets _ (Sets.find_pair hx)
      exact ⟨e, hsub _ _ he, heq⟩
    · rw [Heap.set_of_not_mem hm] at hx
      have hln := (hs.blk l x hx).1
      have hnt : l ∉ t.labels := by
        intro ht
        exact hm (hcov l ((hlog l).2 (.inl ht)) hln)
      exact ⟨x, by rw [Heap.set_of_not_mem hnt]; exact hx, ⟨rfl, fun _ => Iff.rfl, fun _ h => h, fun _ _ _ h => h⟩⟩
  have hsat : SatH ρ β' nx (Heap.set s0.heap.get sets) w' := by
    refine ⟨fun l x hl => ?_, fun l l' x x' hl hl' hne hw hb hb' => ?_⟩
    · obtain ⟨y, hy, heq⟩ := hset l x hl
      obtain ⟨h1, h2, h3, h4⟩ := st.sat.blk l y hy
      exact ⟨Nat.lt_of_lt_of_le h1 hnx, heq.below _ (Blk.below_mono hnx h2), fun hh => h3 ((heq.hb _).1 hh), heq.sat _ _ _ h4⟩
    · obtain ⟨y, hy, heq⟩ := hset l x hl
      obtain ⟨y', hy', heq'⟩ := hset l' x' hl'
      exact st.sat.inj l l' y y' hy hy' hne (by rw [← heq.wr, ← heq'.wr]; exact hw) ((heq.hb _).1 hb) ((heq'.hb _).1 hb')
  have hblocks : ∀ k, t.blocks β s0.nx s0.heap.get k → sets.blocks β s0.nx s0.heap.get k := by
    rintro k ⟨l, hl, hn, hx, e⟩
    exact ⟨l, hcov l ((hlog l).2 (.inl hl)) hn, hn, hx, e⟩
  refine ⟨⟨⟨fun n v hv => ?_, hg.sat.sa.defers⟩, hg.sat.sz, hsat.sub fun l x hx => putSets_get _ _ _ _ hx⟩, sets, ⟨Nat.le_trans st.le hnx, st.agree, hsat, ?_, fun l x hl hn => ?_, fun l x hl hn => ?_⟩, fun l => ?_, fun l x hx => putSets_get _ _ _ _ hx⟩
  · obtain ⟨v1, h1, h2, h3⟩ := hsl n v hv
    obtain ⟨h4, h5⟩ := hg.sat.sa.slot n v1 h1
    exact ⟨SV.below_mono hnx (h3 _ h4), by rw [h5, h2]⟩
  · exact st.frm.mono fun k _ hk => hblocks k hk
  · obtain ⟨⟨e, he, heq⟩, hold⟩ := hsets _ (Sets.find_pair hl)
    obtain ⟨x0, hx0, hw0⟩ := hold hn
    refine ⟨x0, hx0, hw0, fun hh => ?_⟩
    have h1 := hsub _ _ he
    have he' := (heq.hb _).1 hh
    by_cases ht : l ∈ t.labels
    · rw [Heap.set_of_mem ht] at h1
      obtain ⟨y, hy, _, hyh⟩ := st.own l e h1 hn
      rw [hx0] at hy
      cases hy
      exact hyh he'
    · rw [Heap.set_of_not_mem ht] at h1
      have h1 : s0.heap.get l = some e := h1
      rw [hx0] at h1
      cases h1
      exact (Blk.hb_agree st.agree (hs.blk l _ hx0).2.1).1 he'
  · obtain ⟨⟨e, he, heq⟩, _⟩ := hsets _ (Sets.find_pair hl)
    have h1 := hsub _ _ he
    have ht : l ∈ t.labels := by
      by_cases ht : l ∈ t.labels
      · exact ht
      · rw [Heap.set_of_not_mem ht] at h1
        have := (hs.blk _ _ h1).1
        omega
    rw [Heap.set_of_mem ht] at h1
    have := st.new l e h1 hn
    exact ⟨Nat.lt_of_lt_of_le this.1 hnx, fun hh => (this.2 ((heq.hb _).1 hh)).imp id (hblocks _)⟩
  · simp only [List.mem_append]
theorem slIteK_ok {R : Type} {t : E} {s1 s2 : Sl} : ∀ (lv : List Nat) (K : Sl → R), ∃ sl, slIteK t s1 s2 lv K = K sl ∧ ∀ n v, sl.get n = some v → ∃ v1 v2, s1.get n = some v1 ∧ s2.get n = some v2 ∧ svIte t v1 v2 = some v
  | [], K => ⟨.nil, rfl, fun n v h => by rw [Sl.get_nil] at h; cases h⟩
  | m :: r, K => by
    simp only [slIteK]
    obtain ⟨sl, h1, h2⟩ := slIteK_ok (t := t) (s1 := s1) (s2 := s2) r (slIte1 t s1 s2 m K)
    rw [h1]
    unfold slIte1
    split
    · rename_i v1 v2 hv1 hv2
      split
      · rename_i x hx
        rw [SV.deepK_eq]
        refine ⟨_, rfl, fun n v hv => ?_⟩
        rcases Sl.get_put sl m n x v hv with ⟨rfl, rfl⟩ | ⟨_, h⟩
        · exact ⟨v1, v2, hv1, hv2, hx⟩
        · exact h2 n v h
      · exact ⟨sl, rfl, h2⟩
    · exact ⟨sl, rfl, h2⟩
theorem memN_iff {l : Nat} : ∀ {r : List Nat}, memN l r = true → l ∈ r
  | [], h => by cases h
  | x :: r, h => by
    unfold memN at h
    split at h
    · rename_i hb; rw [Nat.eq_of_beq_eq_true hb]; exact List.mem_cons_self ..
    · exact List.mem_cons_of_mem _ (memN_iff h)
def SetOk (t : E) (nx0 : Nat) (h0 h1 h2 : T Ent) (p : Nat × Ent) : Prop :=
  (p.1 < nx0 → ∃ x0, h0.get p.1 = some x0 ∧ x0.wr = true) ∧ ∃ a b, h1.get p.1 = some a ∧ h2.get p.1 = some b ∧ entIte t a b = some p.2
theorem setsIteK_ok {R : Type} {t : E} {nx0 : Nat} {h0 h1 h2 : T Ent} {g1 g2 : List Nat} : ∀ (l : List Nat) (acc : Sets) (fail : R) (K : Sets → R), (∀ p ∈ acc, SetOk t nx0 h0 h1 h2 p) →
    setsIteK t nx0 h0 h1 h2 g1 g2 l acc fail K = fail ∨ ∃ sets, setsIteK t nx0 h0 h1 h2 g1 g2 l acc fail K = K sets ∧ (∀ p ∈ sets, SetOk t nx0 h0 h1 h2 p) ∧ (∀ x ∈ acc.labels, x ∈ sets.labels) ∧ ∀ x ∈ l, x < nx0 → x ∈ sets.labels
  | [], acc, fail, K, hacc => .inr ⟨acc, rfl, hacc, fun _ h => h, fun _ h => by cases h⟩
  | l :: r, acc, fail, K, hacc => by
    have put : ∀ (a b x : Ent), (l < nx0 → ∃ x0, h0.get l = some x0 ∧ x0.wr = true) → h1.get l = some a → h2.get l = some b → entIte t a b = some x →
        setsIteK t nx0 h0 h1 h2 g1 g2 r ((l, x) :: acc) fail K = fail ∨ ∃ sets, setsIteK t nx0 h0 h1 h2 g1 g2 r ((l, x) :: acc) fail K = K sets ∧ (∀ p ∈ sets, SetOk t nx0 h0 h1 h2 p) ∧ (∀ x ∈ acc.labels, x ∈ sets.labels) ∧ ∀ x ∈ l :: r, x < nx0 → x ∈ sets.labels := by
      intro a b x hold ha hb hx
      rcases setsIteK_ok r ((l, x) :: acc) fail K (fun p hp => by
        rcases List.mem_cons.1 hp with rfl | hp
        · exact ⟨hold, a, b, ha, hb, hx⟩
        · exact hacc p hp) with h | ⟨sets, h, i1, i2, i3⟩
      · exact .inl h
      · refine .inr ⟨sets, h, i1, fun y hy => i2 y (List.mem_cons_of_mem _ hy), fun y hy hn => ?_⟩
        rcases List.mem_cons.1 hy with rfl | hy
        · exact i2 _ (List.mem_cons_self ..)
        · exact i3 y hy hn
    have skip : (l < nx0 → l ∈ acc.labels) → setsIteK t nx0 h0 h1 h2 g1 g2 r acc fail K = fail ∨ ∃ sets, setsIteK t nx0 h0 h1 h2 g1 g2 r acc fail K = K sets ∧ (∀ p ∈ sets, SetOk t nx0 h0 h1 h2 p) ∧ (∀ x ∈ acc.labels, x ∈ sets.labels) ∧ ∀ x ∈ l :: r, x < nx0 → x ∈ sets.labels := by
      intro hin
      rcases setsIteK_ok r acc fail K hacc with h | ⟨sets, h, i1, i2, i3⟩
      · exact .inl h
      · refine .inr ⟨sets, h, i1, i2, fun y hy hn => ?_⟩
        rcases List.mem_cons.1 hy with rfl | hy
        · exact i2 _ (hin hn)
        · exact i3 y hy hn
    cases hm : memN l acc.labels with
    | true => simp only [setsIteK, hm]; exact skip fun _ => memN_iff hm
    | false =>
      cases hlt : Nat.blt l nx0 with
      | true =>
        simp only [setsIteK, hm, hlt]
        split
        · rename_i b0 hb0
          split
          · rename_i a b ha hb
            split
            · rename_i x hx
              rw [entK_eq]
              exact put a b x (fun _ => ⟨_, hb0, rfl⟩) ha hb hx
            · exact .inl rfl
          · exact .inl rfl
        · exact .inl rfl
      | false =>
        simp only [setsIteK, hm, hlt]
        have hge : ¬ l < nx0 := by
          intro h
          have : Nat.blt l nx0 = true := by rw [Nat.blt_eq]; exact h
          rw [this] at hlt
          cases hlt
        split
        · rename_i a b ha hb
          split
          · rename_i x hx
            rw [entK_eq]
            exact put a b x (fun h => absurd h hge) ha hb hx
          · exact skip fun h => absurd h hge
        · exact skip fun h => absurd h hge
/-- A state that stands for two. -/
def Two (s0 : S) (t : E) (a b m : S) : Prop := ∀ (Δ : Dv) (ρ : Env) (β β' : Lab) (nt : Nat) (a' : Act) (w w' : World), SatH ρ β s0.nx s0.heap.get w →
  (t.den ρ ≠ 0 → Goes Δ ρ β nt s0 w β' a a' w' → ∃ β2, Goes Δ ρ β nt s0 w β2 m a' w') ∧ (t.den ρ = 0 → Goes Δ ρ β nt s0 w β' b a' w' → ∃ β2, Goes Δ ρ β nt s0 w β2 m a' w')
theorem maxK_ok {R : Type} (a b : Nat) (K : Nat → R) : ∃ n, maxK a b K = K n ∧ a ≤ n ∧ b ≤ n := by
  unfold maxK
  split
  · rename_i h; exact ⟨b, natK_eq _ _, Nat.le_of_ble_eq_true h, Nat.le_refl _⟩
  · rename_i h
    refine ⟨a, natK_eq _ _, Nat.le_refl _, ?_⟩
    rcases Nat.le_total a b with h' | h'
    · rw [Nat.ble_eq_true_of_le h'] at h; cases h
    · exact h'
theorem stIte1K_ok {R : Type} (lv : List Nat) (s0 : S) (t : E) (a b : S) (fail : R) (K : S → R) : stIte1K lv s0 t a b fail K = fail ∨ ∃ m, stIte1K lv s0 t a b fail K = K m ∧ Two s0 t a b m := by
  unfold stIte1K
  rcases setsIteK_ok (t := t) (nx0 := s0.nx) (h0 := s0.heap) (h1 := a.heap) (h2 := b.heap) (g1 := a.log) (g2 := b.log) (a.log ++ b.log) [] fail _ (fun _ h => by cases h) with h | ⟨sets, h, i1, _, i3⟩
  · exact .inl h
  · rw [h]
    obtain ⟨sl, h2, h3⟩ := slIteK_ok (t := t) (s1 := a.slots) (s2 := b.slots) lv fun sl => putSetsK s0.heap sets fun heap => logK sets s0.log fun log => maxK a.nx b.nx fun nx => K ⟨sl, heap, nx, log⟩
    rw [h2, putSetsK_eq, logK_eq]
    obtain ⟨nx, h4, h5, h6⟩ := maxK_ok a.nx b.nx fun nx => K ⟨sl, putSets s0.heap sets, nx, sets.labels ++ s0.log⟩
    refine .inr ⟨_, h4, fun Δ ρ β β' nt a' w w' hs => ⟨fun ht hg => ?_, fun ht hg => ?_⟩⟩
    · refine ⟨β', half hs hg (fun n v hv => ?_) (fun p hp => ?_) (fun l hl hn => i3 l (List.mem_append_left _ hl) hn) h5⟩
      · obtain ⟨v1, v2, e1, e2, e3⟩ := h3 n v hv
        have := svIte_ok (ρ := ρ) e3
        exact ⟨v1, e1, this.yes ht, this.ba⟩
      · obtain ⟨h7, x, y, e1, e2, e3⟩ := i1 p hp
        exact ⟨⟨x, e1, (entIte_ok e3).1 ht⟩, h7⟩
    · refine ⟨β', half hs hg (fun n v hv => ?_) (fun p hp => ?_) (fun l hl hn => i3 l (List.mem_append_right _ hl) hn) h6⟩
      · obtain ⟨v1, v2, e1, e2, e3⟩ := h3 n v hv
        have := svIte_ok (ρ := ρ) e3
        exact ⟨v2, e2, this.no ht, this.bb⟩
      · obtain ⟨h7, x, y, e1, e2, e3⟩ := i1 p hp
        exact ⟨⟨y, e2, (entIte_ok e3).2 ht⟩, h7⟩
/-- Some cells are values of which no more is known. -/
inductive Gen : Nat → List CV → List CV → Nat → Prop
  | nil {q : Nat} : Gen q [] [] q
  | keep {q q' : Nat} {c : CV} {r r' : List CV} : Gen q r r' q' → Gen q (c :: r) (c :: r') q'
  | opq {q q' : Nat} {c : CV} {r r' : List CV} : Gen (q + 1) r r' q' → Gen q (c :: r) (.opq q :: r') q'
theorem Gen.le {q q' : Nat} {cs cs' : List CV} (h : Gen q cs cs' q') : q ≤ q' := by
  induction h with
  | nil => exact Nat.le_refl _
  | keep _ ih => exact ih
  | opq _ ih => omega
theorem Gen.den {ρ : Env} {q q' : Nat} {cs cs' : List CV} (h : Gen q cs cs' q') : ∀ β : Lab, (∀ c ∈ cs, CV.below q c) → ∃ β2 : Lab, β.agree q β2 ∧ (∀ l, β2.b l = β.b l) ∧ cs'.map (CV.den ρ β2) = cs.map (CV.den ρ β) ∧ ∀ c ∈ cs', CV.below q' c := by
  induction h with
  | nil => exact fun β _ => ⟨β, Lab.agree_refl _ _, fun _ => rfl, rfl, fun c hc => (by cases hc)⟩
  | @keep q q' c r r' h ih =>
    intro β hb
    obtain ⟨β2, h1, h2, h3, h4⟩ := ih β fun c hc => hb c (List.mem_cons_of_mem _ hc)
    have hc := hb c (List.mem_cons_self ..)
    refine ⟨β2, h1, h2, by rw [List.map_cons, List.map_cons, h3, CV.den_agree h1 hc], fun x hx => ?_⟩
    rcases List.mem_cons.1 hx with rfl | hx
    · exact CV.below_mono h.le hc
    · exact h4 x hx
  | @opq q q' c r r' h ih =>
    intro β hb
    have hc := hb c (List.mem_cons_self ..)
    let β1 : Lab := ⟨β.b, fun i => if i = q then c.den ρ β else β.o i⟩
    have hag : β.agree q β1 := by
      intro l hl
      have : l ≠ q := by omega
      exact ⟨rfl, by simp only [β1, this, if_false]⟩
    have hr : ∀ x ∈ r, CV.below q x := fun x hx => hb x (List.mem_cons_of_mem _ hx)
    obtain ⟨β2, h1, h2, h3, h4⟩ := ih β1 fun x hx => CV.below_mono (Nat.le_succ q) (hr x hx)
    refine ⟨β2, Lab.agree_trans hag (Nat.le_succ q) h1, fun l => h2 l, ?_, fun x hx => ?_⟩
    · rw [List.map_cons, List.map_cons, h3, List.map_congr_left fun x hx => CV.den_agree hag (hr x hx)]
      have : CV.den ρ β2 (.opq q) = c.den ρ β := by
        simp only [CV.den, (h1 q (Nat.lt_succ_self q)).2, β1, if_true]
      rw [this]
    · rcases List.mem_cons.1 hx with rfl | hx
      · exact h.le
      · exact h4 x hx
theorem genCvs_ok {t : E} : ∀ {q : Nat} {a b : List CV} {q' : Nat} {x y : List CV}, genCvs t q a b = some (q', x, y) → Gen q a x q' ∧ Gen q b y q'
  | q, [], [], q', x, y, h => by cases h; exact ⟨.nil, .nil⟩
  | q, [], _ :: _, q', x, y, h => by cases h
  | q, _ :: _, [], q', x, y, h => by cases h
  | q, a :: r, b :: r', q', x, y, h => by
    simp only [genCvs] at h
    split at h
    · split at h
      · rename_i h1
        cases h
        have ih := genCvs_ok h1
        exact ⟨.keep ih.1, .keep ih.2⟩
      · cases h
    · split at h
      · rename_i h1
        cases h
        have ih := genCvs_ok h1
        exact ⟨.opq ih.1, .opq ih.2⟩
      · cases h
theorem Sets.find_snoc (l : Nat) (x : Ent) (l' : Nat) : ∀ t : Sets, (t ++ [(l, x)]).find l' = if l' = l then some x else t.find l'
  | [] => by
    simp only [List.nil_append, Sets.find]
    by_cases h : l' = l
    · simp [h]
    · have : Nat.beq l' l = false := by
        cases hb : Nat.beq l' l
        · rfl
        · exact absurd (Nat.eq_of_beq_eq_true hb) h
      simp [h, this]
  | (a, y) :: r => by
    simp only [List.cons_append, Sets.find, Sets.find_snoc l x l' r]
    by_cases h : l' = l
    · simp [h]
    · simp [h]
theorem gen_ok {Δ : Dv} {ρ : Env} {β β' : Lab} {nt : Nat} {s0 s1 : S} {a' : Act} {w w' : World} (hs : SatH ρ β s0.nx s0.heap.get w) (hg : Goes Δ ρ β nt s0 w β' s1 a' w') {l : Nat} {wr : Bool} {cs cs' : List CV} {ty : TypeId} {q q' : Nat}
    (hl : s1.heap.get l = some ⟨wr, .cells cs ty⟩) (hlt : l < s0.nx) (hold : ∃ x0, s0.heap.get l = some x0 ∧ x0.wr = true) (hq : s1.nx ≤ q) (hrel : Gen q cs cs' q') :
    ∃ β2, Goes Δ ρ β nt s0 w β2 ⟨s1.slots, T.put 40 s1.heap l ⟨wr, .cells cs' ty⟩, q', l :: s1.log⟩ a' w' := by
  obtain ⟨t, st, hlog, hsub⟩ := hg.step
  have hent := hg.sat.sh.blk l _ hl
  obtain ⟨β2, h1, h2, h3, h4⟩ := hrel.den (ρ := ρ) β' fun c hc => CV.below_mono hq (hent.2.1 c hc)
  have hag : β'.agree s1.nx β2 := Lab.agree_mono h1 hq
  have hle : s1.nx ≤ q' := Nat.le_trans hq hrel.le
  have hfind := Sets.find_snoc l ⟨wr, .cells cs' ty⟩
  have hset : ∀ l' x, (Heap.set s0.heap.get (t ++ [(l, ⟨wr, .cells cs' ty⟩)])) l' = some x → (l' = l ∧ x = ⟨wr, .cells cs' ty⟩) ∨ (l' ≠ l ∧ (Heap.set s0.heap.get t) l' = some x) := by
    intro l' x hx
    unfold Heap.set at hx ⊢
    rw [hfind] at hx
    by_cases e : l' = l
    · rw [if_pos e] at hx
      simp only [Option.some.injEq] at hx
      exact .inl ⟨e, hx.symm⟩
    · rw [if_neg e] at hx
      exact .inr ⟨e, hx⟩
  have hl0 : (Heap.set s0.heap.get t) l = some ⟨wr, .cells cs ty⟩ := hsub _ _ hl
  have hsat : SatH ρ β2 q' (Heap.set s0.heap.get (t ++ [(l, ⟨wr, .cells cs' ty⟩)])) w' := by
    refine ⟨fun l' x hx => ?_, fun l1 l2 x1 x2 hx1 hx2 hne hw hb1 hb2 => ?_⟩
    · rcases hset l' x hx with ⟨rfl, rfl⟩ | ⟨_, hx⟩
      · refine ⟨Nat.lt_of_lt_of_le hent.1 hle, h4, fun hh => ?_, ?_⟩
        · rw [h2]
          exact hent.2.2.1 hh
        · have := hent.2.2.2
          simp only [Blk.sat] at this ⊢
          rw [h2, this, h3]
      · obtain ⟨b1, b2, b3, b4⟩ := st.sat.blk l' x hx
        refine ⟨Nat.lt_of_lt_of_le b1 hle, Blk.below_mono hle b2, fun hh => ?_, ?_⟩
        · rw [h2]
          exact b3 ((Blk.hb_agree hag b2).1 hh)
        · rw [h2]
          exact Blk.sat_keep b2 hag (fun _ => rfl) b4
    · rw [h2, h2]
      have conv : ∀ l' x, (Heap.set s0.heap.get (t ++ [(l, ⟨wr, .cells cs' ty⟩)])) l' = some x → ∃ y, (Heap.set s0.heap.get t) l' = some y ∧ y.wr = x.wr ∧ (x.blk.hb β2 → y.blk.hb β') := by
        intro l' x hx
        rcases hset l' x hx with ⟨rfl, rfl⟩ | ⟨_, hx⟩
        · exact ⟨_, hl0, rfl, fun _ => trivial⟩
        · exact ⟨x, hx, rfl, fun hh => (Blk.hb_agree hag (st.sat.blk l' x hx).2.1).1 hh⟩
      obtain ⟨y1, e1, e2, e3⟩ := conv l1 x1 hx1
      obtain ⟨y2, f1, f2, f3⟩ := conv l2 x2 hx2
      exact st.sat.inj l1 l2 y1 y2 e1 f1 hne (by rw [e2, f2]; exact hw) (e3 hb1) (f3 hb2)
  have hblocks : ∀ k, t.blocks β s0.nx s0.heap.get k → Sets.blocks (t ++ [(l, ⟨wr, .cells cs' ty⟩)]) β s0.nx s0.heap.get k := by
    rintro k ⟨l', a1, a2, a3, a4⟩
    exact ⟨l', by rw [Sets.labels_append]; exact List.mem_append_left _ a1, a2, a3, a4⟩
  refine ⟨β2, ⟨⟨⟨fun n v hv => ?_, hg.sat.sa.defers⟩, hg.sat.sz, hsat.sub fun l' x hx => ?_⟩, t ++ [(l, ⟨wr, .cells cs' ty⟩)], ⟨Nat.le_trans st.le hle, Lab.agree_trans st.agree st.le hag, hsat, st.frm.mono fun k _ hk => hblocks k hk, fun l' x hx hn => ?_, fun l' x hx hn => ?_⟩, fun l' => ?_, fun l' x hx => ?_⟩⟩
  · obtain ⟨b1, b2⟩ := hg.sat.sa.slot n v hv
    exact ⟨SV.below_mono hle b1, by rw [b2, SV.den_agree hag b1]⟩
  · unfold Heap.set
    rw [hfind]
    rcases T.get_put 40 s1.heap l l' _ x hx with ⟨rfl, rfl⟩ | ⟨hne, hx⟩
    · simp
    · rw [if_neg hne]
      exact hsub _ _ hx
  · rw [hfind] at hx
    by_cases e : l' = l
    · subst e
      rw [if_pos rfl] at hx
      cases hx
      obtain ⟨x0, g1, g2⟩ := hold
      refine ⟨x0, g1, g2, fun _ => ?_⟩
      by_cases hm : l' ∈ t.labels
      · rw [Heap.set_of_mem hm] at hl0
        obtain ⟨y, hy, _, hyh⟩ := st.own l' _ hl0 hn
        rw [g1] at hy
        cases hy
        exact hyh trivial
      · rw [Heap.set_of_not_mem hm] at hl0
        rw [g1] at hl0
        cases hl0
        trivial
    · rw [if_neg e] at hx
      obtain ⟨y, g1, g2, g3⟩ := st.own l' x hx hn
      have hb := (st.sat.blk l' x (by rw [Heap.set_of_mem (Sets.find_mem hx)]; exact hx)).2.1
      exact ⟨y, g1, g2, fun hh => g3 ((Blk.hb_agree hag hb).1 hh)⟩
  · rw [hfind] at hx
    by_cases e : l' = l
    · omega
    · rw [if_neg e] at hx
      have hb := (st.sat.blk l' x (by rw [Heap.set_of_mem (Sets.find_mem hx)]; exact hx)).2.1
      obtain ⟨g1, g2⟩ := st.new l' x hx hn
      refine ⟨Nat.lt_of_lt_of_le g1 hle, fun hh => ?_⟩
      rw [h2]
      exact (g2 ((Blk.hb_agree hag hb).1 hh)).imp id (hblocks _)
  · rw [List.mem_cons, hlog, Sets.labels_append, List.mem_append]
    simp only [Sets.labels, List.map_cons, List.map_nil, List.mem_singleton]
    constructor
    · rintro (h | h | h)
      · exact .inl (.inr h)
      · exact .inl (.inl h)
      · exact .inr h
    · rintro ((h | h) | h)
      · exact .inr (.inl h)
      · exact .inl h
      · exact .inr (.inr h)
  · unfold Heap.set
    rw [hfind]
    rcases T.get_put 40 s1.heap l l' _ x hx with ⟨rfl, rfl⟩ | ⟨hne, hx⟩
    · simp
    · rw [if_neg hne]
      exact hsub _ _ hx
/-- A state of which less is said. -/
def Less (s0 a a2 : S) : Prop := ∀ (Δ : Dv) (ρ : Env) (β β' : Lab) (nt : Nat) (a' : Act) (w w' : World), SatH ρ β s0.nx s0.heap.get w → Goes Δ ρ β nt s0 w β' a a' w' → ∃ β2, Goes Δ ρ β nt s0 w β2 a2 a' w'
theorem Less.refl (s0 a : S) : Less s0 a a := fun _ _ _ β' _ _ _ _ _ h => ⟨β', h⟩
theorem Less.trans {s0 a b c : S} (h : Less s0 a b) (h' : Less s0 b c) : Less s0 a c := fun Δ ρ β β' nt a' w w' hs hg => by
  obtain ⟨β2, hg2⟩ := h Δ ρ β β' nt a' w w' hs hg
  exact h' Δ ρ β β2 nt a' w w' hs hg2
theorem maxK_all (a b : Nat) : ∃ n, a ≤ n ∧ b ≤ n ∧ ∀ {R : Type} (K : Nat → R), maxK a b K = K n := by
  cases h : Nat.ble a b with
  | true => exact ⟨b, Nat.le_of_ble_eq_true h, Nat.le_refl _, fun K => by unfold maxK; rw [h]; exact natK_eq _ _⟩
  | false =>
    refine ⟨a, Nat.le_refl _, ?_, fun K => by unfold maxK; rw [h]; exact natK_eq _ _⟩
    rcases Nat.le_total a b with h' | h'
    · rw [Nat.ble_eq_true_of_le h'] at h; cases h
    · exact h'
theorem genK_ok {R : Type} {t : E} {s0 : S} : ∀ (l : List Nat) (a b : S) (K : S → S → R), ∃ a2 b2, genK t s0.nx s0.heap l a b K = K a2 b2 ∧ Less s0 a a2 ∧ Less s0 b b2
  | [], a, b, K => ⟨a, b, rfl, Less.refl _ _, Less.refl _ _⟩
  | l :: r, a, b, K => by
    simp only [genK]
    split
    · rename_i hlt hx0 ha hb
      obtain ⟨q, hq1, hq2, hq⟩ := maxK_all a.nx b.nx
      rw [hq]
      split
      · rename_i q' x y hgen
        obtain ⟨g1, g2⟩ := genCvs_ok hgen
        simp only [natK_eq, entK_eq]
        have hlt' : l < s0.nx := by rwa [Nat.blt_eq] at hlt
        obtain ⟨a2, b2, e, h1, h2⟩ := genK_ok (t := t) (s0 := s0) r ⟨a.slots, T.put 40 a.heap l ⟨_, .cells x _⟩, q', l :: a.log⟩ ⟨b.slots, T.put 40 b.heap l ⟨_, .cells y _⟩, q', l :: b.log⟩ K
        refine ⟨a2, b2, e, Less.trans (fun Δ ρ β β' nt a' w w' hs hg => gen_ok hs hg ha hlt' ⟨_, hx0, rfl⟩ hq1 g1) h1, Less.trans (fun Δ ρ β β' nt a' w w' hs hg => gen_ok hs hg hb hlt' ⟨_, hx0, rfl⟩ hq2 g2) h2⟩
      · exact genK_ok r a b K
    · exact genK_ok r a b K
theorem stIteK_ok {R : Type} (lv : List Nat) (s0 : S) (t : E) (a b : S) (fail : R) (K : S → R) : stIteK lv s0 t a b fail K = fail ∨ ∃ m, stIteK lv s0 t a b fail K = K m ∧ Two s0 t a b m := by
  unfold stIteK
  obtain ⟨a2, b2, e, h1, h2⟩ := genK_ok (t := t) (s0 := s0) (a.log ++ b.log) a b fun a b => stIte1K lv s0 t a b fail K
  rw [e]
  rcases stIte1K_ok lv s0 t a b (stIte1K lv s0 t a2 b2 fail K) K with h | h
  · rw [h]
    rcases stIte1K_ok lv s0 t a2 b2 fail K with h | ⟨m, h, hm⟩
    · exact .inl h
    · refine .inr ⟨m, h, fun Δ ρ β β' nt a' w w' hs => ⟨fun ht hg => ?_, fun ht hg => ?_⟩⟩
      · obtain ⟨β2, hg2⟩ := h1 Δ ρ β β' nt a' w w' hs hg
        exact (hm Δ ρ β β2 nt a' w w' hs).1 ht hg2
      · obtain ⟨β2, hg2⟩ := h2 Δ ρ β β' nt a' w w' hs hg
        exact (hm Δ ρ β β2 nt a' w w' hs).2 ht hg2
  · exact .inr h
theorem exclE_ok {ρ : Env} {t x : E} (h : exclE t x = true) (hx : x.den ρ ≠ 0) : t.den ρ = 0 := by
  unfold exclE at h
  split at h
  · rename_i a n
    split at h
    · rename_i b m
      split at h
      · cases h
      · rename_i hne
        have hne := ieq_ne hne
        have hs := E.same_eq h
        subst hs
        have hb : a.den ρ = m := by
          by_cases hb : a.den ρ = m
          · exact hb
          · exfalso; simp [E.den, BO.den, hb] at hx
        simp [E.den, BO.den, hb, Ne.symm hne]
    · cases h
  · cases h
theorem splitW_ok {ρ : Env} {t : E} : ∀ {l p q : List Way}, splitW t l = some (p, q) → ∀ x ∈ l, (∀ y ∈ x.1, (y.1.den ρ ≠ 0 ↔ y.2 = true)) → ∃ x', x'.2 = x.2 ∧ (∀ y ∈ x'.1, (y.1.den ρ ≠ 0 ↔ y.2 = true)) ∧ ((t.den ρ ≠ 0 ∧ x' ∈ p) ∨ (t.den ρ = 0 ∧ x' ∈ q))
  | [], p, q, h, x, hx, _ => by cases hx
  | ([], s) :: r, p, q, h, x, hx, _ => by simp [splitW] at h
  | ((e, b) :: ts, s) :: r, p, q, h, x, hx, ht => by
    simp only [splitW] at h
    split at h
    · rename_i p' q' hs hr
      have hs := E.same_eq hs
      subst hs
      rcases List.mem_cons.1 hx with rfl | hx
      · have h1 := ht _ (List.mem_cons_self ..)
        refine ⟨(ts, s), rfl, fun y hy => ht y (List.mem_cons_of_mem _ hy), ?_⟩
        cases b with
        | true => cases h; exact .inl ⟨h1.2 rfl, List.mem_cons_self ..⟩
        | false =>
          cases h
          refine .inr ⟨?_, List.mem_cons_self ..⟩
          by_cases h0 : e.den ρ = 0
          · exact h0
          · exact absurd (h1.1 h0) (by simp)
      · obtain ⟨x', e1, e2, e3⟩ := splitW_ok hr x hx ht
        refine ⟨x', e1, e2, ?_⟩
        cases b with
        | true => cases h; exact e3.imp (fun h => ⟨h.1, List.mem_cons_of_mem _ h.2⟩) id
        | false => cases h; exact e3.imp id fun h => ⟨h.1, List.mem_cons_of_mem _ h.2⟩
    · rename_i p' q' hs hr
      cases b with
      | false => cases h
      | true =>
        simp only at h
        split at h
        · rename_i hex
          cases h
          rcases List.mem_cons.1 hx with rfl | hx
          · have h1 := ht _ (List.mem_cons_self ..)
            exact ⟨_, rfl, ht, .inr ⟨exclE_ok hex (h1.2 rfl), List.mem_cons_self ..⟩⟩
          · obtain ⟨x', e1, e2, e3⟩ := splitW_ok hr x hx ht
            exact ⟨x', e1, e2, e3.imp id fun h => ⟨h.1, List.mem_cons_of_mem _ h.2⟩⟩
        · cases h
    · cases h
/-- A state that stands for that of each way that is gone. -/
def Each (s0 : S) (l : List Way) (m : S) : Prop := ∀ (Δ : Dv) (ρ : Env) (β β' : Lab) (nt : Nat) (a' : Act) (w w' : World), SatH ρ β s0.nx s0.heap.get w →
  ∀ x ∈ l, (∀ y ∈ x.1, (y.1.den ρ ≠ 0 ↔ y.2 = true)) → Goes Δ ρ β nt s0 w β' x.2 a' w' → ∃ β2, Goes Δ ρ β nt s0 w β2 m a' w'
theorem mergeK_ok {R : Type} (lv : List Nat) (s0 : S) : ∀ (n : Nat) (l : List Way) (fail : R) (K : S → R), mergeK lv s0 n l fail K = fail ∨ ∃ m, mergeK lv s0 n l fail K = K m ∧ Each s0 l m
  | 0, l, fail, K => .inl rfl
  | n + 1, l, fail, K => by
    unfold mergeK
    split
    · exact .inl rfl
    · rename_i ts s
      refine .inr ⟨s, rfl, fun Δ ρ β β' nt a' w w' hs x hx _ hg => ?_⟩
      rw [List.mem_singleton.1 hx] at hg
      exact ⟨β', hg⟩
    · exact .inl rfl
    · rename_i t b ts s y r
      split
      · exact .inl rfl
      · rename_i q hsp
        rcases mergeK_ok lv s0 n q fail K with h | ⟨m, h, hm⟩
        · exact .inl h
        · refine .inr ⟨m, h, fun Δ ρ β β' nt a' w w' hs x hx ht hg => ?_⟩
          obtain ⟨x', e1, e2, e3⟩ := splitW_ok hsp x hx ht
          rcases e3 with ⟨_, e3⟩ | ⟨_, e3⟩
          · cases e3
          · exact hm Δ ρ β β' nt a' w w' hs x' e3 e2 (by rw [e1]; exact hg)
      · rename_i p h1 hsp
        rcases mergeK_ok lv s0 n p fail K with h | ⟨m, h, hm⟩
        · exact .inl h
        · refine .inr ⟨m, h, fun Δ ρ β β' nt a' w w' hs x hx ht hg => ?_⟩
          obtain ⟨x', e1, e2, e3⟩ := splitW_ok hsp x hx ht
          rcases e3 with ⟨_, e3⟩ | ⟨_, e3⟩
          · exact hm Δ ρ β β' nt a' w w' hs x' e3 e2 (by rw [e1]; exact hg)
          · cases e3
      · rename_i o p q h1 h2 hsp
        rcases mergeK_ok lv s0 n p fail fun a => mergeK lv s0 n q fail fun c => stIteK lv s0 t a c fail K with h | ⟨a, h, ha⟩
        · exact .inl h
        · rw [h]
          rcases mergeK_ok lv s0 n q fail fun c => stIteK lv s0 t a c fail K with h | ⟨c, h, hc⟩
          · exact .inl h
          · rw [h]
            rcases stIteK_ok lv s0 t a c fail K with h | ⟨m, h, hm⟩
            · exact .inl h
            · refine .inr ⟨m, h, fun Δ ρ β β' nt a' w w' hs x hx ht hg => ?_⟩
              obtain ⟨x', e1, e2, e3⟩ := splitW_ok hsp x hx ht
              rcases e3 with ⟨h0, e3⟩ | ⟨h0, e3⟩
              · obtain ⟨β2, hg2⟩ := ha Δ ρ β β' nt a' w w' hs x' e3 e2 (by rw [e1]; exact hg)
                exact (hm Δ ρ β β2 nt a' w w' hs).1 h0 hg2
              · obtain ⟨β2, hg2⟩ := hc Δ ρ β β' nt a' w w' hs x' e3 e2 (by rw [e1]; exact hg)
                exact (hm Δ ρ β β2 nt a' w w' hs).2 h0 hg2
theorem xkEq_eq {x y : XK} (h : xkEq x y = true) : x = y := by
  cases x <;> cases y <;> simp only [xkEq, Bool.false_eq_true] at h <;> first | rfl | (rw [Nat.eq_of_beq_eq_true h])
theorem newTs_ok {ρ : Env} {k0 k : Known} (h : Known.holds ρ k) : ∀ y ∈ newTs k0 k, (y.1.den ρ ≠ 0 ↔ y.2 = true) := by
  intro y hy
  unfold newTs at hy
  exact h.tr y (List.mem_of_mem_take (List.mem_reverse.1 hy))
theorem waysOf_ok {k0 : Known} {x : XK} : ∀ {outs : Outs} {ws : List Way}, waysOf k0 x outs = some ws → ∀ o ∈ outs, o.2.1 = x ∧ (newTs k0 o.1, o.2.2) ∈ ws
  | [], ws, h, o, ho => by cases ho
  | (k, y, s) :: r, ws, h, o, ho => by
    simp only [waysOf] at h
    split at h
    · rename_i l hx hl
      cases h
      rcases List.mem_cons.1 ho with rfl | ho
      · exact ⟨(xkEq_eq hx).symm, List.mem_cons_self ..⟩
      · have := waysOf_ok hl o ho
        exact ⟨this.1, List.mem_cons_of_mem _ this.2⟩
    · cases h
theorem mergeOuts_ok (lv : List Nat) (k0 : Known) (s0 : S) (outs : Outs) : mergeOuts lv k0 s0 outs = some outs ∨ ∃ x m, mergeOuts lv k0 s0 outs = some [(k0, x, m)] ∧ ∀ o ∈ outs, o.2.1 = x ∧ ∀ (ρ : Env), Known.holds ρ o.1 → ∀ (Δ : Dv) (β β' : Lab) (nt : Nat) (a' : Act) (w w' : World), SatH ρ β s0.nx s0.heap.get w →
    Goes Δ ρ β nt s0 w β' o.2.2 a' w' → ∃ β2, Goes Δ ρ β nt s0 w β2 m a' w' := by
  unfold mergeOuts
  split
  · rename_i k x s y r
    split
    · rename_i ws hws
      rcases mergeK_ok lv s0 40 ws (some ((k, x, s) :: y :: r)) fun m => some [(k0, x, m)] with h | ⟨m, h, hm⟩
      · exact .inl h
      · refine .inr ⟨x, m, h, fun o ho => ?_⟩
        obtain ⟨h1, h2⟩ := waysOf_ok hws o ho
        exact ⟨h1, fun ρ hk Δ β β' nt a' w w' hs hg => hm Δ ρ β β' nt a' w w' hs _ h2 (newTs_ok hk) hg⟩
    · exact .inl rfl
  · exact .inl rfl
end
end Go.Sx
/-
  SX: ROUNDS OF A LOOP OVER A FUNCTION: the loop's record turns, what the round's code does is as it would be.
-/
namespace Go.Sx
set_option linter.unusedSimpArgs false
set_option linter.unusedVariables false
set_option linter.unusedSectionVars false
noncomputable section
/-- What is no block of cells. -/
def noCells : Obj → Bool
  | .cells .. => false
  | _ => true
theorem fz_put {w : World} {k : Nat} {o o' : Obj} (h : w.heap[k]? = some o) (ho : noCells o = true) (ho' : noCells o' = true) (a : Addr) : (w.putObj k o').frozen? a = w.frozen? a := by
  unfold World.frozen?
  by_cases hk : a.block = k
  · rw [hk, World.putObj_heap_same (Array.getElem?_eq_some_iff.1 h).1, h]
    cases o <;> cases o' <;> simp_all [noCells]
  · rw [World.putObj_heap_other hk]
theorem Step.put {ρ : Env} {β β' : Lab} {n n' : Nat} {h : Heap} {w w' : World} {s : Sets} {b : Nat} {o o1 : Obj} (st : Step ρ β n h w s β' n' w') (hs : SatH ρ β n h w) (hb : w.heap[b]? = some o) (ho : noCells o = true) (ho1 : noCells o1 = true)
    (hno : ∀ l x, h l = some x → x.blk.hb β → β.b l ≠ b) : Step ρ β n h (w.putObj b o1) s β' n' (w'.putObj b o1) ∧ w'.heap[b]? = some o := by
  have hlt : b < w.heap.size := (Array.getElem?_eq_some_iff.1 hb).1
  have hnb : ¬ s.blocks β n h b := by
    rintro ⟨l, _, _, ⟨x, hx, hh⟩, e⟩
    exact hno l x hx hh e
  have hb' : w'.heap[b]? = some o := by rw [st.frm.old b hlt hnb, hb]
  have new_ne : ∀ l x, (h.set s) l = some x → x.blk.hb β' → β'.b l ≠ b := by
    intro l x hl hh
    by_cases hm : l ∈ s.labels
    · rw [Heap.set_of_mem hm] at hl
      by_cases hn : l < n
      · obtain ⟨y, hy, _, hyh⟩ := st.own l x hl hn
        rw [(st.agree l hn).1]
        exact hno l y hy (hyh hh)
      · rcases (st.new l x hl (by omega)).2 hh with h1 | ⟨l', _, _, ⟨y, hy, hyh⟩, he⟩
        · omega
        · rw [← he]
          exact hno l' y hy hyh
    · rw [Heap.set_of_not_mem hm] at hl
      have h1 := hs.blk l x hl
      rw [(st.agree l h1.1).1]
      exact hno l x hl ((Blk.hb_agree st.agree h1.2.1).1 hh)
  refine ⟨⟨st.le, st.agree, ⟨fun l x hl => ?_, st.sat.inj⟩, ⟨st.frm.os, st.frm.tape, st.frm.output, ?_, fun k hk hn => ?_, fun a => ?_⟩, st.own, fun l x hl hn => ?_⟩, hb'⟩
  · obtain ⟨a1, a2, a3, a4⟩ := st.sat.blk l x hl
    refine ⟨a1, a2, fun hh => ?_, Blk.sat_keep a2 (Lab.agree_refl _ _) (fun hh => ?_) a4⟩
    · rw [World.putObj_size]
      exact a3 hh
    · rw [World.putObj_heap_other (new_ne l x hl hh)]
  · simp only [World.putObj_size]
    exact st.frm.size
  · rw [World.putObj_size] at hk
    by_cases e : k = b
    · subst e
      rw [World.putObj_heap_same hk, World.putObj_heap_same (Nat.lt_of_lt_of_le hk st.frm.size)]
    · rw [World.putObj_heap_other e, World.putObj_heap_other e]
      exact st.frm.old k hk hn
  · rw [fz_put hb' ho ho1, fz_put hb ho ho1, st.frm.fz]
  · rw [World.putObj_size]
    exact st.new l x hl hn
/-- A label of which nothing is known is left out. -/
theorem Step.drop {ρ : Env} {β β' : Lab} {n n' : Nat} {h h1 : Heap} {w w' : World} {s : Sets} (st : Step ρ β n h w s β' n' w') (hs : SatH ρ β n h w) {l : Nat} (hl : h l = some ⟨false, .dead⟩) (h1o : ∀ k, k ≠ l → h1 k = h k) (h1l : h1 l = none) : Step ρ β n h1 w s β' n' w' := by
  have hln : l < n := (hs.blk l _ hl).1
  have hnot : l ∉ s.labels := fun hm => by
    obtain ⟨x, hx⟩ := Sets.mem_find hm
    obtain ⟨y, hy, hw, _⟩ := st.own l x hx hln
    rw [hl] at hy
    cases hy
    cases hw
  have blocks : ∀ k, s.blocks β n h k → s.blocks β n h1 k := by
    rintro k ⟨l', a1, a2, ⟨x, hx, hh⟩, a3⟩
    have hne : l' ≠ l := by
      rintro rfl
      rw [hl] at hx
      cases hx
      exact hh
    exact ⟨l', a1, a2, ⟨x, by rw [h1o l' hne]; exact hx, hh⟩, a3⟩
  refine ⟨st.le, st.agree, st.sat.sub fun k x hx => ?_, st.frm.mono fun k _ hk => blocks k hk, fun k x hk hn => ?_, fun k x hk hn => ?_⟩
  · by_cases e : k = l
    · subst e
      rw [Heap.set_of_not_mem hnot, h1l] at hx
      cases hx
    · unfold Heap.set at hx ⊢
      rw [h1o k e] at hx
      exact hx
  · obtain ⟨y, hy, a1, a2⟩ := st.own k x hk hn
    refine ⟨y, ?_, a1, a2⟩
    rw [h1o k (fun e => hnot (e ▸ Sets.find_mem hk)), hy]
  · obtain ⟨a1, a2⟩ := st.new k x hk hn
    exact ⟨a1, fun hh => (a2 hh).imp id (blocks _)⟩
theorem putObj_back {w : World} {b : Nat} {o o' : Obj} (h : w.heap[b]? = some o) : (w.putObj b o').putObj b o = w := by
  obtain ⟨hlt, he⟩ := Array.getElem?_eq_some_iff.1 h
  have : ((w.heap.setIfInBounds b o').setIfInBounds b o) = w.heap := by
    apply Array.ext_getElem?
    intro i
    by_cases e : i = b
    · subst e
      simp [hlt, he]
    · rw [Array.getElem?_setIfInBounds_ne (Ne.symm e), Array.getElem?_setIfInBounds_ne (Ne.symm e)]
  show { ({ w with heap := w.heap.setIfInBounds b o' } : World) with heap := (w.heap.setIfInBounds b o').setIfInBounds b o } = w
  rw [this]

/-! ### the round's slots -/
theorem slotsOf_ok {n : Nat} {ρ : Env} {β : Lab} {tm : Array Value} : ∀ (ts : List Tmp) (cs : List CV) (sl : Sl), (∀ t v, sl.get t = some v → v.below n ∧ tm[t]? = some (v.den ρ β)) → (∀ c ∈ cs, CV.below n c) →
    (∀ (j : Nat) (t : Tmp) (u : Value), ts[j]? = some t → (cs.map (CV.den ρ β))[j]? = some u → tm[t]? = some u) → ∀ t v, (slotsOf ts cs sl).get t = some v → v.below n ∧ tm[t]? = some (v.den ρ β)
  | [], _, sl, hsl, _, _, t, v, h => hsl t v h
  | _ :: _, [], sl, hsl, _, _, t, v, h => hsl t v h
  | t0 :: ts, c0 :: cs, sl, hsl, hb, hj, t, v, h => by
    refine slotsOf_ok ts cs _ (fun t v ht => ?_) (fun c hc => hb c (List.mem_cons_of_mem _ hc)) (fun j t u h1 h2 => hj (j + 1) t u h1 h2) t v h
    rcases Sl.get_put sl t0 t _ v ht with ⟨rfl, rfl⟩ | ⟨_, ht⟩
    · exact ⟨hb c0 (List.mem_cons_self ..), hj 0 _ _ rfl rfl⟩
    · exact hsl t v ht
theorem putParams_ok {n : Nat} {ρ : Env} {β : Lab} : ∀ (ps : List Tmp) (xs : List V1) (sl : Sl) (tm : Array Value), (∀ t v, sl.get t = some v → v.below n ∧ tm[t]? = some (v.den ρ β)) → (∀ x ∈ xs, V1.below n x) → (∀ p ∈ ps, p < tm.size) → ps.length = xs.length →
    ∀ t v, (putParams ps xs sl).get t = some v → v.below n ∧ ((ps.zip (xs.map (V1.den ρ β))).foldl (fun tm (p : Tmp × Value) => tm.setIfInBounds p.1 p.2) tm)[t]? = some (v.den ρ β)
  | [], [], sl, tm, hsl, _, _, _, t, v, h => hsl t v h
  | [], _ :: _, sl, tm, hsl, _, _, hl, t, v, h => by cases hl
  | _ :: _, [], sl, tm, hsl, _, _, hl, t, v, h => by cases hl
  | p :: ps, x :: xs, sl, tm, hsl, hb, hp, hl, t, v, h => by
    simp only [List.map_cons, List.zip_cons_cons, List.foldl_cons]
    refine putParams_ok ps xs _ _ (fun t v ht => ?_) (fun c hc => hb c (List.mem_cons_of_mem _ hc)) (fun q hq => ?_) (by simpa using hl) t v h
    · rcases Sl.get_put sl p t _ v ht with ⟨rfl, rfl⟩ | ⟨hne, ht⟩
      · refine ⟨hb x (List.mem_cons_self ..), ?_⟩
        have := hp t (List.mem_cons_self ..)
        simp [this]
        rfl
      · refine ⟨(hsl t v ht).1, ?_⟩
        rw [Array.getElem?_setIfInBounds_ne (Ne.symm hne)]
        exact (hsl t v ht).2
    · rw [Array.size_setIfInBounds]
      exact hp q (List.mem_cons_of_mem _ hq)
end
end Go.Sx
/-
  SX, PART 13: CODE, SOUND: calls, loops, everything but regions that draw their order, which are taken by a hypothesis here.
-/
namespace Go.Sx
set_option linter.unusedSimpArgs false
set_option linter.unusedVariables false
set_option linter.unusedSectionVars false
noncomputable section

theorem Step.reset {ρ : Env} {β β' : Lab} {n n' : Nat} {h : Heap} {w w' : World} {t E : Sets} (st : Step ρ β n h w t β' n' w') (hsat : SatH ρ β n h w) (hl : ∀ l, l ∈ E.labels → l ∈ t.labels) (hold : ∀ l, l ∈ t.labels → l < n → l ∈ E.labels)
    (hf : ∀ l x, E.find l = some x → (h.set t) l = some x) : Step ρ β n h w E β' n' w' := by
  have blocks : ∀ k, t.blocks β n h k → E.blocks β n h k := fun k ⟨l, hm, hn, hx, e⟩ => ⟨l, hold l hm hn, hn, hx, e⟩
  have fnd : ∀ l x, E.find l = some x → t.find l = some x := by
    intro l x hx
    have h1 := hf l x hx
    rwa [Heap.set_of_mem (hl l (Sets.find_mem hx))] at h1
  refine ⟨st.le, st.agree, st.sat.sub fun l x hx => ?_, st.frm.mono fun k _ hk => blocks k hk, fun l x hm hn => st.own l x (fnd l x hm) hn, fun l x hm hn => ?_⟩
  · by_cases hm : l ∈ E.labels
    · rw [Heap.set_of_mem hm] at hx
      exact hf l x hx
    · rw [Heap.set_of_not_mem hm] at hx
      have hln := (hsat.blk l x hx).1
      rw [Heap.set_of_not_mem (fun hh => hm (hold l hh hln))]
      exact hx
  · have := st.new l x (fnd l x hm) hn
    exact ⟨this.1, fun hh => (this.2 hh).imp id (blocks _)⟩
theorem find_cons_heap {heap : T Ent} {l : Nat} {x : Ent} {s : Sets} (hx : heap.get l = some x) (hs : ∀ l y, s.find l = some y → heap.get l = some y) : ∀ l' y, Sets.find l' ((l, x) :: s) = some y → heap.get l' = some y := by
  intro l' y hy
  simp only [Sets.find] at hy
  split at hy
  · rename_i z hz
    cases hy
    exact hs l' _ hz
  · split at hy
    · rename_i hb
      cases hy
      rw [Nat.eq_of_beq_eq_true hb]
      exact hx
    · cases hy
theorem setsGo_ok {nx0 : Nat} {R heap : T Ent} : ∀ {log : List Nat} {seen : T Ent} {acc E : Sets}, setsGo nx0 R heap log seen acc = some E → (∀ l x, seen.get l = some x → l ∈ acc.labels) → (∀ l x, acc.find l = some x → heap.get l = some x) →
    (∀ l, l ∈ E.labels → l ∈ log ∨ l ∈ acc.labels) ∧ (∀ l, l ∈ acc.labels → l ∈ E.labels) ∧ (∀ l, l ∈ log → l < nx0 → l ∈ E.labels) ∧ (∀ l x, E.find l = some x → heap.get l = some x)
  | [], seen, acc, E, h, hs, ha => by
    cases h
    exact ⟨fun l hl => .inr hl, fun l hl => hl, fun l hl => (by cases hl), ha⟩
  | l :: r, seen, acc, E, h, hs, ha => by
    unfold setsGo at h
    have put : ∀ x, heap.get l = some x → setsGo nx0 R heap r (T.put 40 seen l x) ((l, x) :: acc) = some E →
        (∀ l', l' ∈ E.labels → l' ∈ l :: r ∨ l' ∈ acc.labels) ∧ (∀ l', l' ∈ acc.labels → l' ∈ E.labels) ∧ (∀ l', l' ∈ l :: r → l' < nx0 → l' ∈ E.labels) ∧ (∀ l x, E.find l = some x → heap.get l = some x) := by
      intro x hx h
      have hlab : ∀ l', l' ∈ Sets.labels ((l, x) :: acc) ↔ l' = l ∨ l' ∈ acc.labels := by
        intro l'; simp only [Sets.labels, List.map_cons, List.mem_cons]
      have ih := setsGo_ok h (fun l' y hy => by
        rw [hlab]
        rcases T.get_put 40 seen l l' x y hy with ⟨rfl, _⟩ | ⟨_, e⟩
        · exact .inl rfl
        · exact .inr (hs _ _ e)) (find_cons_heap hx ha)
      refine ⟨fun l' hl' => ?_, fun l' hl' => ih.2.1 l' ((hlab l').2 (.inr hl')), fun l' hl' hn => ?_, ih.2.2.2⟩
      · rcases ih.1 l' hl' with h1 | h1
        · exact .inl (List.mem_cons_of_mem _ h1)
        · rcases (hlab l').1 h1 with rfl | h2
          · exact .inl (List.mem_cons_self ..)
          · exact .inr h2
      · rcases List.mem_cons.1 hl' with rfl | hl'
        · exact ih.2.1 _ ((hlab _).2 (.inl rfl))
        · exact ih.2.2.1 l' hl' hn
    split at h
    · rename_i y hy
      have ih := setsGo_ok h hs ha
      refine ⟨fun l' hl' => (ih.1 l' hl').imp (List.mem_cons_of_mem _) id, ih.2.1, fun l' hl' hn => ?_, ih.2.2.2⟩
      rcases List.mem_cons.1 hl' with rfl | hl'
      · exact ih.2.1 _ (hs _ _ hy)
      · exact ih.2.2.1 l' hl' hn
    · split at h
      · cases h
      · rename_i x hx
        split at h
        · exact put x hx h
        · rename_i hn
          split at h
          · exact put x hx h
          · have ih := setsGo_ok h hs ha
            refine ⟨fun l' hl' => (ih.1 l' hl').imp (List.mem_cons_of_mem _) id, ih.2.1, fun l' hl' hlt => ?_, ih.2.2.2⟩
            rcases List.mem_cons.1 hl' with rfl | hl'
            · have : Nat.blt l' nx0 = true := by rw [Nat.blt_eq]; exact hlt
              rw [hn] at this; cases this
            · exact ih.2.2.1 l' hl' hlt
theorem setsOf_ok {nx0 : Nat} {heap : T Ent} {seeds log : List Nat} {E : Sets} (h : setsOf nx0 heap seeds log = some E) :
    (∀ l, l ∈ E.labels → l ∈ log) ∧ (∀ l, l ∈ log → l < nx0 → l ∈ E.labels) ∧ (∀ l x, E.find l = some x → heap.get l = some x) := by
  have := setsGo_ok h (fun l x hx => by simp [T.get_leaf] at hx) (fun l x hx => by cases hx)
  exact ⟨fun l hl => (this.1 l hl).elim id fun hh => by simp [Sets.labels] at hh, this.2.2.1, this.2.2.2⟩
theorem argSlots_get : ∀ (args : List V1) (i : Nat) (t : Sl) (j : Nat) (v : SV), (argSlots args i t).get j = some v → (∃ m x, args[m]? = some x ∧ j = i + m ∧ v = .v x) ∨ t.get j = some v
  | [], i, t, j, v, h => .inr h
  | y :: r, i, t, j, v, h => by
    simp only [argSlots] at h
    rcases argSlots_get r (i + 1) _ j v h with ⟨m, x, hm, hj, hv⟩ | h
    · exact .inl ⟨m + 1, x, by simpa using hm, by omega, hv⟩
    · rcases Sl.get_put t i j _ v h with ⟨rfl, rfl⟩ | ⟨_, h⟩
      · exact .inl ⟨0, y, rfl, rfl, rfl⟩
      · exact .inr h

section
variable {P : Program} {cf : Cfg} (hty : TysOk P cf.ty) {ρ : Env}
theorem SatS.init {β : Lab} {args : List V1} {heap : T Ent} {nx : Nat} {w : World} {nt : Nat} (hb : ∀ x ∈ args, V1.below nx x) (hs : SatH ρ β nx heap.get w) :
    SatS ⟨[], none⟩ ρ β nt ⟨argSlots args 0 .nil, heap, nx, []⟩ { tmps := (args.map (V1.den ρ β)).toArray ++ Array.replicate (nt - (args.map (V1.den ρ β)).toArray.size) undef, defers := [] } w := by
  refine ⟨⟨fun t v ht => ?_, rfl⟩, by simp; omega, hs⟩
  rcases argSlots_get args 0 .nil t v ht with ⟨m, x, hm, hj, hv⟩ | h
  · subst hv
    have hlt : m < args.length := (List.getElem?_eq_some_iff.1 hm).1
    refine ⟨hb x (List.mem_of_getElem? hm), ?_⟩
    have : t = m := by omega
    subst this
    rw [Array.getElem?_append_left (by simpa using hlt)]
    simp [hm, SV.den]
  · simp [Sl.get_nil] at h
/-- Blocks of cells lie as they lay. -/
def CellsKept (w w' : World) : Prop := ∀ (k : Nat) (cs : Array Value) (t : TypeId) (z : Nat × Nat), w.heap[k]? = some (Obj.cells cs t z) → w'.heap[k]? = some (Obj.cells cs t z)
theorem CellsKept.refl (w : World) : CellsKept w w := fun _ _ _ _ h => h
include hty in
theorem resOf_ok {Δ : Dv} {β : Lab} {nt : Nat} {s : S} {a : Act} {w : World} (hs : SatS Δ ρ β nt s a w) {w' : World} (hkw : CellsKept w w') {f : ResultVar → Sem Value} (hf1 : ∀ t, f (.tmp t) = pure (a.tmps.getD t undef)) (hf2 : ∀ c t, f (.cell c t) = (do loadVar t (← asAddr (a.tmps.getD c undef)))) :
    ∀ {l : List ResultVar} {vs : List V1}, resOf cf.ty s l = some vs → (l.mapM f).run P w' = .ok (vs.map (V1.den ρ β)) w' ∧ ∀ x ∈ vs, V1.below s.nx x
  | [], vs, h => by cases h; exact ⟨rfl, fun x hx => (by cases hx)⟩
  | .tmp t :: r, vs, h => by
    simp only [resOf] at h
    split at h
    · rename_i v vs' hv hvs
      cases h
      have ih := resOf_ok hs hkw hf1 hf2 hvs
      have h1 := hs.sa.slot _ _ (asV_eq hv)
      have h2 : a.tmps.getD t undef = v.den ρ β := by simp [h1.2, SV.den]
      refine ⟨?_, fun x hx => ?_⟩
      · simp only [List.mapM_cons, hf1, Sem.run_bind, Sem.run_pure, Result.andThen_ok, ih.1, h2, List.map_cons]
      · rcases List.mem_cons.1 hx with rfl | hx
        · exact h1.1
        · exact ih.2 x hx
    · cases h
  | .cell c t :: r, vs, h => by
    simp only [resOf] at h
    split at h
    · rename_i l off ti vs' hc hti hvs
      split at h
      · rename_i wr cs bt hl
        split at h
        · rename_i v hv
          cases h
          have ih := resOf_ok hs hkw hf1 hf2 hvs
          have h1 := hs.sa.slot _ _ (asP_eq hc)
          have h2 : a.tmps.getD c undef = .pointer (some ⟨β.b l, off, none⟩) := by simp [h1.2, SV.den, V1.den, CV.den]
          obtain ⟨_, hb, _, hst⟩ := hs.sh.blk _ _ hl
          have h3 := load_ok (hty _ _ hti) hv hb (w := w') (hkw _ _ _ _ hst)
          refine ⟨?_, fun x hx => ?_⟩
          · have h4 : (asAddr (a.tmps.getD c undef)).run P w' = .ok ⟨β.b l, off, none⟩ w' := by rw [h2]; rfl
            simp only [List.mapM_cons, hf2, Sem.run_bind, Sem.run_pure, Result.andThen_ok, ih.1, h4, h3.2, List.map_cons]
          · rcases List.mem_cons.1 hx with rfl | hx
            · exact h3.1
            · exact ih.2 x hx
        · cases h
      · cases h
    · cases h
theorem svOfList_den (β : Lab) (vs : List V1) : (svOfList vs).den ρ β = if h : (vs.map (V1.den ρ β)).toArray.size = 1 then (vs.map (V1.den ρ β)).toArray[0] else .tuple (vs.map (V1.den ρ β)).toArray := by
  match vs with
  | [] => rfl
  | [x] => rfl
  | x :: y :: r => simp [svOfList, SV.den]
theorem svOfList_below {n : Nat} {vs : List V1} (h : ∀ x ∈ vs, V1.below n x) : (svOfList vs).below n := by
  match vs with
  | [] => exact fun x hx => (by cases hx)
  | [x] => exact h x (List.mem_singleton.2 rfl)
  | x :: y :: r => exact h
include hty in
theorem results_kept {Δ : Dv} {fn : Func} {β : Lab} {nt : Nat} {s : S} {a : Act} {w : World} (hs : SatS Δ ρ β nt s a w) {vs : List V1} (h : resOf cf.ty s fn.results.toList = some vs) {w' : World} (hkw : CellsKept w w') :
    (results fn a.tmps).run P w' = .ok ((svOfList vs).den ρ β) w' ∧ (svOfList vs).below s.nx := by
  obtain ⟨f, hf, hf1, hf2⟩ : ∃ f : ResultVar → Sem Value, results fn a.tmps = (do let vs ← fn.results.mapM f; pure (if h : vs.size = 1 then vs[0] else .tuple vs)) ∧
      (∀ t, f (.tmp t) = pure (a.tmps.getD t undef)) ∧ (∀ c t, f (.cell c t) = (do loadVar t (← asAddr (a.tmps.getD c undef)))) := ⟨_, rfl, fun t => rfl, fun c t => rfl⟩
  have h1 := resOf_ok hty hs hkw hf1 hf2 h
  refine ⟨?_, svOfList_below h1.2⟩
  rw [hf, Sem.run_bind, Array.mapM_eq_mapM_toList, Sem.run_map, h1.1]
  simp only [Result.andThen_ok, Sem.run_pure, svOfList_den]
include hty in
theorem results_ok {Δ : Dv} {fn : Func} {β : Lab} {nt : Nat} {s : S} {a : Act} {w : World} (hs : SatS Δ ρ β nt s a w) {vs : List V1} (h : resOf cf.ty s fn.results.toList = some vs) :
    (results fn a.tmps).run P w = .ok ((svOfList vs).den ρ β) w ∧ (svOfList vs).below s.nx := results_kept hty hs h (CellsKept.refl w)

def XGood (P : Program) (ρ : Env) (nt : Nat) (c : Code) (s : S) (o : XK × S) : Prop :=
  ∀ (Δ : Dv) (β : Lab) (a : Act) (w : World), SatS Δ ρ β nt s a w → ∀ Q : Exit → Act → World → Prop, (∀ β' a' w', Goes Δ ρ β nt s w β' o.2 a' w' → Q o.1.toExit a' w') → c.wpIn (fen Δ.rd) 0 P Q a w
def LGood (P : Program) (ρ : Env) (nt n : Nat) (c : Code) (s : S) (o : XK × S) : Prop :=
  ∀ (Δ : Dv) (β : Lab) (a : Act) (w : World), SatS Δ ρ β nt s a w → ∀ Q : Exit → Act → World → Prop, (∀ β' a' w', Goes Δ ρ β nt s w β' o.2 a' w' → Q o.1.toExit a' w') → Code.roundsIn (fen Δ.rd) 0 P c Q n a w
def DGood (P : Program) (ρ : Env) (nt : Nat) (ops : List Oper) (s : S) (s' : S) : Prop :=
  ∀ (Δ : Dv) (β : Lab) (a : Act) (w : World) (id : Nat), SatS Δ ρ β nt s a w → ∀ Q : Exit → Act → World → Prop, (∀ β' a' w', Goes Δ ρ β nt s w β' s' a' w' → Q .normal a' w') → (Code.region id ops.toArray true).wpIn (fen Δ.rd) 0 P Q a w
abbrev CallDom (cf : Cfg) (callF : CallF) : Prop := Dom cf.fn callF
def DrawOk (P : Program) (ρ : Env) (cf : Cfg) : Prop :=
  ∀ callF nt ops k s l, CallOk P ρ callF → CallDom cf callF → cf.draw callF nt ops k s = some l → AltsOk ρ k l (DGood P ρ nt ops s)
def ExOk (P : Program) (ρ : Env) (cf : Cfg) (n : Nat) : Prop :=
  ∀ nt c k s outs, exec cf n nt c k s = some outs → AltsOk ρ k outs (XGood P ρ nt c s)

theorem callDom (n : Nat) : CallDom cf (callF cf n) := by
  intro f args heap nx k l hf h
  unfold callF callWith at h
  simp only [hf] at h
  unfold callFn at h
  split at h
  · cases h
  · rename_i fn hfn
    split at h
    · cases h
    · rename_i body hb
      exact ⟨fn, hfn, by rw [hb]; rfl⟩
include hty in
theorem callFnOk {n : Nat} (hfn : FnOk P cf.fn) (hct : CallOk P ρ cf.ct) (hex : ExOk P ρ cf n) {f : FuncId} {args : List V1} {heap : T Ent} {nx : Nat} {k : Known} {l : EAlts} (hfy : Nat.beq f yldId = false) (h : callFn cf (exec cf n) f args heap nx k = some l) : AltsOk ρ k l (CGood P ρ f args heap nx) := by
  unfold callFn at h
  split at h
  · cases h
  · rename_i fn hfnm
    split at h
    · cases h
    · rename_i body hbody
      split at h
      · rename_i r hr
        cases h
        exact hct _ _ _ _ _ _ hr
      split at h
      · rename_i hle
        rw [argSlotsK_eq] at h
        unfold callBody at h
        split at h
        · rename_i outs houts
          refine (hex _ _ _ _ _ houts).mapO h fun hk o e he hg => ?_
          intro β w hb hs
          refine Called.of hfy ?_
          refine calls_of_wp (hfn _ _ hfnm).1 hbody ?_
          refine (wpIn_wide (n := 0)).1 (hg ⟨[], none⟩ β _ w (SatS.init hb hs) _ fun β' a' w' hgo => ?_)
          have fin : ∀ vs sets, resOf cf.ty o.2 fn.results.toList = some vs → setsOf nx o.2.heap (vs.flatMap V1.labs) o.2.log = some sets →
              a'.defers = [] ∧ ∃ v, (results fn a'.tmps).run P w' = .ok v w' ∧ ∃ β', Step ρ β nx heap.get w sets β' o.2.nx w' ∧ (svOfList vs).below o.2.nx ∧ Ending.returned v = .returned ((svOfList vs).den ρ β') := by
            intro vs sets hvs hsets
            have h1 := results_ok hty hgo.sat hvs
            obtain ⟨t, ht, hlog, hsub⟩ := hgo.step
            have h2 := setsOf_ok hsets
            refine ⟨hgo.sat.sa.defers, _, h1.1, β', Step.reset ht hs (fun l hl => ?_) (fun l hl hn => ?_) (fun l x hx => hsub l x (h2.2.2 l x hx)), h1.2, rfl⟩
            · have := h2.1 l hl
              rw [hlog] at this
              simpa using this
            · refine h2.2.1 l ?_ hn
              rw [hlog]
              simpa using hl
          unfold finish at he
          obtain ⟨x, s'⟩ := o
          cases x with
          | ext id => simp at he
          | nrm =>
            simp only at he
            split at he
            · rename_i vs hvs
              split at he
              · rename_i sets hsets
                cases he
                exact fin _ _ hvs hsets
              · cases he
            · cases he
          | ret =>
            simp only at he
            split at he
            · rename_i vs hvs
              split at he
              · rename_i sets hsets
                cases he
                exact fin _ _ hvs hsets
              · cases he
            · cases he
        · cases h
      · cases h

/-- A round's code, from the loop's record on. -/
theorem yield_ok {i : RecI} {cs : List CV} {xs : List V1} {heap : T Ent} {nx l : Nat} {s1 s2 : S} {e : Eff} (hl : heap.get l = some ⟨true, .lrec i cs⟩) (hlen : xs.length = i.ps.size) (hps : ∀ p ∈ i.ps.toList, p < i.nt)
    (hA : XGood P ρ i.nt i.as ⟨putParams i.ps.toList xs (slotsOf i.ts cs .nil), T.put 40 heap l ⟨false, .dead⟩, nx, []⟩ (.nrm, s1)) (hB : XGood P ρ i.nt i.bd s1 (.nrm, s2)) (he : yldEnd nx (.nrm, s2) = some e) :
    CGood P ρ yldId (.one (.yld l) :: xs) heap nx e := by
  intro β w hb hs
  obtain ⟨hln, hbel, hblt, hsat⟩ := hs.blk l _ hl
  obtain ⟨r, hrec, hst, hpe, hpa, has, hbd, hnt, htm⟩ := hsat
  have hput : ∀ l' x, (T.put 40 heap l ⟨false, .dead⟩).get l' = some x → (l' = l ∧ x = ⟨false, .dead⟩) ∨ (l' ≠ l ∧ heap.get l' = some x) := fun l' x hx => by
    rcases T.get_put 40 heap l l' _ x hx with h | h
    · exact .inl h
    · exact .inr h
  have hs0 : SatH ρ β nx (T.put 40 heap l ⟨false, .dead⟩).get w := by
    refine ⟨fun l' x hx => ?_, fun l' l'' x x' hx hx' hne hw hh hh' => ?_⟩
    · rcases hput l' x hx with ⟨rfl, rfl⟩ | ⟨_, h⟩
      · exact ⟨hln, trivial, fun h => h.elim, trivial⟩
      · exact hs.blk l' x h
    · rcases hput l' x hx with ⟨rfl, rfl⟩ | ⟨_, h⟩
      · exact hh.elim
      · rcases hput l'' x' hx' with ⟨rfl, rfl⟩ | ⟨_, h'⟩
        · exact hh'.elim
        · exact hs.inj l' l'' x x' h h' hne hw hh hh'
  have hno : ∀ l' x, (T.put 40 heap l ⟨false, .dead⟩).get l' = some x → x.blk.hb β → β.b l' ≠ β.b l := by
    intro l' x hx hh
    rcases hput l' x hx with ⟨rfl, rfl⟩ | ⟨hne, h⟩
    · exact hh.elim
    · exact hs.inj l' l x _ h hl hne (by simp) hh trivial
  obtain ⟨sets, hsets, rfl⟩ : ∃ sets, setsOf nx s2.heap [] s2.log = some sets ∧ e = ⟨.v (.one (.bool (.lit 1))), sets, s2.nx⟩ := by
    unfold yldEnd at he
    simp only at he
    split at he
    · rename_i sets hsets
      cases he
      exact ⟨sets, hsets, rfl⟩
    · cases he
  have hys := run_yield (P := P) (args := (xs.map (V1.den ρ β)).toArray) hrec (by rw [hpa]; simp [hlen])
  unfold Called
  rw [show Nat.beq yldId yldId = true from Nat.beq_refl _]
  refine ⟨β.b l, (xs.map (V1.den ρ β)).toArray, ?_, r.fn, _, r.assign, r.body, hys, ?_⟩
  · apply Array.ext'
    simp [V1.den, CV.den]
  have hslots := putParams_ok (n := nx) (ρ := ρ) (β := β) i.ps.toList xs (slotsOf i.ts cs .nil) r.tmps
    (slotsOf_ok i.ts cs .nil (fun t v h => by cases h) hbel htm) (fun x hx => hb x (List.mem_cons_of_mem _ hx)) (fun p hp => Nat.lt_of_lt_of_le (hps p hp) hnt) (by rw [hlen]; simp)
  have hfold : (r.params.zip (xs.map (V1.den ρ β)).toArray).foldl (fun tmps (p : Tmp × Value) => tmps.setIfInBounds p.1 p.2) r.tmps = (i.ps.toList.zip (xs.map (V1.den ρ β))).foldl (fun tmps (p : Tmp × Value) => tmps.setIfInBounds p.1 p.2) r.tmps := by
    rw [← Array.foldl_toList, Array.toList_zip, hpa]
  have hsz : ∀ (l : List (Tmp × Value)) (tm : Array Value), (l.foldl (fun tmps (p : Tmp × Value) => tmps.setIfInBounds p.1 p.2) tm).size = tm.size := by
    intro l
    induction l with
    | nil => intro tm; rfl
    | cons p l ih => intro tm; rw [List.foldl_cons, ih, Array.size_setIfInBounds]
  have hS0 : SatS ⟨[], some (β.b l)⟩ ρ β i.nt ⟨putParams i.ps.toList xs (slotsOf i.ts cs .nil), T.put 40 heap l ⟨false, .dead⟩, nx, []⟩
      { tmps := (r.params.zip (xs.map (V1.den ρ β)).toArray).foldl (fun tmps (p : Tmp × Value) => tmps.setIfInBounds p.1 p.2) r.tmps, defers := [] } w :=
    ⟨⟨fun t v h => by rw [hfold]; exact hslots t v h, rfl⟩, by rw [hfold, hsz]; exact hnt, hs0⟩
  refine roundIn_of_wpIn (F := Fence.wide) trivial ?_
  rw [has, hbd]
  refine hA ⟨[], some (β.b l)⟩ β _ w hS0 _ fun β1 a1 w1 hg1 => ?_
  obtain ⟨t1, st1, hlog1, hsub1⟩ := hg1.step
  obtain ⟨stp, hr1⟩ := Step.put (o1 := .loop { r with state := .busy }) st1 hs0 hrec rfl rfl hno
  refine ⟨_, run_beginRound hr1 hst, ?_⟩
  have hg1' : Goes ⟨[], some (β.b l)⟩ ρ β i.nt ⟨putParams i.ps.toList xs (slotsOf i.ts cs .nil), T.put 40 heap l ⟨false, .dead⟩, nx, []⟩ (w.putObj (β.b l) (.loop { r with state := .busy })) β1 s1 a1 (w1.putObj (β.b l) (.loop { r with state := .busy })) :=
    ⟨⟨hg1.sat.sa, hg1.sat.sz, stp.sat.sub fun l x hx => hsub1 l x hx⟩, t1, stp, hlog1, hsub1⟩
  refine hB ⟨[], some (β.b l)⟩ β1 a1 _ hg1'.sat _ fun β2 a2 w2 hg2 => ?_
  have hs0' : SatH ρ β nx (T.put 40 heap l ⟨false, .dead⟩).get (w.putObj (β.b l) (.loop { r with state := .busy })) :=
    ⟨fun l' x hx => by
      obtain ⟨a1, a2, a3, a4⟩ := hs0.blk l' x hx
      exact ⟨a1, a2, fun hh => by rw [World.putObj_size]; exact a3 hh, Blk.sat_keep a2 (Lab.agree_refl _ _) (fun hh => World.putObj_heap_other (hno l' x hx hh)) a4⟩, hs0.inj⟩
  have hgo := Goes.trans (s := ⟨putParams i.ps.toList xs (slotsOf i.ts cs .nil), T.put 40 heap l ⟨false, .dead⟩, nx, []⟩) hs0' hg1' hg2
  obtain ⟨t2, st2, hlog2, hsub2⟩ := hgo.step
  have hlt : β.b l < w.heap.size := hblt trivial
  obtain ⟨st3, hr2⟩ := Step.put (o1 := .loop r) st2 hs0' (World.putObj_heap_same hlt) rfl rfl hno
  rw [putObj_back hrec] at st3
  have hend := run_endRound (P := P) none hr2
  have hrr : ({ r with state := LoopState.ready, pending := none } : Loop) = r := by
    cases r
    simp only at hst hpe
    subst hst
    subst hpe
    rfl
  refine ⟨_, _, hend, β2, ?_, trivial, ?_⟩
  · have hobj : (w2.putObj (β.b l) (.loop { ({ r with state := .busy } : Loop) with state := (if (none : Option Code).isNone = true then .ready else .done), pending := none })) = w2.putObj (β.b l) (.loop r) := by
      have : ({ ({ r with state := .busy } : Loop) with state := (if (none : Option Code).isNone = true then .ready else .done), pending := none } : Loop) = r := hrr
      rw [this]
    rw [hobj]
    have h2 := setsOf_ok hsets
    have stE : Step ρ β nx (T.put 40 heap l ⟨false, .dead⟩).get w sets β2 s2.nx (w2.putObj (β.b l) (.loop r)) := by
      refine Step.reset st3 hs0 (fun l hl => ?_) (fun l hl hn => ?_) (fun l x hx => hsub2 l x (h2.2.2 l x hx))
      · have := h2.1 l hl
        rw [hlog2] at this
        simpa using this
      · refine h2.2.1 l ?_ hn
        rw [hlog2]
        simpa using hl
    cases hd : (T.put 40 heap l ⟨false, .dead⟩).get l with
    | none =>
      refine Step.frame stE (fun k x hx => ?_) hs
      rcases hput k x hx with ⟨rfl, _⟩ | ⟨_, h⟩
      · rw [hd] at hx
        cases hx
      · exact h
    | some y =>
      have hy : y = ⟨false, .dead⟩ := by
        rcases hput l y hd with ⟨_, h⟩ | ⟨h, _⟩
        · exact h
        · exact absurd rfl h
      subst hy
      refine Step.frame (Step.drop (h1 := fun k => if k = l then none else (T.put 40 heap l ⟨false, .dead⟩).get k) stE hs0 hd (fun k hk => by simp [hk]) (by simp)) (fun k x hx => ?_) hs
      by_cases e : k = l
      · simp [e] at hx
      · simp only [e, if_false] at hx
        rcases hput k x hx with ⟨rfl, _⟩ | ⟨_, h⟩
        · exact absurd rfl e
        · exact h
  · simp [SV.den, V1.den, CV.den, E.den]
theorem yldWith_ok {n : Nat} (hex : ExOk P ρ cf n) {args : List V1} {heap : T Ent} {nx : Nat} {k : Known} {l : EAlts} (h : yldWith (exec cf n) args heap nx k = some l) : AltsOk ρ k l (CGood P ρ yldId args heap nx) := by
  unfold yldWith at h
  split at h
  · rename_i l0 xs
    split at h
    · rename_i i cs hl
      split at h
      · rename_i hck
        simp only [Bool.and_eq_true, List.all_eq_true] at hck
        obtain ⟨c1, c2, c3⟩ := hck
        split at h
        · rename_i outs houts
          rw [bindS_eq] at h
          refine (hex _ _ _ _ _ houts).bind h fun k' o ys hys => ?_
          unfold yldBody at hys
          split at hys
          · rename_i s1
            simp only [Known.whK_eq, S.whK_eq] at hys
            unfold yldBody1 at hys
            split at hys
            · rename_i outs2 houts2
              refine (hex _ _ _ _ _ houts2).mapO hys fun hk o2 e he hB hA => ?_
              obtain ⟨x, s2⟩ := o2
              cases x with
              | nrm => exact yield_ok hl (Nat.eq_of_beq_eq_true c1) (fun p hp => by have := c2 p hp; simpa [Nat.blt_eq] using this) hA hB he
              | ret => cases he
              | ext id => cases he
            · cases hys
          · cases hys
        · cases h
      · cases h
    · cases h
  · cases h
include hty in
theorem callOk {n : Nat} (hfn : FnOk P cf.fn) (hct : CallOk P ρ cf.ct) (hex : ExOk P ρ cf n) : CallOk P ρ (callF cf n) := by
  intro f args heap nx k l h
  unfold callF callWith at h
  split at h
  · rename_i hf
    have := Nat.eq_of_beq_eq_true hf
    subst this
    exact yldWith_ok hex h
  · rename_i hf
    exact callFnOk hty hfn hct hex hf h

include hty in
theorem exec_ok (hfn : FnOk P cf.fn) (hct : CallOk P ρ cf.ct) (hdr : DrawOk P ρ cf) : ∀ n : Nat, ExOk P ρ cf n ∧ ∀ nt c k s outs, exec cf n nt (.loop c) k s = some outs → AltsOk ρ k outs (LGood P ρ nt n c s)
  | 0 => ⟨fun nt c k s outs h => by simp [exec] at h, fun nt c k s outs h => by simp [exec] at h⟩
  | n + 1 => by
    obtain ⟨ih, ihl⟩ := exec_ok hfn hct hdr n
    have hcall := callOk hty hfn hct ih
    have hloop : ∀ nt c k s outs, exec cf (n + 1) nt (.loop c) k s = some outs → AltsOk ρ k outs (LGood P ρ nt (n + 1) c s) := by
      intro nt c k s outs h
      simp only [exec, execStep, xLoop, bindS_eq] at h
      split at h
      · rename_i outs1 h1
        refine (ih _ _ _ _ _ h1).bind h fun k' o ys hys => ?_
        rw [thenGo_eq] at hys
        obtain ⟨x, s1⟩ := o
        cases x with
        | nrm =>
          simp only [thenGo2] at hys
          refine (ihl _ _ _ _ _ hys).weaken fun y hy hx => ?_
          intro Δ β a w hs Q hQ
          rw [roundsIn_succ]
          refine hx Δ β a w hs _ fun β' a' w' hg => ?_
          exact hy Δ β' a' w' hg.sat Q fun β'' a'' w'' hg' => hQ _ _ _ (Goes.trans hs.sh hg hg')
        | ext id =>
          simp only [thenGo2] at hys
          cases hys
          refine AltsOk.single fun _ hx => ?_
          intro Δ β a w hs Q hQ
          rw [roundsIn_succ]
          exact hx Δ β a w hs _ fun β' a' w' hg => hQ _ _ _ hg
        | ret =>
          simp only [thenGo2] at hys
          cases hys
          refine AltsOk.single fun _ hx => ?_
          intro Δ β a w hs Q hQ
          rw [roundsIn_succ]
          exact hx Δ β a w hs _ fun β' a' w' hg => hQ _ _ _ hg
      · cases h
    refine ⟨fun nt c k s outs h => ?_, hloop⟩
    cases c with
    | skip =>
      simp only [exec, execStep] at h
      cases h
      exact AltsOk.single fun _ Δ β a w hs Q hQ => wpIn_skip (hQ β a w (Goes.refl hs))
    | ret =>
      simp only [exec, execStep] at h
      cases h
      exact AltsOk.single fun _ Δ β a w hs Q hQ => wpIn_ret (hQ β a w (Goes.refl hs))
    | exit id =>
      simp only [exec, execStep] at h
      cases h
      exact AltsOk.single fun _ Δ β a w hs Q hQ => wpIn_exit (hQ β a w (Goes.refl hs))
    | loop body =>
      exact (hloop _ _ _ _ _ h).weaken fun o ho Δ β a w hs Q hQ => wpIn_loop_rounds _ (ho Δ β a w hs Q hQ)
    | region id ops draw =>
      simp only [exec, execStep] at h
      have base : ∀ outs, (match draw with | false => xSeqR cf (exec cf n) nt ops k s | true => xDraw cf (exec cf n) nt ops k s) = some outs → AltsOk ρ k outs (XGood P ρ nt (.region id ops draw) s) := by
        intro outs h
        cases draw with
        | false =>
          simp only [xSeqR, seqRun_eq] at h
          split at h
          · rename_i l hl
            cases h
            refine AltsOk.map (Good' := XGood P ρ nt (.region id ops false) s) (seq_ok hty hcall hfn (callDom n) _ _ _ _ hl) (fun x => (XK.nrm, x)) fun s' hs' => ?_
            intro Δ β a w hs Q hQ
            refine wpIn_region_list ?_
            have := hs' Δ β a w hs Q fun β' a' w' hg => hQ _ _ _ hg
            simpa using this
          · cases h
        | true =>
          simp only [xDraw] at h
          split at h
          · rename_i l hl
            cases h
            refine AltsOk.map (Good' := XGood P ρ nt (.region id ops true) s) (hdr _ _ _ _ _ _ hcall (callDom n) hl) (fun x => (XK.nrm, x)) fun s' hs' => ?_
            intro Δ β a w hs Q hQ
            have := hs' Δ β a w id hs Q fun β' a' w' hg => hQ _ _ _ hg
            simpa using this
          · cases h
      unfold mregs at h
      split at h
      · rename_i outs1 h1
        have hbase := base _ h1
        split at h
        · rename_i lv hlv
          rcases mergeOuts_ok lv k s outs1 with hm | ⟨x, m, hm, hall⟩
          · rw [hm] at h
            cases h
            exact hbase
          · rw [hm] at h
            cases h
            refine AltsOk.single fun hk => ?_
            obtain ⟨o, ho, hok⟩ := hbase.1 hk
            have hgood := (hbase.2 o ho hok).2
            obtain ⟨e1, e2⟩ := hall o ho
            intro Δ β a w hs Q hQ
            refine hgood Δ β a w hs Q fun β' a' w' hg => ?_
            rw [e1]
            obtain ⟨β2, hg2⟩ := e2 ρ hok Δ β β' nt a' w w' hs.sh hg
            exact hQ _ _ _ hg2
        · cases h
          exact hbase
      · cases h
    | seq a b =>
      simp only [exec, execStep, xSeq, bindS_eq] at h
      split at h
      · rename_i outs1 h1
        refine (ih _ _ _ _ _ h1).bind h fun k' o ys hys => ?_
        rw [thenGo_eq] at hys
        obtain ⟨x, s1⟩ := o
        cases x with
        | nrm =>
          simp only [thenGo2] at hys
          refine (ih _ _ _ _ _ hys).weaken fun y hy hx => ?_
          intro Δ β a w hs Q hQ
          refine wpIn_seq (hx Δ β a w hs _ fun β' a' w' hg => ?_)
          exact hy Δ β' a' w' hg.sat Q fun β'' a'' w'' hg' => hQ _ _ _ (Goes.trans hs.sh hg hg')
        | ext id =>
          simp only [thenGo2] at hys
          cases hys
          refine AltsOk.single fun _ hx => ?_
          intro Δ β a w hs Q hQ
          exact wpIn_seq (hx Δ β a w hs _ fun β' a' w' hg => hQ _ _ _ hg)
        | ret =>
          simp only [thenGo2] at hys
          cases hys
          refine AltsOk.single fun _ hx => ?_
          intro Δ β a w hs Q hQ
          exact wpIn_seq (hx Δ β a w hs _ fun β' a' w' hg => hQ _ _ _ hg)
      · cases h
    | cond c a b =>
      simp only [exec, execStep, xCond, bindS_eq] at h
      split at h
      · rename_i e he
        refine (fork_alts (ρ := ρ) (c := e)).bind h fun k' t ys hys => ?_
        have hc : ∀ (Δ : Dv) (β : Lab) (a : Act) (w : World), SatS Δ ρ β nt s a w → a.eval c = .bool (decide (e.den ρ ≠ 0)) := fun Δ β a w hs => (hs.sa.ev _ _ (asB_eq he)).2
        simp only [condGo, Known.whK_eq, condGo1] at hys
        split at hys
        · refine (ih _ _ _ _ _ hys).weaken fun y hy hx => ?_
          intro Δ β a w hs Q hQ
          have h0 : e.den ρ ≠ 0 := hx.2 rfl
          exact wpIn_cond_true (by rw [hc Δ β a w hs]; simp [h0]) (hy Δ β a w hs Q hQ)
        · refine (ih _ _ _ _ _ hys).weaken fun y hy hx => ?_
          intro Δ β a w hs Q hQ
          have h0 : ¬ e.den ρ ≠ 0 := fun hh => (by simpa using hx.1 hh)
          exact wpIn_cond_false (by rw [hc Δ β a w hs]; simpa using h0) (hy Δ β a w hs Q hQ)
      · cases h
    | block id body =>
      simp only [exec, execStep, xBlock] at h
      split at h
      · rename_i outs1 h1
        have base : AltsOk ρ k (outs1.map (leave id)) (XGood P ρ nt (.block id body) s) := by
          refine AltsOk.map (Good' := XGood P ρ nt (.block id body) s) (ih _ _ _ _ _ h1) (fun x : XK × S => ((match x.1 with | .ext i => if Nat.beq i id then XK.nrm else .ext i | e => e), x.2)) fun o ho => ?_
          obtain ⟨x, s1⟩ := o
          intro Δ β a w hs Q hQ
          refine wpIn_block (ho Δ β a w hs _ fun β' a' w' hg => ?_)
          cases x with
          | nrm => exact hQ _ _ _ hg
          | ret => exact hQ _ _ _ hg
          | ext i =>
            have := hQ β' a' w' hg
            simp only at this
            simp only [XK.toExit, Exit.inBlock]
            by_cases hi : i = id
            · subst hi
              simp only [Nat.beq_refl, if_true] at this
              rw [if_pos rfl]
              exact this
            · have hb : Nat.beq i id = false := by
                cases hb : Nat.beq i id
                · rfl
                · exact absurd (Nat.eq_of_beq_eq_true hb) hi
              simp only [hb, Bool.false_eq_true, if_false] at this
              rw [if_neg hi]
              exact this
        split at h
        · rename_i lv hlv
          rcases mergeOuts_ok lv k s (outs1.map (leave id)) with hm | ⟨x, m, hm, hall⟩
          · rw [hm] at h
            cases h
            exact base
          · rw [hm] at h
            cases h
            refine AltsOk.single fun hk => ?_
            obtain ⟨o, ho, hok⟩ := base.1 hk
            have hgood := (base.2 o ho hok).2
            obtain ⟨e1, e2⟩ := hall o ho
            intro Δ β a w hs Q hQ
            refine hgood Δ β a w hs Q fun β' a' w' hg => ?_
            rw [e1]
            obtain ⟨β2, hg2⟩ := e2 ρ hok Δ β β' nt a' w w' hs.sh hg
            exact hQ _ _ _ hg2
        · cases h
          exact base
      · cases h
    | rangeFunc _ _ _ _ => simp [exec, execStep] at h
    | scope _ => simp [exec, execStep] at h
    | label _ => simp [exec, execStep] at h
    | goto _ => simp [exec, execStep] at h
    | refuse _ => simp [exec, execStep] at h
end
end
end Go.Sx
/-
  SX, PART 14: REGIONS THAT DRAW THEIR ORDER: the run in the order of the text, and the look that every other order comes to the same.
-/
namespace Go.Sx
set_option linter.unusedSimpArgs false
set_option linter.unusedVariables false
set_option linter.unusedSectionVars false
noncomputable section

/-! ### maps that are written again and again, some of the writes left out -/
section maps
variable {α : Type}
def pfind (l : Nat) : List (Nat × α) → Option α
  | [] => none
  | (l', x) :: r => match pfind l r with | some y => some y | none => if Nat.beq l l' then some x else none
def plabels (s : List (Nat × α)) : List Nat := s.map (·.1)
def pset (g : Nat → Option α) (s : List (Nat × α)) : Nat → Option α := fun l => match pfind l s with | some x => some x | none => g l
theorem pfind_none {l : Nat} : ∀ {s : List (Nat × α)}, l ∉ plabels s → pfind l s = none
  | [], _ => rfl
  | (l', x) :: r, h => by
    simp only [plabels, List.map_cons, List.mem_cons, not_or] at h
    have hb : Nat.beq l l' = false := by
      cases hb : Nat.beq l l'
      · rfl
      · exact absurd (Nat.eq_of_beq_eq_true hb) h.1
    simp only [pfind, pfind_none (s := r) h.2, hb]
    rfl
theorem pset_not_mem {g : Nat → Option α} {s : List (Nat × α)} {l : Nat} (h : l ∉ plabels s) : pset g s l = g l := by
  unfold pset; rw [pfind_none h]
theorem pfind_some {l : Nat} : ∀ {s : List (Nat × α)}, l ∈ plabels s → ∃ x, pfind l s = some x
  | [], h => by simp [plabels] at h
  | (l', x) :: r, h => by
    simp only [pfind]
    cases hr : pfind l r with
    | some y => exact ⟨y, rfl⟩
    | none =>
      simp only [plabels, List.map_cons, List.mem_cons] at h
      rcases h with rfl | h
      · exact ⟨x, by simp⟩
      · obtain ⟨y, hy⟩ := pfind_some (s := r) h
        rw [hr] at hy; cases hy
theorem pset_mem {g : Nat → Option α} {s : List (Nat × α)} {l : Nat} (h : l ∈ plabels s) : pset g s l = pfind l s := by
  obtain ⟨x, hx⟩ := pfind_some h
  unfold pset; rw [hx]
variable {δ : Type}
def foldD (D : Nat → Bool) (f : δ → List (Nat × α)) : List δ → Nat → (Nat → Option α) → (Nat → Option α)
  | [], _, g => g
  | d :: r, i, g => foldD D f r (i + 1) (if D i then pset g (f d) else g)
theorem foldD_congr {D D' : Nat → Bool} {f : δ → List (Nat × α)} {l : Nat} : ∀ {ds : List δ} {i : Nat} {g g' : Nat → Option α}, g l = g' l →
    (∀ j d, ds[j]? = some d → D (i + j) ≠ D' (i + j) → l ∉ plabels (f d)) → foldD D f ds i g l = foldD D' f ds i g' l
  | [], i, g, g', hg, _ => hg
  | d :: r, i, g, g', hg, h => by
    simp only [foldD]
    refine foldD_congr ?_ (fun j d' hj hne => h (j + 1) d' (by simpa using hj) (by rwa [show i + (j + 1) = i + 1 + j by omega]))
    have h0 := h 0 d rfl
    simp only [Nat.add_zero] at h0
    by_cases hD : D i = D' i
    · rw [← hD]
      split
      · unfold pset; rw [hg]
      · exact hg
    · have hl := h0 hD
      have e1 : (if D i then pset g (f d) else g) l = g l := by split; exact pset_not_mem hl; rfl
      have e2 : (if D' i then pset g' (f d) else g') l = g' l := by split; exact pset_not_mem hl; rfl
      rw [e1, e2, hg]
/-- The last write counts. -/
theorem foldD_last {D : Nat → Bool} {f : δ → List (Nat × α)} {l : Nat} : ∀ {ds : List δ} {i m : Nat} {g : Nat → Option α} {d : δ}, ds[m]? = some d → D (i + m) = true → l ∈ plabels (f d) →
    (∀ j d', m < j → ds[j]? = some d' → D (i + j) = true → l ∉ plabels (f d')) → foldD D f ds i g l = pfind l (f d)
  | [], i, m, g, d, hm, _, _, _ => by simp at hm
  | d0 :: r, i, 0, g, d, hm, hD, hl, h => by
    simp only [List.getElem?_cons_zero, Option.some.injEq] at hm
    subst hm
    simp only [Nat.add_zero] at hD
    simp only [foldD, hD, if_true]
    have : foldD D f r (i + 1) (pset g (f d0)) l = foldD (fun _ => false) f r (i + 1) (pset g (f d0)) l := by
      refine foldD_congr rfl fun j d' hj hne => ?_
      refine h (j + 1) d' (by omega) (by simpa using hj) ?_
      rw [show i + (j + 1) = i + 1 + j by omega]
      cases hh : D (i + 1 + j)
      · rw [hh] at hne; exact absurd rfl hne
      · rfl
    rw [this]
    have none_ : ∀ (r : List δ) (i : Nat) (g : Nat → Option α), foldD (fun _ => false) f r i g = g := by
      intro r
      induction r with
      | nil => intro i g; rfl
      | cons d r ih => intro i g; simp only [foldD, Bool.false_eq_true, if_false]; exact ih _ _
    rw [none_]
    exact pset_mem hl
  | d0 :: r, i, m + 1, g, d, hm, hD, hl, h => by
    simp only [foldD]
    exact foldD_last (m := m) (by simpa using hm) (by rwa [show i + 1 + m = i + (m + 1) by omega]) hl
      (fun j d' hj hd hDj => h (j + 1) d' (by omega) (by simpa using hd) (by rwa [show i + (j + 1) = i + 1 + j by omega]))
theorem foldD_append (D : Nat → Bool) (f : δ → List (Nat × α)) : ∀ (ds es : List δ) (i : Nat) (g : Nat → Option α), foldD D f (ds ++ es) i g = foldD D f es (i + ds.length) (foldD D f ds i g)
  | [], es, i, g => by simp [foldD]
  | d :: r, es, i, g => by
    simp only [List.cons_append, foldD, List.length_cons, foldD_append D f r es]
    rw [show i + 1 + r.length = i + (r.length + 1) by omega]
end maps
theorem Sets.find_eq (l : Nat) : ∀ s : Sets, s.find l = pfind l s
  | [] => rfl
  | (l', x) :: r => by simp only [Sets.find, pfind, Sets.find_eq l r]; cases pfind l r <;> rfl
theorem Heap.set_eq (h : Heap) (s : Sets) : h.set s = pset h s := by
  funext l; simp only [Heap.set, pset, Sets.find_eq]; cases pfind l s <;> rfl

/-! ### the run -/
structure DE where
  o : Oper
  bef : Nat
  want : Bool
  e : Eff
  n0 : Nat
  hv : T Ent
  rs : Sl
def tb (m i : Nat) : Bool := Nat.beq ((m / Nat.pow 2 i) % 2) 1
def befOf (all : List Nat) (es : List Edge) : Nat :=
  match es with
  | [] => 0
  | e :: r => if Region.binds .any e then Nat.lor (Nat.lor (Nat.pow 2 e.on) (all.getD e.on 0)) (befOf all r) else befOf all r
/-- The part of memory that can be come to from the labels. -/
def reach : Nat → T Ent → List Nat → T Ent → T Ent
  | 0, _, _, acc => acc
  | _, _, [], acc => acc
  | n + 1, view, l :: r, acc => match acc.get l with
    | some _ => reach n view r acc
    | none => match view.get l with
      | some x => reach n view (x.blk.labs ++ r) (T.put 40 acc l x)
      | none => reach n view r acc
def only (view : T Ent) (l : Nat) : T Ent := match view.get l with | some x => T.put 40 .leaf l x | none => .leaf
def labsOf (ev : Ev) (x : Operand) : List Nat := match ev x with | some v => v.labs | none => []
/-- The label that a place is in. -/
def ptrLab : Option SV → Option Nat
  | some (.v (.one (.tptr l _ _ _))) => some l
  | some (.v (.one (.optr l _ _ _))) => some l
  | some (.v (.one (.xptr l _))) => some l
  | x => match asP x with | some (l, _) => some l | none => none
/-- A block that is looked at as a table, or a slice. -/
def soft (view : T Ent) : List Nat → T Ent
  | [l] => match view.get l with
    | some ⟨_, .seq _ _ _ _ _⟩ => only view l
    | some ⟨_, .lst _ _ _ _ _⟩ => only view l
    | some ⟨_, .bag _ _ _ _⟩ => only view l
    | some ⟨_, .nn _⟩ => only view l
    | some ⟨_, .arr _ _ _ _⟩ => only view l
    | _ => .leaf
  | _ => .leaf
/-- The part of memory that an operation may look at. -/
def needs (ev : Ev) (view : T Ent) : Op → T Ent
  | .load _ a => match ptrLab (ev a) with | some l => only view l | none => .leaf
  | .store _ a _ => match ptrLab (ev a) with | some l => only view l | none => .leaf
  | .call c => match c.callee with
    | .value f => reach 100000 view (labsOf ev f ++ c.args.toList.flatMap (labsOf ev)) .leaf
    | _ => reach 100000 view (c.args.toList.flatMap (labsOf ev)) .leaf
  | .indexAddr _ x _ => soft view (labsOf ev x)
  | .slice _ x _ _ _ => soft view (labsOf ev x)
  | .convert _ _ x => soft view (labsOf ev x)
  | .binOp _ _ x _ _ => soft view (labsOf ev x)
  | _ => .leaf
def touches : Op → Bool
  | .load .. | .store .. | .call .. | .indexAddr .. | .slice .. | .convert .. | .binOp .. => true
  | _ => false
/-- What those ahead have made of memory. -/
def viewOf (bef : Nat) : List DE → Nat → T Ent → T Ent
  | [], _, h => h
  | d :: r, i, h => viewOf bef r (i + 1) (if tb bef i then putSets h d.e.sets else h)
def restrict (slots : Sl) : List Tmp → Sl → Sl
  | [], t => t
  | x :: r, t => restrict slots r (match slots.get x with | some v => t.put x v | none => t)
section
variable {R : Type}
def tKI {α : Type} (_ : α → (α → R) → R) (t : T α) (k : T α → R) : R := k t
def tK {α : Type} (f : α → (α → R) → R) (t : T α) : (T α → R) → R :=
  T.rec (motive := fun _ => (T α → R) → R) (fun k => k .leaf) (fun _ v _ hl hr k => hl fun l => oK f v fun v => hr fun r => k (.node l v r)) t
theorem tK_eq {α : Type} {f : α → (α → R) → R} (hf : ∀ x k, f x k = k x) (t : T α) : ∀ k, tK f t k = k t := by
  induction t with
  | leaf => intro k; rfl
  | node l v r hl hr =>
    intro k
    have e : tK f (.node l v r) k = tK f l fun l => oK f v fun v => tK f r fun r => k (.node l v r) := rfl
    rw [e, hl, oK_eq hf, hr]
def restrictK (slots : Sl) (l : List Tmp) (t : Sl) (k : Sl → R) : R := match l with
  | [] => k t
  | x :: r => match slots.get x with
    | some v => restrictK slots r (t.put x v) k
    | none => restrictK slots r t k
theorem restrictK_eq (slots : Sl) : ∀ (l : List Tmp) (t : Sl) (k : Sl → R), restrictK slots l t k = k (restrict slots l t)
  | [], t, k => by simp only [restrictK, restrict]
  | x :: r, t, k => by
    simp only [restrictK, restrict]
    cases slots.get x <;> simp only [restrictK_eq slots r]
def ent1K (x : Ent) (k : Ent → R) : R := match x with | ⟨wr, b⟩ => k ⟨wr, b⟩
theorem ent1K_eq (x : Ent) (k : Ent → R) : ent1K x k = k x := by cases x; rfl
def DE.plainK (d : DE) (k : DE → R) : R := match d with | ⟨o, bef, want, e, n0, hv, rs⟩ => k ⟨o, bef, want, e, n0, hv, rs⟩
theorem DE.plainK_eq (d : DE) (k : DE → R) : d.plainK k = k d := by cases d; rfl
end
def drawRun (ty : Tys) (callF : CallF) (all : List Oper) (heap0 : T Ent) : List Oper → List DE → Known → Sl → Nat → Option (List (Known × (List DE × Sl)))
  | [], prev, k, slots, _ => some [(k, prev, slots)]
  | o :: r, prev, k, slots, nx =>
    natK (befOf (prev.map (·.bef)) o.after.toList) fun bef =>
    restrictK slots (o.looksAt all.toArray) .nil fun rs =>
    tK ent1K (match touches o.op with | true => needs (evOf rs.get) (viewOf bef prev 0 heap0) o.op | false => .leaf) fun hv =>
    match guardAlts all rs k o with
    | none => none
    | some gs => bindS (fun k b => k.whK fun k =>
        match b with
        | true =>
          (match opAlts ty callF (evOf rs.get) hv nx k o with
          | none => none
          | some es => bindS (fun k e => k.whK fun k => e.deepK fun e => putSlotK slots o.dst e.res fun slots => listK DE.plainK (prev ++ [⟨o, bef, true, e, nx, hv, rs⟩]) fun prev => drawRun ty callF all heap0 r prev k slots e.nx) es)
        | false => putSlotK slots o.dst undefSV fun slots => listK DE.plainK (prev ++ [⟨o, bef, false, ⟨undefSV, [], nx⟩, nx, hv, rs⟩]) fun prev => drawRun ty callF all heap0 r prev k slots nx) gs
def dstNot (d : Option Tmp) (l : List Tmp) : Bool := match d with | some t => !l.contains t | none => true
def CV.avoid (lo hi : Nat) : CV → Bool
  | .ptr l _ => !(Nat.ble lo l && Nat.blt l hi)
  | .slc l _ _ _ => !(Nat.ble lo l && Nat.blt l hi)
  | .fn _ a b => a.all (fun p => !(Nat.ble lo p.1 && Nat.blt p.1 hi)) && b.all (fun p => !(Nat.ble lo p.1 && Nat.blt p.1 hi))
  | .opq i => !(Nat.ble lo i && Nat.blt i hi)
  | .tslc l _ _ _ _ => !(Nat.ble lo l && Nat.blt l hi)
  | .tptr l _ _ _ => !(Nat.ble lo l && Nat.blt l hi)
  | .osl l => !(Nat.ble lo l && Nat.blt l hi)
  | .osub l _ _ => !(Nat.ble lo l && Nat.blt l hi)
  | .optr l _ _ _ => !(Nat.ble lo l && Nat.blt l hi)
  | .xptr l _ => !(Nat.ble lo l && Nat.blt l hi)
  | .yld l => !(Nat.ble lo l && Nat.blt l hi)
  | _ => true
def V1.avoid (lo hi : Nat) : V1 → Bool
  | .one c => c.avoid lo hi
  | .agg cs => cs.all (CV.avoid lo hi)
def SV.avoid (lo hi : Nat) : SV → Bool
  | .v x => x.avoid lo hi
  | .tup xs => xs.all (V1.avoid lo hi)
def Blk.avoid (lo hi : Nat) : Blk → Bool
  | .cells cs _ => cs.all (CV.avoid lo hi)
  | .tab q _ _ _ => !(Nat.ble lo q && Nat.blt q hi)
  | .seq q _ _ _ _ => !(Nat.ble lo q && Nat.blt q hi)
  | .lst q cs _ _ _ => !(Nat.ble lo q && Nat.blt q hi) && cs.all (CV.avoid lo hi)
  | .bag q _ _ _ => !(Nat.ble lo q && Nat.blt q hi)
  | .nn q => !(Nat.ble lo q && Nat.blt q hi)
  | .lrec _ cs => cs.all (CV.avoid lo hi)
  | _ => true
def DE.avoid (d : DE) (lo hi : Nat) : Bool := d.e.res.avoid lo hi && d.e.sets.all fun x => x.2.blk.avoid lo hi
def clear (h : T Ent) (s : Sets) : Bool := s.all fun x => (h.get x.1).isNone
/-- Two operations of which neither waits for the other: do they keep clear of one another? -/
def pairOk (all : Array Oper) (a b : DE) : Bool :=
  dstNot a.o.dst (b.o.looksAt all) && (dstNot b.o.dst (a.o.looksAt all) && ((match a.o.dst, b.o.dst with | some x, some y => !Nat.beq x y | _, _ => true) &&
    (a.e.sets.all (fun x => b.e.sets.all fun y => !Nat.beq x.1 y.1) && (clear b.hv a.e.sets && (clear a.hv b.e.sets && (a.avoid b.n0 b.e.nx && b.avoid a.n0 a.e.nx))))))
def pairs1 (all : Array Oper) (i : Nat) (a : DE) (r : List DE) : Bool := r.all fun b => tb b.bef i || pairOk all a b
def pairsOk (all : Array Oper) : List DE → Nat → Bool
  | [], _ => true
  | a :: r, i => pairs1 all i a r && pairsOk all r (i + 1)
def ownOk (heap0 : T Ent) (nx0 : Nat) (d : DE) : Bool := d.e.sets.all fun x => Nat.ble nx0 x.1 || (match heap0.get x.1 with | some y => y.wr | none => false)
def edgesOk : List Oper → Nat → Bool
  | [], _ => true
  | o :: r, i => o.after.toList.all (fun e => !Region.binds .any e || Nat.blt e.on i) && edgesOk r (i + 1)
def putAll (heap : T Ent) : List DE → T Ent
  | [] => heap
  | d :: r => putAll (putSets heap d.e.sets) r
def logAll : List DE → List Nat
  | [] => []
  | d :: r => d.e.sets.labels ++ logAll r
def lastNx (nx : Nat) : List DE → Nat
  | [] => nx
  | d :: r => lastNx d.e.nx r
def drawOk (ops : List Oper) (s : S) (ds : List DE) : Bool := pairsOk ops.toArray ds 0 && ds.all (fun d => ownOk s.heap s.nx d && Nat.ble d.n0 d.e.nx)
def drawOps (ty : Tys) (callF : CallF) (nt : Nat) (ops : List Oper) (k : Known) (s : S) : Option (List (Known × S)) :=
  if edgesOk ops 0 && ops.all (dstOk nt) then
    match drawRun ty callF ops s.heap ops [] k s.slots s.nx with
    | some l => mapO (fun x => if drawOk ops s x.1 then some ⟨x.2, putAll s.heap x.1, lastNx s.nx x.1, logAll x.1 ++ s.log⟩ else none) l
    | none => none
  else none
end
end Go.Sx
/-
  SX, PART 15: DRAWN REGIONS, SOUND: the facts of each operation, and the words for what is live.
-/
namespace Go.Sx
set_option linter.unusedSimpArgs false
set_option linter.unusedVariables false
set_option linter.unusedSectionVars false
noncomputable section

/-! ### labels that a value names -/
def CV.allL (p : Nat → Prop) : CV → Prop
  | .ptr l _ => p l
  | .slc l _ _ _ => p l
  | .fn _ a b => (∀ x ∈ a, p x.1) ∧ (∀ x ∈ b, p x.1)
  | .opq i => p i
  | .tslc l _ _ _ _ => p l
  | .tptr l _ _ _ => p l
  | .osl l => p l
  | .osub l _ _ => p l
  | .optr l _ _ _ => p l
  | .xptr l _ => p l
  | .yld l => p l
  | _ => True
def V1.allL (p : Nat → Prop) : V1 → Prop
  | .one c => c.allL p
  | .agg cs => ∀ c ∈ cs, CV.allL p c
def SV.allL (p : Nat → Prop) : SV → Prop
  | .v x => x.allL p
  | .tup xs => ∀ x ∈ xs, V1.allL p x
def Blk.allL (p : Nat → Prop) : Blk → Prop
  | .cells cs _ => ∀ c ∈ cs, CV.allL p c
  | .tab q _ _ _ => p q
  | .arr _ _ _ _ => True
  | .seq q _ _ _ _ => p q
  | .lst q cs _ _ _ => p q ∧ ∀ c ∈ cs, CV.allL p c
  | .bag q _ _ _ => p q
  | .nn q => p q
  | .lrec _ cs => ∀ c ∈ cs, CV.allL p c
  | .dead => True
theorem CV.below_iff {n : Nat} {c : CV} : c.below n ↔ c.allL (· < n) := by cases c <;> exact Iff.rfl
theorem V1.below_iff {n : Nat} {x : V1} : x.below n ↔ x.allL (· < n) := by
  cases x with
  | one c => exact CV.below_iff
  | agg cs => exact forall_congr' fun c => forall_congr' fun _ => CV.below_iff
theorem SV.below_iff {n : Nat} {x : SV} : x.below n ↔ x.allL (· < n) := by
  cases x with
  | v x => exact V1.below_iff
  | tup xs => exact forall_congr' fun c => forall_congr' fun _ => V1.below_iff
theorem Blk.below_iff {n : Nat} {x : Blk} : x.below n ↔ x.allL (· < n) := by
  cases x with
  | cells cs _ => exact forall_congr' fun c => forall_congr' fun _ => CV.below_iff
  | lst q cs _ _ _ => exact and_congr Iff.rfl (forall_congr' fun c => forall_congr' fun _ => CV.below_iff)
  | bag q _ _ _ => exact Iff.rfl
  | nn q => exact Iff.rfl
  | lrec i cs => exact forall_congr' fun c => forall_congr' fun _ => CV.below_iff
  | _ => exact Iff.rfl
theorem CV.allL_mono {p q : Nat → Prop} {c : CV} (h : ∀ l, p l → q l) (hc : c.allL p) : c.allL q := by
  cases c <;> simp only [CV.allL] at hc ⊢ <;> first | exact h _ hc | exact ⟨fun x hx => h _ (hc.1 x hx), fun x hx => h _ (hc.2 x hx)⟩
theorem V1.allL_mono {p q : Nat → Prop} {c : V1} (h : ∀ l, p l → q l) (hc : c.allL p) : c.allL q := by
  cases c with
  | one c => exact CV.allL_mono h hc
  | agg cs => exact fun c hm => CV.allL_mono h (hc c hm)
theorem SV.allL_mono {p q : Nat → Prop} {c : SV} (h : ∀ l, p l → q l) (hc : c.allL p) : c.allL q := by
  cases c with
  | v c => exact V1.allL_mono h hc
  | tup cs => exact fun c hm => V1.allL_mono h (hc c hm)
theorem Blk.allL_mono {p q : Nat → Prop} {c : Blk} (h : ∀ l, p l → q l) (hc : c.allL p) : c.allL q := by
  cases c with
  | cells cs _ => exact fun c hm => CV.allL_mono h (hc c hm)
  | tab q _ _ _ => exact h _ hc
  | seq q _ _ _ _ => exact h _ hc
  | lst q cs _ _ _ => exact ⟨h _ hc.1, fun c hm => CV.allL_mono h (hc.2 c hm)⟩
  | bag q _ _ _ => exact h _ hc
  | nn q => exact h _ hc
  | lrec i cs => exact fun c hm => CV.allL_mono h (hc c hm)
  | _ => trivial
theorem CV.allL_and {p q : Nat → Prop} {c : CV} (h : c.allL p) (h' : c.allL q) : c.allL fun l => p l ∧ q l := by
  cases c <;> simp only [CV.allL] at h h' ⊢ <;> first | exact ⟨h, h'⟩ | exact ⟨fun x hx => ⟨h.1 x hx, h'.1 x hx⟩, fun x hx => ⟨h.2 x hx, h'.2 x hx⟩⟩
theorem CV.allL_forall {ι : Type} {p : ι → Nat → Prop} {c : CV} (h : ∀ i, c.allL (p i)) : c.allL fun l => ∀ i, p i l := by
  cases c <;> simp only [CV.allL] at h ⊢ <;> first | exact h | exact ⟨fun x hx i => (h i).1 x hx, fun x hx i => (h i).2 x hx⟩
theorem V1.allL_forall {ι : Type} {p : ι → Nat → Prop} {c : V1} (h : ∀ i, c.allL (p i)) : c.allL fun l => ∀ i, p i l := by
  cases c with
  | one c => exact CV.allL_forall h
  | agg cs => exact fun c hm => CV.allL_forall fun i => h i c hm
theorem SV.allL_forall {ι : Type} {p : ι → Nat → Prop} {c : SV} (h : ∀ i, c.allL (p i)) : c.allL fun l => ∀ i, p i l := by
  cases c with
  | v c => exact V1.allL_forall h
  | tup cs => exact fun c hm => V1.allL_forall fun i => h i c hm
theorem Blk.allL_forall {ι : Type} {p : ι → Nat → Prop} {c : Blk} (h : ∀ i, c.allL (p i)) : c.allL fun l => ∀ i, p i l := by
  cases c with
  | cells cs _ => exact fun c hm => CV.allL_forall fun i => h i c hm
  | tab q _ _ _ => exact h
  | seq q _ _ _ _ => exact h
  | lst q cs _ _ _ => exact ⟨fun i => (h i).1, fun c hm => CV.allL_forall fun i => (h i).2 c hm⟩
  | bag q _ _ _ => exact fun i => h i
  | nn q => exact fun i => h i
  | lrec i cs => exact fun c hm => CV.allL_forall fun i => h i c hm
  | _ => trivial
theorem f_allL {β β' : Lab} {l : Nat} (h : β'.b l = β.b l ∧ β'.o l = β.o l) : β'.f l = β.f l := by unfold Lab.f; rw [h.2]
theorem CV.den_allL {p : Nat → Prop} {ρ : Env} {β β' : Lab} (h : ∀ l, p l → β'.b l = β.b l ∧ β'.o l = β.o l) {c : CV} (hc : c.allL p) : c.den ρ β' = c.den ρ β := by
  have pts : ∀ ps : List (Nat × Nat), (∀ x ∈ ps, p x.1) → ps.map β'.pt = ps.map β.pt := fun ps hp => List.map_congr_left fun x hx => by simp only [Lab.pt, (h x.1 (hp x hx)).1]
  cases c <;> simp only [CV.allL, CV.den] at hc ⊢ <;> first | rw [(h _ hc).1, f_allL (h _ hc)] | rw [(h _ hc).1, (h _ hc).2] | rw [(h _ hc).1] | rw [(h _ hc).2] | rw [pts _ hc.1, pts _ hc.2]
theorem V1.den_allL {p : Nat → Prop} {ρ : Env} {β β' : Lab} (h : ∀ l, p l → β'.b l = β.b l ∧ β'.o l = β.o l) {c : V1} (hc : c.allL p) : c.den ρ β' = c.den ρ β := by
  cases c with
  | one c => exact CV.den_allL h hc
  | agg cs => simp only [V1.den]; rw [List.map_congr_left fun c hm => CV.den_allL h (hc c hm)]
theorem SV.den_allL {p : Nat → Prop} {ρ : Env} {β β' : Lab} (h : ∀ l, p l → β'.b l = β.b l ∧ β'.o l = β.o l) {c : SV} (hc : c.allL p) : c.den ρ β' = c.den ρ β := by
  cases c with
  | v c => exact V1.den_allL h hc
  | tup cs => simp only [SV.den]; rw [List.map_congr_left fun c hm => V1.den_allL h (hc c hm)]
theorem Blk.hb_allL {p : Nat → Prop} {β β' : Lab} (h : ∀ l, p l → β'.b l = β.b l ∧ β'.o l = β.o l) {x : Blk} (hx : x.allL p) : x.hb β' ↔ x.hb β := by
  cases x with
  | seq q t n ks ty => simp only [Blk.hb]; rw [(h q hx).2]
  | lst q cs n sz ty => simp only [Blk.hb]; rw [(h q hx.1).2]
  | bag q n sz ty => simp only [Blk.hb]; rw [(h q hx).2]
  | nn q => exact Iff.rfl
  | _ => exact Iff.rfl
theorem Blk.sat_allL {p : Nat → Prop} {ρ : Env} {β β' : Lab} (h : ∀ l, p l → β'.b l = β.b l ∧ β'.o l = β.o l) {b : Nat} {w w' : World} {x : Blk} (hx : x.allL p) (hw : x.hb β → w'.heap[b]? = w.heap[b]?) (hs : x.sat ρ β b w) : x.sat ρ β' b w' := by
  cases x with
  | cells cs ty =>
    simp only [Blk.sat] at hs ⊢
    rw [hw trivial, hs, List.map_congr_left fun c hm => CV.den_allL h (hx c hm)]
  | tab q t n ks =>
    intro i hi j k hk
    rw [f_allL (h q hx), ← hs i hi j k hk]
    simp only [World.cell?, hw trivial]
  | arr t n k ty =>
    simp only [Blk.sat] at hs ⊢
    rw [hw trivial, hs]
  | seq q t n ks ty =>
    simp only [Blk.sat] at hs ⊢
    rw [(h q hx).2]
    obtain ⟨a, c, h1, h2, h3⟩ := hs
    refine ⟨a, c, h1, h2, fun hc => ?_⟩
    obtain ⟨f, arr, h4, h5, h6, h7⟩ := h3 hc
    have he := hw (by simp only [Blk.hb, h1, capOf]; exact hc)
    exact ⟨f, arr, h4, by rw [he, h5], h6, h7.keep he⟩
  | lst q cs n sz ty =>
    simp only [Blk.sat] at hs ⊢
    rw [(h q hx.1).2, List.map_congr_left fun c hm => CV.den_allL h (hx.2 c hm)]
    obtain ⟨a, c, h1, h2, h3⟩ := hs
    refine ⟨a, c, h1, h2, fun hc => ?_⟩
    obtain ⟨f, arr, h4, h5, h6, h7⟩ := h3 hc
    have he := hw (by simp only [Blk.hb, h1, capOf]; exact hc)
    exact ⟨f, arr, h4, by rw [he, h5], h6, fun j u hj => by rw [← h7 j u hj]; simp only [World.cell?, he]⟩
  | bag q n sz ty =>
    simp only [Blk.sat] at hs ⊢
    rw [(h q hx).2]
    obtain ⟨a, c, h1, h2, h3⟩ := hs
    refine ⟨a, c, h1, h2, fun hc => ?_⟩
    obtain ⟨f, arr, h4, h5, h6, h7⟩ := h3 hc
    have he := hw (by simp only [Blk.hb, h1, capOf]; exact hc)
    exact ⟨f, arr, h4, by rw [he, h5], h6, fun j u hj => by simp at hj⟩
  | nn q =>
    simp only [Blk.sat] at hs ⊢
    rw [(h q hx).2]
    exact hs
  | lrec i cs =>
    simp only [Blk.sat] at hs ⊢
    rw [List.map_congr_left fun c hm => CV.den_allL h (hx c hm)]
    obtain ⟨r, h1, h2⟩ := hs
    exact ⟨r, by rw [hw trivial, h1], h2⟩
  | dead => trivial
def Out (lo hi l : Nat) : Prop := ¬ (lo ≤ l ∧ l < hi)
theorem out_of {lo hi l : Nat} (h : (!(Nat.ble lo l && Nat.blt l hi)) = true) : Out lo hi l := by
  rintro ⟨h1, h2⟩
  have e1 : Nat.ble lo l = true := Nat.ble_eq.mpr h1
  have e2 : Nat.blt l hi = true := by simpa [Nat.blt_eq] using h2
  rw [e1, e2] at h
  cases h
theorem CV.avoid_ok {lo hi : Nat} {c : CV} (h : c.avoid lo hi = true) : c.allL (Out lo hi) := by
  cases c <;> simp only [CV.avoid, CV.allL] at h ⊢ <;> first
    | exact out_of h
    | (simp only [Bool.and_eq_true, List.all_eq_true] at h; exact ⟨fun x hx => out_of (h.1 x hx), fun x hx => out_of (h.2 x hx)⟩)
theorem V1.avoid_ok {lo hi : Nat} {c : V1} (h : c.avoid lo hi = true) : c.allL (Out lo hi) := by
  cases c with
  | one c => exact CV.avoid_ok h
  | agg cs => exact fun c hm => CV.avoid_ok (List.all_eq_true.1 h c hm)
theorem SV.avoid_ok {lo hi : Nat} {c : SV} (h : c.avoid lo hi = true) : c.allL (Out lo hi) := by
  cases c with
  | v c => exact V1.avoid_ok h
  | tup cs => exact fun c hm => V1.avoid_ok (List.all_eq_true.1 h c hm)
theorem Blk.avoid_ok {lo hi : Nat} {c : Blk} (h : c.avoid lo hi = true) : c.allL (Out lo hi) := by
  cases c with
  | cells cs _ => exact fun c hm => CV.avoid_ok (List.all_eq_true.1 h c hm)
  | tab q _ _ _ => exact out_of h
  | seq q _ _ _ _ => exact out_of h
  | lst q cs _ _ _ =>
    simp only [Blk.avoid, Bool.and_eq_true] at h
    exact ⟨out_of h.1, fun c hm => CV.avoid_ok (List.all_eq_true.1 h.2 c hm)⟩
  | bag q _ _ _ => exact out_of h
  | nn q => exact out_of h
  | lrec i cs => exact fun c hm => CV.avoid_ok (List.all_eq_true.1 h c hm)
  | _ => trivial

theorem reach_sub : ∀ (n : Nat) (view : T Ent) (ls : List Nat) (acc : T Ent), (∀ l x, acc.get l = some x → view.get l = some x) → ∀ l x, (reach n view ls acc).get l = some x → view.get l = some x
  | 0, view, ls, acc, h, l, x, hx => h l x hx
  | n + 1, view, [], acc, h, l, x, hx => h l x hx
  | n + 1, view, m :: r, acc, h, l, x, hx => by
    unfold reach at hx
    split at hx
    · exact reach_sub n view r acc h l x hx
    · split at hx
      · rename_i y hy
        refine reach_sub n view _ _ (fun l' x' hl' => ?_) l x hx
        rcases T.get_put 40 acc m l' y x' hl' with ⟨rfl, rfl⟩ | ⟨_, e⟩
        · exact hy
        · exact h l' x' e
      · exact reach_sub n view r acc h l x hx
theorem leaf_sub {view : T Ent} : ∀ l x, (T.leaf : T Ent).get l = some x → view.get l = some x := fun l x h => by cases h
theorem only_sub (view : T Ent) (m : Nat) : ∀ l x, (only view m).get l = some x → view.get l = some x := by
  intro l x h
  unfold only at h
  split at h
  · rename_i y hy
    rcases T.get_put 40 .leaf m l y x h with ⟨rfl, rfl⟩ | ⟨_, e⟩
    · exact hy
    · cases e
  · cases h
theorem soft_sub (view : T Ent) (ls : List Nat) : ∀ l x, (soft view ls).get l = some x → view.get l = some x := by
  unfold soft
  split
  · split
    · exact only_sub _ _
    · exact only_sub _ _
    · exact only_sub _ _
    · exact only_sub _ _
    · exact only_sub _ _
    · exact leaf_sub
  · exact leaf_sub
theorem needs_sub (ev : Ev) (view : T Ent) (o : Op) : ∀ l x, (needs ev view o).get l = some x → view.get l = some x := by
  unfold needs
  split
  · split
    · exact only_sub _ _
    · exact leaf_sub
  · split
    · exact only_sub _ _
    · exact leaf_sub
  · split
    · exact reach_sub _ _ _ _ leaf_sub
    · exact reach_sub _ _ _ _ leaf_sub
  · exact soft_sub _ _
  · exact soft_sub _ _
  · exact soft_sub _ _
  · exact soft_sub _ _
  · exact leaf_sub
theorem hv_sub {ev : Ev} {view : T Ent} {o : Op} : ∀ l x, (match touches o with | true => needs ev view o | false => .leaf : T Ent).get l = some x → view.get l = some x := by
  split
  · exact needs_sub _ _ _
  · exact leaf_sub
/-! ### what the run says of each operation -/
section
variable {P : Program} {ty : Tys} (hty : TysOk P ty) {ρ : Env}
structure DEok (P : Program) (ρ : Env) (all : List Oper) (heap0 : T Ent) (prev : List DE) (slots : Sl) (nx : Nat) (d : DE) : Prop where
  bef : d.bef = befOf (prev.map (·.bef)) d.o.after.toList
  n0 : d.n0 = nx
  rs : d.rs = restrict slots (d.o.looksAt all.toArray) .nil
  hv : ∀ l x, d.hv.get l = some x → (viewOf d.bef prev 0 heap0).get l = some x
  guard : ∀ (Δ : Dv) (β : Lab) (n : Nat) (a : Act), SatA Δ ρ β n d.rs.get a → Region.wanted d.o (yielded all.toArray a.tmps) = d.want
  yes : d.want = true → OGood P ρ (evOf d.rs.get) d.hv.get d.n0 d.o d.e
  no : d.want = false → d.e = ⟨undefSV, [], d.n0⟩
def DChain (P : Program) (ρ : Env) (all : List Oper) (heap0 : T Ent) : List DE → Sl → Nat → List DE → Sl → Prop
  | _, slots, _, [], fin => fin = slots
  | prev, slots, nx, d :: r, fin => DEok P ρ all heap0 prev slots nx d ∧ DChain P ρ all heap0 (prev ++ [d]) (putSlot slots d.o.dst d.e.res) d.e.nx r fin
include hty in
theorem drawRun_ok {callF : CallF} (hc : CallOk P ρ callF) {fnm : FuncId → Option Func} (hfn : FnOk P fnm) (hdom : Dom fnm callF) {all : List Oper} {heap0 : T Ent} :
    ∀ (ops : List Oper) (prev : List DE) (k : Known) (slots : Sl) (nx : Nat) (l : List (Known × (List DE × Sl))), drawRun ty callF all heap0 ops prev k slots nx = some l →
      AltsOk ρ k l fun x => ∃ new, x.1 = prev ++ new ∧ new.map (·.o) = ops ∧ DChain P ρ all heap0 prev slots nx new x.2
  | [], prev, k, slots, nx, l, h => by
    simp only [drawRun] at h
    cases h
    exact AltsOk.single fun _ => ⟨[], by simp, rfl, rfl⟩
  | o :: r, prev, k, slots, nx, l, h => by
    simp only [drawRun, bindS_eq, natK_eq, restrictK_eq, tK_eq ent1K_eq, Known.whK_eq, Eff.deepK_eq, putSlotK_eq, listK_eq DE.plainK_eq] at h
    split at h
    · cases h
    · rename_i gs hgs
      refine (guard_ok hgs).bind h fun k' b ys hys => ?_
      split at hys
      · split at hys
        · cases hys
        · rename_i es hes
          refine (op_ok hty hc hfn hdom hes).bind hys fun k'' e zs hzs => ?_
          refine (drawRun_ok hc hfn hdom r _ k'' _ _ zs hzs).weaken fun x hx he hg => ?_
          obtain ⟨new, h1, h2, h3⟩ := hx
          refine ⟨_ :: new, by rw [h1, List.append_assoc]; rfl, by rw [List.map_cons, h2], ⟨rfl, rfl, rfl, ?_, ?_, ?_, ?_⟩, h3⟩
          · exact hv_sub
          · intro Δ β n a hs; rw [hg Δ β n a hs]
          · intro _; exact he
          · intro hh; cases hh
      · refine (drawRun_ok hc hfn hdom r _ k' _ _ ys hys).weaken fun x hx hg => ?_
        obtain ⟨new, h1, h2, h3⟩ := hx
        refine ⟨_ :: new, by rw [h1, List.append_assoc]; rfl, by rw [List.map_cons, h2], ⟨rfl, rfl, rfl, ?_, ?_, ?_, ?_⟩, h3⟩
        · exact hv_sub
        · intro Δ β n a hs; rw [hg Δ β n a hs]
        · intro hh; cases hh
        · intro _; rfl
end
def slotsAfter (slots : Sl) (ds : List DE) : Sl := ds.foldl (fun t d => putSlot t d.o.dst d.e.res) slots
theorem lastNx_append (nx : Nat) : ∀ (ds : List DE) (d : DE), lastNx nx (ds ++ [d]) = d.e.nx
  | [], _ => rfl
  | x :: r, d => lastNx_append x.e.nx r d
theorem DChain.get {P : Program} {ρ : Env} {all : List Oper} {heap0 : T Ent} : ∀ {ds prev : List DE} {slots : Sl} {nx : Nat} {fin : Sl}, DChain P ρ all heap0 prev slots nx ds fin →
    fin = slotsAfter slots ds ∧ ∀ i d, ds[i]? = some d → DEok P ρ all heap0 (prev ++ ds.take i) (slotsAfter slots (ds.take i)) (lastNx nx (ds.take i)) d
  | [], prev, slots, nx, fin, h => ⟨h, fun i d hd => by simp at hd⟩
  | d :: r, prev, slots, nx, fin, h => by
    obtain ⟨h1, h2⟩ := h
    have ih := h2.get
    refine ⟨ih.1, fun i d' hd => ?_⟩
    cases i with
    | zero =>
      simp only [List.getElem?_cons_zero, Option.some.injEq] at hd
      subst hd
      simpa [slotsAfter, lastNx] using h1
    | succ i =>
      simp only [List.getElem?_cons_succ] at hd
      have := ih.2 i d' hd
      simpa [slotsAfter, lastNx, List.append_assoc] using this
end
end Go.Sx
/-
  SX, PART 16: DRAWN REGIONS, SOUND: small laws.
-/
namespace Go.Sx
set_option linter.unusedSimpArgs false
set_option linter.unusedVariables false
set_option linter.unusedSectionVars false
noncomputable section

section maps
variable {α δ : Type}
theorem foldD_mono {D : Nat → Bool} {f : δ → List (Nat × α)} {l : Nat} {x : α} : ∀ {ds : List δ} {i : Nat} {g g' : Nat → Option α}, (∀ y, g l = some y → g' l = some y) → foldD D f ds i g l = some x → foldD D f ds i g' l = some x
  | [], _, _, _, h, hx => h _ hx
  | d :: r, i, g, g', h, hx => by
    simp only [foldD] at hx ⊢
    refine foldD_mono (fun y hy => ?_) hx
    split
    · rename_i hD
      rw [if_pos hD] at hy
      unfold pset at hy ⊢
      split at hy
      · exact hy
      · exact h y hy
    · rename_i hD
      rw [if_neg hD] at hy
      exact h y hy
theorem foldD_cases {D : Nat → Bool} {f : δ → List (Nat × α)} {l : Nat} {x : α} : ∀ {ds : List δ} {i : Nat} {g : Nat → Option α}, foldD D f ds i g l = some x →
    g l = some x ∨ ∃ j d, ds[j]? = some d ∧ D (i + j) = true ∧ l ∈ plabels (f d) ∧ pfind l (f d) = some x
  | [], _, _, h => .inl h
  | d :: r, i, g, h => by
    simp only [foldD] at h
    rcases foldD_cases h with h | ⟨j, d', h1, h2, h3, h4⟩
    · by_cases hD : D i = true
      · rw [if_pos hD] at h
        by_cases hm : l ∈ plabels (f d)
        · rw [pset_mem hm] at h
          exact .inr ⟨0, d, rfl, by simpa using hD, hm, h⟩
        · rw [pset_not_mem hm] at h
          exact .inl h
      · rw [if_neg hD] at h
        exact .inl h
    · exact .inr ⟨j + 1, d', by simpa using h1, by rw [show i + (j + 1) = i + 1 + j by omega]; exact h2, h3, h4⟩
theorem foldD_take {f : δ → List (Nat × α)} (D : Nat → Bool) (ds : List δ) (i : Nat) (g : Nat → Option α) (l : Nat) : foldD D f (ds.take i) 0 g l = foldD (fun j => decide (j < i) && D j) f ds 0 g l := by
  have h := foldD_append (fun j => decide (j < i) && D j) f (ds.take i) (ds.drop i) 0 g
  rw [List.take_append_drop] at h
  rw [h]
  have h1 : foldD (fun j => decide (j < i) && D j) f (ds.drop i) (0 + (ds.take i).length) (foldD (fun j => decide (j < i) && D j) f (ds.take i) 0 g) l = foldD (fun j => decide (j < i) && D j) f (ds.take i) 0 g l := by
    have none_ : ∀ (r : List δ) (m : Nat) (g : Nat → Option α), (∀ j, j < r.length → i ≤ m + j) → foldD (fun j => decide (j < i) && D j) f r m g = g := by
      intro r
      induction r with
      | nil => intro m g _; rfl
      | cons d r ih =>
        intro m g hm
        have h0 := hm 0 (by simp)
        simp only [foldD]
        rw [if_neg (by simp; intro; omega)]
        exact ih _ _ fun j hj => by have := hm (j + 1) (by simpa using hj); omega
    rw [none_]
    intro j hj
    simp only [List.length_take, List.length_drop] at hj ⊢
    omega
  rw [h1]
  refine foldD_congr rfl fun j d hj hne => ?_
  exfalso
  have hlt : j < i := by
    have := (List.getElem?_eq_some_iff.1 hj).1
    simp only [List.length_take] at this
    omega
  simp [hlt] at hne
theorem pfind_append (l : Nat) : ∀ (s s' : List (Nat × α)), pfind l (s ++ s') = match pfind l s' with | some x => some x | none => pfind l s
  | [], s' => by simp only [List.nil_append, pfind]; cases pfind l s' <;> rfl
  | (l', x) :: r, s' => by
    simp only [List.cons_append, pfind, pfind_append l r s']
    cases pfind l s' <;> rfl
theorem pset_append (g : Nat → Option α) (s s' : List (Nat × α)) : pset g (s ++ s') = pset (pset g s) s' := by
  funext l
  simp only [pset, pfind_append]
  cases pfind l s' <;> rfl
end maps

def fS (d : DE) : List (Nat × SV) := match d.o.dst with | some t => [(t, d.e.res)] | none => []
def fH (d : DE) : List (Nat × Ent) := d.e.sets
theorem fS_mem {d : DE} {t : Nat} : t ∈ plabels (fS d) ↔ d.o.dst = some t := by
  unfold fS plabels
  cases d.o.dst with
  | none => simp
  | some t' => simp [eq_comm]
theorem fS_find {d : DE} {t : Nat} {v : SV} (h : pfind t (fS d) = some v) : v = d.e.res := by
  unfold fS at h
  cases hd : d.o.dst with
  | none => rw [hd] at h; cases h
  | some t' =>
    rw [hd] at h
    simp only [pfind] at h
    split at h
    · cases h; rfl
    · cases h
theorem putSlot_get {slots : Sl} {d : DE} {t : Nat} {v : SV} (h : (putSlot slots d.o.dst d.e.res).get t = some v) : pset slots.get (fS d) t = some v := by
  unfold putSlot at h
  unfold fS pset
  cases hd : d.o.dst with
  | none => rw [hd] at h; simpa [pfind] using h
  | some t' =>
    rw [hd] at h
    rcases Sl.get_put slots t' t _ v h with ⟨rfl, rfl⟩ | ⟨hne, h⟩
    · simp [pfind]
    · have hb : Nat.beq t t' = false := by
        cases hb : Nat.beq t t'
        · rfl
        · exact absurd (Nat.eq_of_beq_eq_true hb) hne
      simp [pfind, hb, h]
theorem slotsAfter_get {t : Nat} {v : SV} : ∀ {ds : List DE} {slots : Sl} {i : Nat}, (slotsAfter slots ds).get t = some v → foldD (fun _ => true) fS ds i slots.get t = some v
  | [], _, _, h => h
  | d :: r, slots, i, h => by
    simp only [foldD, if_true]
    refine foldD_mono (fun y hy => putSlot_get hy) (slotsAfter_get (ds := r) (slots := putSlot slots d.o.dst d.e.res) (i := i + 1) h)
theorem viewOf_get {bef l : Nat} {x : Ent} : ∀ {ds : List DE} {i : Nat} {h : T Ent}, (viewOf bef ds i h).get l = some x → foldD (tb bef) fH ds i h.get l = some x
  | [], _, _, hx => hx
  | d :: r, i, h, hx => by
    simp only [viewOf] at hx
    simp only [foldD]
    refine foldD_mono (fun y hy => ?_) (viewOf_get hx)
    by_cases hb : tb bef i = true
    · rw [if_pos hb] at hy ⊢
      have := putSets_get _ _ _ _ hy
      rw [Heap.set_eq] at this
      exact this
    · rw [if_neg hb] at hy ⊢
      exact hy
theorem putAll_get {l : Nat} {x : Ent} : ∀ {ds : List DE} {i : Nat} {h : T Ent}, (putAll h ds).get l = some x → foldD (fun _ => true) fH ds i h.get l = some x
  | [], _, _, hx => hx
  | d :: r, i, h, hx => by
    simp only [putAll] at hx
    simp only [foldD, if_true]
    refine foldD_mono (fun y hy => ?_) (putAll_get hx)
    have := putSets_get _ _ _ _ hy
    rw [Heap.set_eq] at this
    exact this
theorem restrict_get {slots : Sl} {t : Nat} {v : SV} : ∀ {rd : List Tmp} {t0 : Sl}, (restrict slots rd t0).get t = some v → (t ∈ rd ∧ slots.get t = some v) ∨ t0.get t = some v
  | [], t0, h => .inr h
  | x :: r, t0, h => by
    simp only [restrict] at h
    rcases restrict_get h with ⟨h1, h2⟩ | h
    · exact .inl ⟨List.mem_cons_of_mem _ h1, h2⟩
    · split at h
      · rename_i v' hv'
        rcases Sl.get_put t0 x t v' v h with ⟨rfl, rfl⟩ | ⟨_, h⟩
        · exact .inl ⟨List.mem_cons_self .., hv'⟩
        · exact .inr h
      · exact .inr h
theorem tb_eq (m i : Nat) : tb m i = m.testBit i := by
  unfold tb
  rw [Nat.testBit_eq_decide_div_mod_eq]
  show Nat.beq (m / 2 ^ i % 2) 1 = _
  cases hb : Nat.beq (m / 2 ^ i % 2) 1
  · simp only [Bool.false_eq, decide_eq_false_iff_not]
    intro h; rw [h] at hb; cases hb
  · simp only [Bool.true_eq, decide_eq_true_eq]
    exact Nat.eq_of_beq_eq_true hb
theorem befOf_ok {all : List Nat} {j : Nat} : ∀ {es : List Edge}, tb (befOf all es) j = true → ∃ e ∈ es, Region.binds .any e = true ∧ (j = e.on ∨ tb (all.getD e.on 0) j = true)
  | [], h => by rw [tb_eq] at h; simp [befOf] at h
  | e :: r, h => by
    simp only [befOf] at h
    split at h
    · rename_i hb
      rw [tb_eq] at h
      have h' : (Nat.testBit (2 ^ e.on) j = true ∨ Nat.testBit (all.getD e.on 0) j = true) ∨ Nat.testBit (befOf all r) j = true := by
        have : Nat.testBit ((2 ^ e.on ||| all.getD e.on 0) ||| befOf all r) j = true := h
        simpa [Nat.testBit_or, Bool.or_eq_true] using this
      rcases h' with (h | h) | h
      · rw [Nat.testBit_two_pow] at h
        exact ⟨e, List.mem_cons_self .., hb, .inl (by simpa [eq_comm] using h)⟩
      · exact ⟨e, List.mem_cons_self .., hb, .inr (by rw [tb_eq]; exact h)⟩
      · rw [← tb_eq] at h
        obtain ⟨e', h1, h2, h3⟩ := befOf_ok h
        exact ⟨e', List.mem_cons_of_mem _ h1, h2, h3⟩
    · obtain ⟨e', h1, h2, h3⟩ := befOf_ok h
      exact ⟨e', List.mem_cons_of_mem _ h1, h2, h3⟩

/-- What two operations keep. -/
structure POk (all : Array Oper) (a b : DE) : Prop where
  rd : ∀ t, a.o.dst = some t → t ∉ b.o.looksAt all
  ds : ∀ t, a.o.dst = some t → b.o.dst ≠ some t
  lab : ∀ l, l ∈ a.e.sets.labels → l ∉ b.e.sets.labels
  dom : ∀ l, l ∈ a.e.sets.labels → b.hv.get l = none
  res : a.e.res.allL (Out b.n0 b.e.nx)
  sets : ∀ x ∈ a.e.sets, x.2.blk.allL (Out b.n0 b.e.nx)
theorem dstNot_ok {d : Option Tmp} {l : List Tmp} (h : dstNot d l = true) : ∀ t, d = some t → t ∉ l := by
  intro t ht hm
  rw [ht] at h
  simp [dstNot] at h
  exact h hm
theorem clear_ok {h : T Ent} {s : Sets} (hc : clear h s = true) : ∀ l, l ∈ s.labels → h.get l = none := by
  intro l hl
  obtain ⟨x, hx, rfl⟩ := List.mem_map.1 hl
  simpa using List.all_eq_true.1 hc x hx
theorem avoid_ok {d : DE} {lo hi : Nat} (h : d.avoid lo hi = true) : d.e.res.allL (Out lo hi) ∧ ∀ x ∈ d.e.sets, x.2.blk.allL (Out lo hi) := by
  unfold DE.avoid at h
  simp only [Bool.and_eq_true, List.all_eq_true] at h
  exact ⟨SV.avoid_ok h.1, fun x hx => Blk.avoid_ok (h.2 x hx)⟩
theorem pairOk_ok {all : Array Oper} {a b : DE} (h : pairOk all a b = true) : POk all a b ∧ POk all b a := by
  unfold pairOk at h
  simp only [Bool.and_eq_true] at h
  obtain ⟨h1, h2, h3, h4, h5, h6, h7, h8⟩ := h
  have hd : ∀ t, a.o.dst = some t → b.o.dst ≠ some t := by
    intro t ha hb
    rw [ha, hb] at h3
    simp at h3
  have hl : ∀ l, l ∈ a.e.sets.labels → l ∉ b.e.sets.labels := by
    intro l ha hb
    obtain ⟨x, hx, rfl⟩ := List.mem_map.1 ha
    obtain ⟨y, hy, he⟩ := List.mem_map.1 hb
    have := List.all_eq_true.1 (List.all_eq_true.1 h4 x hx) y hy
    rw [he] at this
    simp at this
  have a7 := avoid_ok h7
  have a8 := avoid_ok h8
  exact ⟨⟨dstNot_ok h1, hd, hl, clear_ok h5, a7.1, a7.2⟩, ⟨dstNot_ok h2, fun t hb ha => hd t ha hb, fun l hb ha => hl l ha hb, clear_ok h6, a8.1, a8.2⟩⟩
theorem pairsOk_ok {all : Array Oper} : ∀ {ds : List DE} {m : Nat}, pairsOk all ds m = true → ∀ i j a b, i < j → ds[i]? = some a → ds[j]? = some b → tb b.bef (m + i) = true ∨ (POk all a b ∧ POk all b a)
  | [], m, _, i, j, a, b, _, hi, _ => by simp at hi
  | d :: r, m, h, i, j, a, b, hij, hi, hj => by
    simp only [pairsOk, Bool.and_eq_true] at h
    cases j with
    | zero => omega
    | succ j =>
      simp only [List.getElem?_cons_succ] at hj
      cases i with
      | zero =>
        simp only [List.getElem?_cons_zero, Option.some.injEq] at hi
        subst hi
        have := List.all_eq_true.1 h.1 b (List.mem_of_getElem? hj)
        simp only [Bool.or_eq_true] at this
        rcases this with h' | h'
        · exact .inl h'
        · exact .inr (pairOk_ok h')
      | succ i =>
        simp only [List.getElem?_cons_succ] at hi
        have := pairsOk_ok h.2 i j a b (by omega) hi hj
        rwa [show m + 1 + i = m + (i + 1) by omega] at this
theorem edgesOk_ok : ∀ {ops : List Oper} {m : Nat}, edgesOk ops m = true → ∀ i o, ops[i]? = some o → ∀ e ∈ o.after.toList, Region.binds .any e = true → e.on < m + i
  | [], m, _, i, o, hi => by simp at hi
  | d :: r, m, h, i, o, hi => by
    simp only [edgesOk, Bool.and_eq_true] at h
    intro e he hb
    cases i with
    | zero =>
      simp only [List.getElem?_cons_zero, Option.some.injEq] at hi
      subst hi
      have := List.all_eq_true.1 h.1 e he
      simp only [hb, Bool.not_true, Bool.false_or, Nat.blt_eq] at this
      omega
    | succ i =>
      simp only [List.getElem?_cons_succ] at hi
      have := edgesOk_ok h.2 i o hi e he hb
      omega
end
end Go.Sx
/-
  SX, PART 17: DRAWN REGIONS, SOUND: whatever the order, the same state.
-/
namespace Go.Sx
set_option linter.unusedSimpArgs false
set_option linter.unusedVariables false
set_option linter.unusedSectionVars false
noncomputable section

/-- What is known of the run of a drawn region, and of the state before it. -/
structure DCtx where
  P : Program
  ρ : Env
  ops : List Oper
  ds : List DE
  s : S
  nt : Nat
  β0 : Lab
  a0 : Act
  w0 : World
  Δ : Dv
namespace DCtx
def nxa (C : DCtx) (i : Nat) : Nat := lastNx C.s.nx (C.ds.take i)
def live (C : DCtx) (D : Nat → Bool) (l : Nat) : Prop := l < C.s.nx ∨ ∃ j, j < C.ds.length ∧ D j = true ∧ C.nxa j ≤ l ∧ l < C.nxa (j + 1)
def sl (C : DCtx) (D : Nat → Bool) : Nat → Option SV := foldD D fS C.ds 0 C.s.slots.get
def hp (C : DCtx) (D : Nat → Bool) : Nat → Option Ent := foldD D fH C.ds 0 C.s.heap.get
def blocks (C : DCtx) : Nat → Prop := fun k => ∃ d, d ∈ C.ds ∧ ∃ l, l ∈ d.e.sets.labels ∧ l < C.s.nx ∧ (∃ x, C.s.heap.get l = some x ∧ x.blk.hb C.β0) ∧ C.β0.b l = k
structure Ok (C : DCtx) : Prop where
  s0 : SatS C.Δ C.ρ C.β0 C.nt C.s C.a0 C.w0
  ops : C.ds.map (·.o) = C.ops
  de : ∀ i d, C.ds[i]? = some d → DEok C.P C.ρ C.ops C.s.heap (C.ds.take i) (slotsAfter C.s.slots (C.ds.take i)) (C.nxa i) d
  pairs : ∀ i j a b, i < j → C.ds[i]? = some a → C.ds[j]? = some b → tb b.bef i = true ∨ (POk C.ops.toArray a b ∧ POk C.ops.toArray b a)
  own : ∀ d ∈ C.ds, ∀ l ∈ d.e.sets.labels, l < C.s.nx → ∃ x, C.s.heap.get l = some x ∧ x.wr = true
  mono : ∀ d ∈ C.ds, d.n0 ≤ d.e.nx
  edges : ∀ i o, C.ops[i]? = some o → ∀ e ∈ o.after.toList, Region.binds .any e = true → e.on < i
  dst : ∀ o ∈ C.ops, ∀ t, o.dst = some t → t < C.nt
/-- When the operations that D names have been run. -/
structure Inv (C : DCtx) (D : Nat → Bool) (β : Lab) (a : Act) (w : World) : Prop where
  agree : C.β0.agree C.s.nx β
  down : ∀ i d, C.ds[i]? = some d → D i = true → ∀ j, tb d.bef j = true → D j = true
  slot : ∀ t v, C.sl D t = some v → v.allL (C.live D) ∧ a.tmps[t]? = some (v.den C.ρ β)
  sz : C.nt ≤ a.tmps.size
  defers : a.defers = C.Δ.ds
  blk : ∀ l x, C.hp D l = some x → C.live D l ∧ x.blk.allL (C.live D) ∧ (x.blk.hb β → β.b l < w.heap.size) ∧ x.blk.sat C.ρ β (β.b l) w
  inj : ∀ l l' x x', C.hp D l = some x → C.hp D l' = some x' → l ≠ l' → (x.wr || x'.wr) = true → x.blk.hb β → x'.blk.hb β → β.b l ≠ β.b l'
  new : ∀ l x, C.hp D l = some x → C.s.nx ≤ l → x.blk.hb β → C.w0.heap.size ≤ β.b l ∨ C.blocks (β.b l)
  old : ∀ l x, C.hp D l = some x → l < C.s.nx → x.blk.hb β → ∃ y, C.s.heap.get l = some y ∧ y.blk.hb C.β0
  frm : Frm C.blocks C.w0 w
  bel : ∀ i d, C.ds[i]? = some d → D i = true → d.e.res.below d.e.nx ∧ ∀ l x, Sets.find l d.e.sets = some x → l < d.e.nx ∧ x.blk.below d.e.nx
variable {C : DCtx} (hC : C.Ok)

theorem nxa_zero (C : DCtx) : C.nxa 0 = C.s.nx := by simp [nxa, lastNx]
theorem nxa_succ (C : DCtx) {i : Nat} {d : DE} (h : C.ds[i]? = some d) : C.nxa (i + 1) = d.e.nx := by
  unfold nxa
  have hlt := (List.getElem?_eq_some_iff.1 h).1
  have he := (List.getElem?_eq_some_iff.1 h).2
  rw [List.take_succ_eq_append_getElem hlt, he, lastNx_append]
include hC in
theorem n0_eq {i : Nat} {d : DE} (h : C.ds[i]? = some d) : d.n0 = C.nxa i := (hC.de i d h).n0
include hC in
theorem nxa_step (i : Nat) : C.nxa i ≤ C.nxa (i + 1) := by
  cases h : C.ds[i]? with
  | some d =>
    rw [← n0_eq hC h, nxa_succ C h]
    exact hC.mono d (List.mem_of_getElem? h)
  | none =>
    have hle := List.getElem?_eq_none_iff.1 h
    unfold nxa
    rw [List.take_of_length_le (by omega), List.take_of_length_le (by omega)]
    exact Nat.le_refl _
include hC in
theorem nxa_mono {i j : Nat} (h : i ≤ j) : C.nxa i ≤ C.nxa j := by
  induction j with
  | zero => rw [show i = 0 by omega]; exact Nat.le_refl _
  | succ j ih =>
    rcases Nat.lt_or_ge i (j + 1) with h' | h'
    · exact Nat.le_trans (ih (by omega)) (nxa_step hC j)
    · rw [show i = j + 1 by omega]; exact Nat.le_refl _
theorem part (C : DCtx) : ∀ (j l : Nat), C.s.nx ≤ l → l < C.nxa j → ∃ i, i < j ∧ C.nxa i ≤ l ∧ l < C.nxa (i + 1)
  | 0, l, h1, h2 => by rw [nxa_zero] at h2; omega
  | j + 1, l, h1, h2 => by
    rcases Nat.lt_or_ge l (C.nxa j) with h | h
    · obtain ⟨i, hi, h3⟩ := part C j l h1 h
      exact ⟨i, by omega, h3⟩
    · exact ⟨j, by omega, h, h2⟩
/-- D, and i besides. -/
def plus (D : Nat → Bool) (i : Nat) : Nat → Bool := fun j => if j = i then true else D j
theorem plus_of {D : Nat → Bool} {i j : Nat} (h : D j = true) : plus D i j = true := by unfold plus; split <;> simp_all
theorem plus_self (D : Nat → Bool) (i : Nat) : plus D i i = true := by simp [plus]
theorem plus_ne {D : Nat → Bool} {i j : Nat} (h : j ≠ i) : plus D i j = D j := by simp [plus, h]
theorem live_mono {D D' : Nat → Bool} (h : ∀ j, D j = true → D' j = true) {l : Nat} (hl : C.live D l) : C.live D' l := by
  rcases hl with hl | ⟨j, h1, h2, h3⟩
  · exact .inl hl
  · exact .inr ⟨j, h1, h j h2, h3⟩

section step
variable {D : Nat → Bool} {β : Lab} {a : Act} {w : World} (hI : C.Inv D β a w) {i : Nat} {d : DE} (hd : C.ds[i]? = some d) (hDi : D i = false) (hdep : ∀ e ∈ d.o.after.toList, Region.binds .any e = true → D e.on = true)
include hC hd in
theorem ops_get : C.ops[i]? = some d.o := by rw [← hC.ops, List.getElem?_map, hd]; rfl
include hC hI hd hdep in
theorem befD {j : Nat} (h : tb d.bef j = true) : D j = true := by
  have hde := hC.de i d hd
  rw [hde.bef] at h
  obtain ⟨e, he, hb, h | h⟩ := befOf_ok h
  · rw [h]; exact hdep e he hb
  · have hlt := hC.edges i d.o (ops_get hC hd) e he hb
    have hDe := hdep e he hb
    have hlen : e.on < C.ds.length := by have := (List.getElem?_eq_some_iff.1 hd).1; omega
    have hde' : C.ds[e.on]? = some C.ds[e.on] := List.getElem?_eq_getElem hlen
    have hg : ((C.ds.take i).map (·.bef)).getD e.on 0 = C.ds[e.on].bef := by
      simp [List.getD, hlt, hde']
    rw [hg] at h
    exact hI.down _ _ hde' hDe j h
include hC hI hd hDi hdep in
/-- An operation that has been run though i does not wait for it, or that has not been run though it stands ahead: it and i keep clear. -/
theorem clash {j : Nat} {b : DE} (hb : C.ds[j]? = some b) (hne : j ≠ i) (h : ¬ (D j = true ∧ j < i ∧ tb d.bef j = true)) (h' : D j = true ∨ j < i) : POk C.ops.toArray d b ∧ POk C.ops.toArray b d := by
  rcases Nat.lt_trichotomy j i with hlt | heq | hgt
  · rcases hC.pairs j i b d hlt hb hd with ht | hp
    · exact absurd ⟨befD hC hI hd hdep ht, hlt, ht⟩ h
    · exact ⟨hp.2, hp.1⟩
  · exact absurd heq hne
  · rcases hC.pairs i j d b hgt hd hb with ht | hp
    · have hDj : D j = true := by
        rcases h' with h' | h'
        · exact h'
        · omega
      have := hI.down j b hb hDj i ht
      rw [hDi] at this; cases this
    · exact hp
include hC hI hd hDi hdep in
theorem read_slot {t : Nat} {v : SV} (h : d.rs.get t = some v) : v.below d.n0 ∧ a.tmps[t]? = some (v.den C.ρ β) := by
  have hde := hC.de i d hd
  rw [hde.rs] at h
  rcases restrict_get h with ⟨hrd, h⟩ | h
  · have h1 := slotsAfter_get (i := 0) h
    rw [foldD_take] at h1
    simp only [Bool.and_true] at h1
    have differ : ∀ j b, C.ds[j]? = some b → D j ≠ decide (j < i) → t ∉ plabels (fS b) := by
      intro j b hb hne hm
      have hji : j ≠ i := by rintro rfl; simp [hDi] at hne
      have hp := clash hC hI hd hDi hdep hb hji (by
        rintro ⟨h1, h2, _⟩
        simp [h1, h2] at hne) (by
        by_cases hlt : j < i
        · exact .inr hlt
        · left; simpa [hlt] using hne)
      exact hp.2.rd t (fS_mem.1 hm) hrd
    have h2 : C.sl D t = some v := by
      unfold sl
      rw [foldD_congr (D' := fun j => decide (j < i)) rfl (fun j b hb hne => differ j b hb (by simpa using hne))]
      exact h1
    refine ⟨?_, (hI.slot t v h2).2⟩
    rw [n0_eq hC hd]
    rcases foldD_cases h1 with h0 | ⟨j, b, hb, hlt, hm, hf⟩
    · have := (hC.s0.sa.slot t v h0).1
      exact SV.below_mono (by have := nxa_mono hC (Nat.zero_le i); rwa [nxa_zero] at this) this
    · simp only [Nat.zero_add, decide_eq_true_eq] at hlt
      have hDj : D j = true := by
        cases hDj : D j
        · exact absurd hm (differ j b hb (by simp [hDj, hlt]))
        · rfl
      rw [fS_find hf]
      have := (hI.bel j b hb hDj).1
      rw [← nxa_succ C hb] at this
      exact SV.below_mono (nxa_mono hC hlt) this
  · simp [Sl.get_nil] at h
include hC hI hd hDi hdep in
theorem view_sub {l : Nat} {x : Ent} (h : d.hv.get l = some x) : C.hp D l = some x ∧ l < d.n0 ∧ x.blk.below d.n0 := by
  have hde := hC.de i d hd
  have h0 := h
  have h := hde.hv l x h
  have h1 := viewOf_get h
  rw [foldD_take] at h1
  have h2 : C.hp D l = some x := by
    unfold hp
    rw [foldD_congr (D' := fun j => decide (j < i) && tb d.bef j) rfl]
    · exact h1
    · intro j b hb hne hm
      simp only [Nat.zero_add] at hne
      by_cases hji : j = i
      · subst hji; simp [hDi] at hne
      · by_cases hbit : j < i ∧ tb d.bef j = true
        · have := befD hC hI hd hdep hbit.2
          simp [hbit.1, hbit.2, this] at hne
        · have hDj : D j = true := by
            have : (decide (j < i) && tb d.bef j) = false := by simpa using hbit
            rw [this] at hne
            simpa using hne
          have hp := clash hC hI hd hDi hdep hb hji (fun hh => hbit ⟨hh.2.1, hh.2.2⟩) (.inl hDj)
          have := hp.2.dom l hm
          rw [h0] at this; cases this
  refine ⟨h2, ?_⟩
  rw [n0_eq hC hd]
  have hle0 : C.s.nx ≤ C.nxa i := by have := nxa_mono hC (Nat.zero_le i); rwa [nxa_zero] at this
  rcases foldD_cases h1 with h3 | ⟨j, b, hb, hlt, hm, hf⟩
  · have := hC.s0.sh.blk l x h3
    exact ⟨by omega, Blk.below_mono hle0 this.2.1⟩
  · simp only [Nat.zero_add, Bool.and_eq_true, decide_eq_true_eq] at hlt
    have hDj := befD hC hI hd hdep hlt.2
    have := (hI.bel j b hb hDj).2 l x (by rw [Sets.find_eq]; exact hf)
    rw [← nxa_succ C hb] at this
    have hm : C.nxa (j + 1) ≤ C.nxa i := nxa_mono hC hlt.1
    exact ⟨by omega, Blk.below_mono hm this.2⟩
include hC hI hd hDi hdep in
theorem view_sat : SatH C.ρ β d.n0 d.hv.get w := by
  refine ⟨fun l x h => ?_, fun l l' x x' h h' hne hw hb hb' => ?_⟩
  · obtain ⟨h1, h2, h3⟩ := view_sub hC hI hd hDi hdep h
    have := hI.blk l x h1
    exact ⟨h2, h3, this.2.2⟩
  · exact hI.inj l l' x x' (view_sub hC hI hd hDi hdep h).1 (view_sub hC hI hd hDi hdep h').1 hne hw hb hb'
include hC hI hd hDi hdep in
theorem read_ev : SatA C.Δ C.ρ β d.n0 d.rs.get a := ⟨fun _ _ h => read_slot hC hI hd hDi hdep h, hI.defers⟩
/-- The labels of the block from lo to hi by one, the others by the other. -/
def merge (β β' : Lab) (lo hi : Nat) : Lab := ⟨fun l => if lo ≤ l ∧ l < hi then β'.b l else β.b l, fun l => if lo ≤ l ∧ l < hi then β'.o l else β.o l⟩
theorem merge_out {β β' : Lab} {lo hi l : Nat} (h : Out lo hi l) : (merge β β' lo hi).b l = β.b l ∧ (merge β β' lo hi).o l = β.o l := by
  simp only [merge, Out] at *
  rw [if_neg h, if_neg h]
  exact ⟨rfl, rfl⟩
theorem merge_lt {β β' : Lab} {lo hi l : Nat} (ha : β.agree lo β') (h : l < hi) : (merge β β' lo hi).b l = β'.b l ∧ (merge β β' lo hi).o l = β'.o l := by
  by_cases hl : lo ≤ l
  · simp only [merge, hl, h, and_self, if_true]
  · have := ha l (by omega)
    have hn : ¬ (lo ≤ l ∧ l < hi) := by omega
    simp only [merge, if_neg hn, this, and_self]
include hC hd hDi in
theorem live_out {l : Nat} (h : C.live D l) : Out d.n0 d.e.nx l := by
  rintro ⟨h1, h2⟩
  rw [n0_eq hC hd] at h1
  rw [← nxa_succ C hd] at h2
  have h0 : C.s.nx ≤ C.nxa i := by have := nxa_mono hC (Nat.zero_le i); rwa [nxa_zero] at this
  rcases h with h | ⟨j, hj, hDj, h3, h4⟩
  · omega
  · rcases Nat.lt_trichotomy j i with hlt | heq | hgt
    · have : C.nxa (j + 1) ≤ C.nxa i := nxa_mono hC hlt
      omega
    · subst heq; rw [hDi] at hDj; cases hDj
    · have : C.nxa (i + 1) ≤ C.nxa j := nxa_mono hC hgt
      omega
include hC hd in
/-- A label below i's last that lies in no block of one that i keeps clear of is live. -/
theorem live_of {l : Nat} (h : l < d.e.nx) (hout : ∀ j b, C.ds[j]? = some b → j < i → D j = false → Out b.n0 b.e.nx l) : C.live (plus D i) l := by
  by_cases h0 : l < C.s.nx
  · exact .inl h0
  · rw [← nxa_succ C hd] at h
    obtain ⟨j, hj, h1, h2⟩ := part C (i + 1) l (by omega) h
    have hlen : i < C.ds.length := (List.getElem?_eq_some_iff.1 hd).1
    refine .inr ⟨j, by omega, ?_, h1, h2⟩
    by_cases hji : j = i
    · rw [hji]; exact plus_self D i
    · rw [plus_ne hji]
      cases hDj : D j
      · exfalso
        have hb : C.ds[j]? = some C.ds[j] := List.getElem?_eq_getElem (by omega)
        refine hout j _ hb (by omega) hDj ⟨?_, ?_⟩
        · rw [n0_eq hC hb]; exact h1
        · rw [← nxa_succ C hb]; exact h2
      · rfl
include hC hI hd hDi hdep in
theorem res_live (hb : d.e.res.below d.e.nx) : d.e.res.allL (C.live (plus D i)) := by
  have h2 : d.e.res.allL fun l => ∀ q : { q : Nat × DE // C.ds[q.1]? = some q.2 ∧ q.1 < i ∧ D q.1 = false }, Out q.1.2.n0 q.1.2.e.nx l := by
    refine SV.allL_forall fun q => ?_
    obtain ⟨⟨j, b⟩, h1, h2, h3⟩ := q
    exact (clash hC hI hd hDi hdep h1 (by simp only at h2; omega) (by rintro ⟨h4, _⟩; simp only at h3; rw [h3] at h4; cases h4) (.inr h2)).1.res
  have h3 : d.e.res.allL fun l => ∀ q : Bool, (match q with | true => l < d.e.nx | false => ∀ q : { q : Nat × DE // C.ds[q.1]? = some q.2 ∧ q.1 < i ∧ D q.1 = false }, Out q.1.2.n0 q.1.2.e.nx l : Prop) := by
    refine SV.allL_forall fun q => ?_
    cases q
    · exact h2
    · exact SV.below_iff.1 hb
  refine SV.allL_mono (fun l hl => ?_) h3
  exact live_of hC hd (hl true) fun j b h1 h4 h5 => hl false ⟨(j, b), h1, h4, h5⟩
include hC hI hd hDi hdep in
theorem blk_live {l : Nat} {x : Ent} (hx : (l, x) ∈ d.e.sets) (hb : x.blk.below d.e.nx) : x.blk.allL (C.live (plus D i)) := by
  have h2 : x.blk.allL fun l => ∀ q : { q : Nat × DE // C.ds[q.1]? = some q.2 ∧ q.1 < i ∧ D q.1 = false }, Out q.1.2.n0 q.1.2.e.nx l := by
    refine Blk.allL_forall fun q => ?_
    obtain ⟨⟨j, b⟩, h1, h2, h3⟩ := q
    exact (clash hC hI hd hDi hdep h1 (by simp only at h2; omega) (by rintro ⟨h4, _⟩; simp only at h3; rw [h3] at h4; cases h4) (.inr h2)).1.sets _ hx
  have h3 : x.blk.allL fun l => ∀ q : Bool, (match q with | true => l < d.e.nx | false => ∀ q : { q : Nat × DE // C.ds[q.1]? = some q.2 ∧ q.1 < i ∧ D q.1 = false }, Out q.1.2.n0 q.1.2.e.nx l : Prop) := by
    refine Blk.allL_forall fun q => ?_
    cases q
    · exact h2
    · exact Blk.below_iff.1 hb
  refine Blk.allL_mono (fun l hl => ?_) h3
  exact live_of hC hd (hl true) fun j b h1 h4 h5 => hl false ⟨(j, b), h1, h4, h5⟩
theorem find_mem {l : Nat} {x : Ent} : ∀ {s : Sets}, pfind l s = some x → (l, x) ∈ s
  | [], h => by cases h
  | (l', y) :: r, h => by
    simp only [pfind] at h
    split at h
    · rename_i z hz
      cases h
      exact List.mem_cons_of_mem _ (find_mem hz)
    · split at h
      · rename_i hb
        cases h
        rw [Nat.eq_of_beq_eq_true hb]
        exact List.mem_cons_self ..
      · cases h
include hC hI hd hDi hdep in
theorem step {β' : Lab} {w' : World} (st : Step C.ρ β d.n0 d.hv.get w d.e.sets β' d.e.nx w') (hres : d.e.res.below d.e.nx) :
    C.Inv (plus D i) (merge β β' d.n0 d.e.nx) (a.put d.o.dst (d.e.res.den C.ρ β')) w' := by
  have hlen : i < C.ds.length := (List.getElem?_eq_some_iff.1 hd).1
  have hle0 : C.s.nx ≤ d.n0 := by rw [n0_eq hC hd]; have := nxa_mono hC (Nat.zero_le i); rwa [nxa_zero] at this
  have old : ∀ l, C.live D l → (merge β β' d.n0 d.e.nx).b l = β.b l ∧ (merge β β' d.n0 d.e.nx).o l = β.o l := fun l hl => merge_out (live_out hC hd hDi hl)
  have young : ∀ l, l < d.e.nx → (merge β β' d.n0 d.e.nx).b l = β'.b l ∧ (merge β β' d.n0 d.e.nx).o l = β'.o l := fun l hl => merge_lt st.agree hl
  have only : ∀ {α : Type} (f : DE → List (Nat × α)) (g : Nat → Option α) (l : Nat), l ∉ plabels (f d) → foldD (plus D i) f C.ds 0 g l = foldD D f C.ds 0 g l := by
    intro α f g l hl
    refine foldD_congr rfl fun j b hb hne => ?_
    simp only [Nat.zero_add] at hne
    by_cases hji : j = i
    · subst hji; rw [hd] at hb; cases hb; exact hl
    · rw [plus_ne hji] at hne; exact absurd rfl hne
  have later : ∀ j b, i < j → C.ds[j]? = some b → plus D i j = true → POk C.ops.toArray d b ∧ POk C.ops.toArray b d := by
    intro j b hij hb hDj
    rw [plus_ne (by omega)] at hDj
    exact clash hC hI hd hDi hdep hb (by omega) (by rintro ⟨_, h, _⟩; omega) (.inl hDj)
  have hslot : ∀ t, d.o.dst = some t → C.sl (plus D i) t = some d.e.res := by
    intro t ht
    unfold sl
    rw [foldD_last (m := i) hd (by simpa using plus_self D i) (fS_mem.2 ht) (fun j b hij hb hDj => fun hm => (later j b hij hb (by simpa using hDj)).1.ds t ht (fS_mem.1 hm))]
    simp [fS, ht, pfind]
  have hheap : ∀ l, l ∈ d.e.sets.labels → C.hp (plus D i) l = pfind l d.e.sets := by
    intro l hl
    unfold hp
    exact foldD_last (m := i) (f := fH) hd (by simpa using plus_self D i) hl (fun j b hij hb hDj => fun hm => (later j b hij hb (by simpa using hDj)).1.lab l hl hm)
  have hnot : ∀ l, l ∉ d.e.sets.labels → C.hp (plus D i) l = C.hp D l := fun l hl => only fH _ l hl
  have hin : ∀ l x, l ∈ d.e.sets.labels → pfind l d.e.sets = some x → l < d.e.nx ∧ x.blk.below d.e.nx ∧ (x.blk.hb β' → β'.b l < w'.heap.size) ∧ x.blk.sat C.ρ β' (β'.b l) w' := by
    intro l x hl hx
    exact st.sat.blk l x (by rw [Heap.set_of_mem hl, Sets.find_eq]; exact hx)
  have hown : ∀ l x, pfind l d.e.sets = some x → l < d.n0 → ∃ y, C.hp D l = some y ∧ y.wr = true ∧ (x.blk.hb β' → y.blk.hb β) := by
    intro l x hl hn
    obtain ⟨y, hy, hw⟩ := st.own l x (by rw [Sets.find_eq]; exact hl) hn
    exact ⟨y, (view_sub hC hI hd hDi hdep hy).1, hw⟩
  have hkeep : ∀ l x, C.hp D l = some x → l ∉ d.e.sets.labels → x.blk.hb β → w'.heap[β.b l]? = w.heap[β.b l]? := by
    intro l x hx hl hh
    refine st.frm.old _ ((hI.blk l x hx).2.2.1 hh) ?_
    rintro ⟨l', hl', hn, ⟨z, hz, hzh⟩, he⟩
    obtain ⟨q, hq⟩ := Sets.mem_find hl'
    obtain ⟨y, hy, hw, _⟩ := hown l' q (by rw [← Sets.find_eq]; exact hq) hn
    have hz' := (view_sub hC hI hd hDi hdep hz).1
    rw [hy] at hz'
    cases hz'
    exact hI.inj l' l z x hy hx (fun e => hl (e ▸ hl')) (by rw [hw]; rfl) hzh hh he
  have conv : ∀ k, d.e.sets.blocks β d.n0 d.hv.get k → C.w0.heap.size ≤ k ∨ C.blocks k := by
    rintro k ⟨l, hl, hn, ⟨z, hz, hzh⟩, he⟩
    have hz' := (view_sub hC hI hd hDi hdep hz).1
    by_cases h0 : l < C.s.nx
    · exact .inr ⟨d, List.mem_of_getElem? hd, l, hl, h0, hI.old l z hz' h0 hzh, by rw [← (hI.agree l h0).1]; exact he⟩
    · have := hI.new l z hz' (by omega) hzh
      rw [he] at this
      exact this
  have liveD : ∀ l, C.live D l → C.live (plus D i) l := fun l hl => live_mono (fun j hj => plus_of hj) hl
  have labLive : ∀ l, l ∈ d.e.sets.labels → l < d.e.nx → C.live (plus D i) l := by
    intro l hl hlt
    by_cases hn : l < d.n0
    · obtain ⟨q, hq⟩ := Sets.mem_find hl
      obtain ⟨y, hy, _⟩ := hown l q (by rw [← Sets.find_eq]; exact hq) hn
      exact liveD l (hI.blk l y hy).1
    · have h1 : C.nxa i ≤ l := by rw [← n0_eq hC hd]; omega
      have h2 : l < C.nxa (i + 1) := by rw [nxa_succ C hd]; exact hlt
      exact .inr ⟨i, hlen, plus_self D i, h1, h2⟩
  refine ⟨fun l hl => ?_, fun j b hb hDj q hq => ?_, fun t v ht => ?_, ?_, ?_, fun l x hx => ?_, fun l l' x x' hx hx' hne hw hhb hhb' => ?_, fun l x hx hl hhb => ?_, fun l x hx hl hhb => ?_, ?_, fun j b hb hDj => ?_⟩
  · have := old l (.inl hl)
    rw [this.1, this.2]
    exact hI.agree l hl
  · by_cases hji : j = i
    · subst hji
      rw [hd] at hb; cases hb
      exact plus_of (befD hC hI hd hdep hq)
    · rw [plus_ne hji] at hDj
      exact plus_of (hI.down j b hb hDj q hq)
  · by_cases hm : d.o.dst = some t
    · rw [hslot t hm] at ht
      cases ht
      refine ⟨res_live hC hI hd hDi hdep hres, ?_⟩
      rw [SV.den_allL (p := (· < d.e.nx)) (fun l hl => young l hl) (SV.below_iff.1 hres), hm]
      have : t < a.tmps.size := Nat.lt_of_lt_of_le (hC.dst d.o (List.mem_of_getElem? (ops_get hC hd)) t hm) hI.sz
      simp [Act.put, this]
    · have h0 : C.sl (plus D i) t = C.sl D t := only fS _ t (fun h => hm (fS_mem.1 h))
      rw [h0] at ht
      obtain ⟨h1, h2⟩ := hI.slot t v ht
      refine ⟨SV.allL_mono liveD h1, ?_⟩
      rw [SV.den_allL old h1, ← h2]
      cases hdst : d.o.dst with
      | none => rfl
      | some t' =>
        simp only [Act.put]
        exact Array.getElem?_setIfInBounds_ne (fun e => hm (by rw [hdst, e]))
  · cases hdst : d.o.dst with
    | none => exact hI.sz
    | some t => simp only [Act.put, Array.size_setIfInBounds]; exact hI.sz
  · cases hdst : d.o.dst <;> exact hI.defers
  · by_cases hm : l ∈ d.e.sets.labels
    · rw [hheap l hm] at hx
      obtain ⟨h1, h2, h3, h4⟩ := hin l x hm hx
      have hbi := Blk.hb_allL (p := (· < d.e.nx)) (fun l hl => young l hl) (Blk.below_iff.1 h2)
      refine ⟨labLive l hm h1, blk_live hC hI hd hDi hdep (find_mem hx) h2, fun hh => by rw [(young l h1).1]; exact h3 (hbi.1 hh), ?_⟩
      rw [(young l h1).1]
      exact Blk.sat_allL (p := (· < d.e.nx)) (fun l hl => young l hl) (Blk.below_iff.1 h2) (fun _ => rfl) h4
    · rw [hnot l hm] at hx
      obtain ⟨h1, h2, h3, h4⟩ := hI.blk l x hx
      refine ⟨liveD l h1, Blk.allL_mono liveD h2, fun hh => by rw [(old l h1).1]; exact Nat.lt_of_lt_of_le (h3 ((Blk.hb_allL old h2).1 hh)) st.frm.size, ?_⟩
      rw [(old l h1).1]
      exact Blk.sat_allL old h2 (hkeep l x hx hm) h4
  · have hbY : ∀ l x, l ∈ d.e.sets.labels → pfind l d.e.sets = some x → (x.blk.hb (merge β β' d.n0 d.e.nx) ↔ x.blk.hb β') := fun l x hm hx => Blk.hb_allL (p := (· < d.e.nx)) (fun l hl => young l hl) (Blk.below_iff.1 (hin l x hm hx).2.1)
    have hbO : ∀ l x, C.hp D l = some x → (x.blk.hb (merge β β' d.n0 d.e.nx) ↔ x.blk.hb β) := fun l x hx => Blk.hb_allL old (hI.blk l x hx).2.1
    have one : ∀ l l' x x', C.hp (plus D i) l = some x → C.hp D l' = some x' → l ≠ l' → l ∈ d.e.sets.labels → l' ∉ d.e.sets.labels → x.blk.hb (merge β β' d.n0 d.e.nx) → x'.blk.hb (merge β β' d.n0 d.e.nx) → (merge β β' d.n0 d.e.nx).b l ≠ (merge β β' d.n0 d.e.nx).b l' := by
      intro l l' x x' hx hx' hne hm hm' hh hh'
      rw [hheap l hm] at hx
      have h1 := (hin l x hm hx).1
      have h2 := hI.blk l' x' hx'
      have k1 := (hbY l x hm hx).1 hh
      have k2 := (hbO l' x' hx').1 hh'
      rw [(old l' h2.1).1]
      by_cases hn : l < d.n0
      · obtain ⟨y, hy, hyw, hyh⟩ := hown l x hx hn
        rw [(old l (hI.blk l y hy).1).1]
        exact hI.inj l l' y x' hy hx' hne (by rw [hyw]; rfl) (hyh k1) k2
      · rw [(young l h1).1]
        rcases (st.new l x (by rw [Sets.find_eq]; exact hx) (by omega)).2 k1 with h3 | ⟨l0, q1, q2, ⟨z, hz, hzh⟩, q3⟩
        · have := h2.2.2.1 k2
          omega
        · obtain ⟨q, hq⟩ := Sets.mem_find q1
          obtain ⟨y, hy, hyw, _⟩ := hown l0 q (by rw [← Sets.find_eq]; exact hq) q2
          have hz' := (view_sub hC hI hd hDi hdep hz).1
          rw [hy] at hz'
          cases hz'
          rw [← q3]
          exact hI.inj l0 l' z x' hy hx' (fun e => hm' (e ▸ q1)) (by rw [hyw]; rfl) hzh k2
    by_cases hm : l ∈ d.e.sets.labels <;> by_cases hm' : l' ∈ d.e.sets.labels
    · have e1 := hx; have e2 := hx'
      rw [hheap l hm] at e1
      rw [hheap l' hm'] at e2
      rw [(young l (hin l x hm e1).1).1, (young l' (hin l' x' hm' e2).1).1]
      exact st.sat.inj l l' x x' (by rw [Heap.set_of_mem hm, Sets.find_eq]; exact e1) (by rw [Heap.set_of_mem hm', Sets.find_eq]; exact e2) hne hw ((hbY l x hm e1).1 hhb) ((hbY l' x' hm' e2).1 hhb')
    · rw [hnot l' hm'] at hx'
      exact one l l' x x' hx hx' hne hm hm' hhb hhb'
    · rw [hnot l hm] at hx
      exact (one l' l x' x hx' hx (Ne.symm hne) hm' hm hhb' hhb).symm
    · rw [hnot l hm] at hx
      rw [hnot l' hm'] at hx'
      rw [(old l (hI.blk l x hx).1).1, (old l' (hI.blk l' x' hx').1).1]
      exact hI.inj l l' x x' hx hx' hne hw ((hbO l x hx).1 hhb) ((hbO l' x' hx').1 hhb')
  · by_cases hm : l ∈ d.e.sets.labels
    · rw [hheap l hm] at hx
      have h1 := hin l x hm hx
      have k1 := (Blk.hb_allL (p := (· < d.e.nx)) (fun l hl => young l hl) (Blk.below_iff.1 h1.2.1)).1 hhb
      by_cases hn : l < d.n0
      · obtain ⟨y, hy, _, hyh⟩ := hown l x hx hn
        rw [(old l (hI.blk l y hy).1).1]
        exact hI.new l y hy hl (hyh k1)
      · rw [(young l h1.1).1]
        rcases (st.new l x (by rw [Sets.find_eq]; exact hx) (by omega)).2 k1 with h3 | h3
        · have := hI.frm.size
          exact .inl (by omega)
        · exact conv _ h3
    · rw [hnot l hm] at hx
      have h2 := hI.blk l x hx
      rw [(old l h2.1).1]
      exact hI.new l x hx hl ((Blk.hb_allL old h2.2.1).1 hhb)
  · by_cases hm : l ∈ d.e.sets.labels
    · rw [hheap l hm] at hx
      have h1 := hin l x hm hx
      have k1 := (Blk.hb_allL (p := (· < d.e.nx)) (fun l hl => young l hl) (Blk.below_iff.1 h1.2.1)).1 hhb
      obtain ⟨y, hy, _, hyh⟩ := hown l x hx (by omega)
      exact hI.old l y hy hl (hyh k1)
    · rw [hnot l hm] at hx
      exact hI.old l x hx hl ((Blk.hb_allL old (hI.blk l x hx).2.1).1 hhb)
  · refine Frm.trans hI.frm st.frm fun k hk hb => ?_
    rcases conv k hb with h1 | h1
    · omega
    · exact h1
  · by_cases hji : j = i
    · subst hji
      rw [hd] at hb; cases hb
      refine ⟨hres, fun l x hx => ?_⟩
      have := hin l x (Sets.find_mem hx) (by rw [← Sets.find_eq]; exact hx)
      exact ⟨this.1, this.2.1⟩
    · rw [plus_ne hji] at hDj
      exact hI.bel j b hb hDj
end step
end DCtx
end
end Go.Sx
/-
  SX, PART 18: DRAWN REGIONS, SOUND: the region whole; the executor whole.
-/
namespace Go.Sx
set_option linter.unusedSimpArgs false
set_option linter.unusedVariables false
set_option linter.unusedSectionVars false
noncomputable section
namespace DCtx
variable {C : DCtx} (hC : C.Ok)

def flags (listed : Array Bool) : Nat → Bool := fun j => listed.getD j false
theorem ready_mem {ops : Array Oper} {listed : Array Bool} {i : Nat} (h : i ∈ Region.ready .any ops listed) :
    ∃ o, ops[i]? = some o ∧ listed.getD i true = false ∧ ∀ e ∈ o.after.toList, Region.binds .any e = true → listed.getD e.on false = true := by
  unfold Region.ready at h
  simp only [List.mem_filter, List.mem_range, Bool.and_eq_true, Bool.not_eq_true'] at h
  obtain ⟨h1, h2, h3⟩ := h
  have ho : ops[i]? = some ops[i] := Array.getElem?_eq_getElem h1
  refine ⟨ops[i], ho, h2, fun e he hb => ?_⟩
  rw [ho] at h3
  simp only [Option.map_some, Option.getD_some, Array.all_eq_true_iff_forall_mem] at h3
  have := h3 e (by simpa using he)
  rw [hb] at this
  simpa using this
theorem mem_ready {ops : Array Oper} {listed : Array Bool} {i : Nat} {o : Oper} (ho : ops[i]? = some o) (h : listed.getD i true = false) (hd : ∀ e ∈ o.after.toList, Region.binds .any e = true → listed.getD e.on false = true) : i ∈ Region.ready .any ops listed := by
  unfold Region.ready
  simp only [List.mem_filter, List.mem_range, Bool.and_eq_true, Bool.not_eq_true']
  refine ⟨(Array.getElem?_eq_some_iff.1 ho).1, h, ?_⟩
  rw [ho]
  simp only [Option.map_some, Option.getD_some, Array.all_eq_true_iff_forall_mem]
  intro e he
  cases hb : Region.binds .any e
  · rfl
  · simpa using hd e (by simpa using he) hb
/-- How many are still to come. -/
def rest (listed : Array Bool) : Nat := listed.toList.countP (fun b => !b)
theorem rest_set {listed : Array Bool} {i : Nat} (h : listed[i]? = some false) : rest (listed.setIfInBounds i true) + 1 = rest listed := by
  unfold rest
  rw [Array.toList_setIfInBounds]
  have h' : listed.toList[i]? = some false := by simpa using h
  generalize listed.toList = l at h'
  clear h
  induction l generalizing i with
  | nil => simp at h'
  | cons b l ih =>
    cases i with
    | zero =>
      simp only [List.getElem?_cons_zero, Option.some.injEq] at h'
      subst h'
      simp
    | succ i =>
      simp only [List.getElem?_cons_succ] at h'
      have := ih h'
      simp only [List.set_cons_succ, List.countP_cons]
      omega
theorem rest_zero {listed : Array Bool} (h : rest listed = 0) : ∀ i, i < listed.size → listed.getD i false = true := by
  intro i hi
  unfold rest at h
  rw [List.countP_eq_zero] at h
  have := h listed[i] (by simp)
  simp only [Bool.not_eq_true', Bool.not_eq_false] at this
  simp [Array.getD, hi, this]
include hC in
theorem run_any {Q : Exit → Act → World → Prop} (hQ : ∀ D β a w, (∀ i, i < C.ds.length → D i = true) → C.Inv D β a w → Q .normal a w) :
    ∀ (fuel : Nat) (listed : Array Bool) (β : Lab) (a : Act) (w : World), listed.size = C.ds.length → rest listed = fuel → C.Inv (flags listed) β a w → wpAnyIn (fen C.Δ.rd) 0 C.P .any C.ops.toArray Q fuel listed a w := by
  have hlen : C.ops.length = C.ds.length := by rw [← hC.ops, List.length_map]
  intro fuel
  induction fuel with
  | zero =>
    intro listed β a w hsz hr hI
    have hall := rest_zero hr
    simp only [wpAnyIn]
    refine ⟨?_, hQ _ β a w (fun i hi => hall i (by omega)) hI⟩
    rw [List.eq_nil_iff_forall_not_mem]
    intro i hi
    obtain ⟨o, ho, hn, _⟩ := ready_mem hi
    have hlt := (Array.getElem?_eq_some_iff.1 ho).1
    have := hall i (by simp at hlt; omega)
    have hi' : i < listed.size := by simp at hlt; omega
    simp [Array.getD, hi'] at this hn
    rw [this] at hn; cases hn
  | succ fuel ih =>
    intro listed β a w hsz hr hI
    have key : ∀ i ∈ Region.ready .any C.ops.toArray listed, wpOpIn (fen C.Δ.rd) 0 C.P C.ops.toArray Q i (wpAnyIn (fen C.Δ.rd) 0 C.P .any C.ops.toArray Q fuel (listed.setIfInBounds i true)) a w := by
      intro i hi
      obtain ⟨o, ho, hn, hdep⟩ := ready_mem hi
      have hlt : i < C.ds.length := by have := (Array.getElem?_eq_some_iff.1 ho).1; simp at this; omega
      have hd : C.ds[i]? = some C.ds[i] := List.getElem?_eq_getElem hlt
      have hod := ops_get hC hd
      have hoe : o = C.ds[i].o := by
        have h1 : C.ops.toArray[i]? = some C.ds[i].o := by simpa using hod
        rw [ho] at h1; cases h1; rfl
      subst hoe
      have hi' : i < listed.size := by omega
      have hfalse : listed[i]? = some false := by
        simp [Array.getD, hi'] at hn
        simp [hi', hn]
      have hDi : flags listed i = false := by simp [flags, Array.getD, hi'] at hn ⊢; exact hn
      have hdep' : ∀ e ∈ C.ds[i].o.after.toList, Region.binds .any e = true → flags listed e.on = true := hdep
      have hplus : flags (listed.setIfInBounds i true) = plus (flags listed) i := by
        funext j
        unfold flags plus
        by_cases hji : j = i
        · subst hji; simp [Array.getD, hi']
        · rw [if_neg hji]
          simp [Array.getD]
          by_cases hj : j < listed.size
          · simp [hj, Ne.symm hji]
          · simp [hj]
      have hde := hC.de i _ hd
      have hrest : rest (listed.setIfInBounds i true) = fuel := by have := rest_set hfalse; omega
      have hnext : ∀ β' w', Step C.ρ β C.ds[i].n0 C.ds[i].hv.get w C.ds[i].e.sets β' C.ds[i].e.nx w' → C.ds[i].e.res.below C.ds[i].e.nx →
          wpAnyIn (fen C.Δ.rd) 0 C.P .any C.ops.toArray Q fuel (listed.setIfInBounds i true) (a.put C.ds[i].o.dst (C.ds[i].e.res.den C.ρ β')) w' := by
        intro β' w' hst hres
        have := step hC hI hd hDi hdep' hst hres
        rw [← hplus] at this
        exact ih _ _ _ _ (by simpa using hsz) hrest this
      have hguard := hde.guard C.Δ β C.ds[i].n0 a (read_ev hC hI hd hDi hdep')
      have hsat := view_sat hC hI hd hDi hdep'
      unfold wpOpIn
      have hoo : C.ops.toArray[i]? = some C.ds[i].o := by simpa using hod
      rw [hoo]
      simp only
      cases hw : C.ds[i].want with
      | true =>
        rw [if_pos (by rw [hguard]; exact hw)]
        exact hde.yes hw C.Δ.rd β a w (read_ev hC hI hd hDi hdep').ev hsat _ _ hnext
      | false =>
        rw [if_neg (by rw [hguard, hw]; simp)]
        have he := hde.no hw
        have := hnext β w (by rw [he]; exact Step.refl hsat) (by rw [he]; exact fun x hx => (by cases hx))
        rw [he] at this
        exact ⟨fen_about, this⟩
    simp only [wpAnyIn]
    refine ⟨fun hnil => ?_, key⟩
    -- there is one that may run
    exfalso
    have hex : ∃ i, i < listed.size ∧ listed.getD i true = false := by
      have h0 : rest listed ≠ 0 := by omega
      unfold rest at h0
      have h1 : 0 < listed.toList.countP (fun b => !b) := by omega
      rw [List.countP_pos_iff] at h1
      obtain ⟨b, hb, hnb⟩ := h1
      obtain ⟨i, hi, he⟩ := List.getElem_of_mem hb
      have hi' : i < listed.size := by simpa using hi
      refine ⟨i, hi', ?_⟩
      simp only [Array.getElem_toList] at he
      have : b = false := by simpa using hnb
      simp [Array.getD, hi', he, this]
    have hmin : ∀ m i, i ≤ m → i < listed.size → listed.getD i true = false → ∃ j, j < listed.size ∧ listed.getD j true = false ∧ ∀ q, q < j → listed.getD q false = true := by
      intro m
      induction m with
      | zero =>
        intro i hi h1 h2
        exact ⟨i, h1, h2, fun q hq => by omega⟩
      | succ m ihm =>
        intro i hi h1 h2
        by_cases hq : ∃ q, q < i ∧ listed.getD q true = false
        · obtain ⟨q, hq1, hq2⟩ := hq
          exact ihm q (by omega) (by omega) hq2
        · refine ⟨i, h1, h2, fun q hq1 => ?_⟩
          have hq' : q < listed.size := by omega
          cases hv : listed.getD q false
          · exfalso
            refine hq ⟨q, hq1, ?_⟩
            simp [Array.getD, hq'] at hv ⊢
            exact hv
          · rfl
    obtain ⟨i, hi, hf⟩ := hex
    obtain ⟨j, hj, hjf, hjq⟩ := hmin i i (Nat.le_refl _) hi hf
    have hjl : j < C.ds.length := by omega
    have hd : C.ds[j]? = some C.ds[j] := List.getElem?_eq_getElem hjl
    have hod := ops_get hC hd
    have hmem : j ∈ Region.ready .any C.ops.toArray listed := mem_ready (by simpa using hod) hjf fun e he hb => hjq _ (hC.edges j _ hod e he hb)
    rw [hnil] at hmem
    cases hmem
end DCtx

theorem foldTrue_set : ∀ (ds : List DE) (i : Nat) (g : Nat → Option Ent), foldD (fun _ => true) fH ds i g = pset g (ds.flatMap fun d => d.e.sets)
  | [], i, g => rfl
  | d :: r, i, g => by
    simp only [foldD, if_true, List.flatMap_cons]
    rw [foldTrue_set r, pset_append]
    rfl
theorem logAll_mem : ∀ (ds : List DE) (l : Nat), l ∈ logAll ds ↔ l ∈ Sets.labels (ds.flatMap fun d => d.e.sets)
  | [], l => by simp [logAll, Sets.labels]
  | d :: r, l => by
    simp only [logAll, List.flatMap_cons, Sets.labels_append, List.mem_append, logAll_mem r]
section
variable {P : Program} {ty : Tys} (hty : TysOk P ty) {ρ : Env}
include hty in
theorem drawOps_ok (hm : P.follows .mixedOrders = true) {callF : CallF} (hc : CallOk P ρ callF) {fnm : FuncId → Option Func} (hfn : FnOk P fnm) (hdom : Dom fnm callF)
    {nt : Nat} {ops : List Oper} {k : Known} {s : S} {l : List (Known × S)} (h : drawOps ty callF nt ops k s = some l) : AltsOk ρ k l (DGood P ρ nt ops s) := by
  unfold drawOps at h
  split at h
  · rename_i hck
    simp only [Bool.and_eq_true, List.all_eq_true] at hck
    split at h
    · rename_i runs hruns
      refine (drawRun_ok hty hc hfn hdom ops [] k s.slots s.nx runs hruns).mapO h fun hk x s' hx hg => ?_
      obtain ⟨ds, fin⟩ := x
      obtain ⟨new, hnew, hops, hch⟩ := hg
      simp only [List.nil_append] at hnew
      subst hnew
      simp only at hx
      split at hx
      · rename_i hok
        cases hx
        unfold drawOk at hok
        simp only [Bool.and_eq_true, List.all_eq_true] at hok
        obtain ⟨hpairs, hall⟩ := hok
        obtain ⟨hfin, hde⟩ := hch.get
        simp only at hfin
        intro Δ β a w id hs Q hQ
        let C : DCtx := ⟨P, ρ, ops, ds, s, nt, β, a, { w with drawn := w.drawn + 1 }, Δ⟩
        have hs' : SatS Δ ρ β nt s a { w with drawn := w.drawn + 1 } := ⟨hs.sa, hs.sz, ⟨fun l x hx => by
          obtain ⟨h1, h2, h3, h4⟩ := hs.sh.blk l x hx
          refine ⟨h1, h2, h3, ?_⟩
          cases hxb : x.blk with
          | _ => rw [hxb] at h4; exact h4, hs.sh.inj⟩⟩
        have hC : C.Ok := by
          refine ⟨hs', hops, fun i d hd => ?_, fun i j a b hij ha hb => ?_, fun d hd l hl hn => ?_, fun d hd => ?_, fun i o ho e he hb => ?_, fun o ho t ht => ?_⟩
          · have := hde i d hd
            simpa [DCtx.nxa] using this
          · have := pairsOk_ok hpairs i j a b hij ha hb
            simpa using this
          · have := (hall d hd).1
            unfold ownOk at this
            rw [List.all_eq_true] at this
            obtain ⟨x, hx, rfl⟩ := List.mem_map.1 hl
            have h1 := this x hx
            simp only [Bool.or_eq_true] at h1
            rcases h1 with h1 | h1
            · have : s.nx ≤ x.1 := Nat.le_of_ble_eq_true h1
              have hn' : x.1 < s.nx := hn
              omega
            · split at h1
              · rename_i y hy
                exact ⟨y, hy, h1⟩
              · cases h1
          · exact Nat.le_of_ble_eq_true (hall d hd).2
          · have := edgesOk_ok hck.1 i o ho e he hb
            simpa using this
          · have := hck.2 o ho
            unfold dstOk at this
            rw [ht] at this
            simpa [Nat.blt_eq] using this
        have none_ : ∀ {α : Type} (f : DE → List (Nat × α)) (r : List DE) (i : Nat) (g : Nat → Option α), foldD (fun _ => false) f r i g = g := by
          intro α f r
          induction r with
          | nil => intro i g; rfl
          | cons d r ih => intro i g; simp only [foldD, Bool.false_eq_true, if_false]; exact ih _ _
        have hI0 : C.Inv (fun _ => false) β a { w with drawn := w.drawn + 1 } := by
          refine ⟨Lab.agree_refl _ _, fun i d _ h => (by cases h), fun t v hv => ?_, hs.sz, hs.sa.defers, fun l x hx => ?_, fun l l' x x' hx hx' hne hw => ?_, fun l x hx hl => ?_, fun l x hx _ hb => ?_, Frm.refl _ _, fun i d _ h => (by cases h)⟩
          · unfold DCtx.sl at hv
            rw [none_] at hv
            obtain ⟨h1, h2⟩ := hs.sa.slot t v hv
            exact ⟨SV.allL_mono (fun l hl => .inl hl) (SV.below_iff.1 h1), h2⟩
          · unfold DCtx.hp at hx
            rw [none_] at hx
            obtain ⟨h1, h2, h3, h4⟩ := hs'.sh.blk l x hx
            exact ⟨.inl h1, Blk.allL_mono (fun l hl => .inl hl) (Blk.below_iff.1 h2), h3, h4⟩
          · unfold DCtx.hp at hx hx'
            rw [none_] at hx hx'
            exact hs'.sh.inj l l' x x' hx hx' hne hw
          · unfold DCtx.hp at hx
            rw [none_] at hx
            have := (hs'.sh.blk l x hx).1
            have hl' : s.nx ≤ l := hl
            omega
          · unfold DCtx.hp at hx
            rw [none_] at hx
            exact ⟨x, hx, hb⟩
        have hlen : ops.length = ds.length := by rw [← hops, List.length_map]
        have hflags : DCtx.flags (Array.replicate ops.toArray.size false) = fun _ => false := by
          funext j
          unfold DCtx.flags
          simp [Array.getD]
        refine wpIn_region_any hm ?_
        refine DCtx.run_any hC ?_ _ _ β a _ (by simp [C, hlen]) (by simp [DCtx.rest, List.countP_replicate]) (by rw [hflags]; exact hI0)
        intro D β' a' w' hD hI
        have hfull : ∀ {α : Type} (f : DE → List (Nat × α)) (g : Nat → Option α) (l : Nat), foldD D f ds 0 g l = foldD (fun _ => true) f ds 0 g l := by
          intro α f g l
          refine foldD_congr rfl fun j d hj hne => ?_
          have hlt := (List.getElem?_eq_some_iff.1 hj).1
          simp only [Nat.zero_add] at hne
          exact absurd (hD j hlt) hne
        have hN : C.nxa ds.length = lastNx s.nx ds := by simp [DCtx.nxa, C]
        have liveN : ∀ l, C.live D l → l < lastNx s.nx ds := by
          intro l hl
          rw [← hN]
          rcases hl with hl | ⟨j, hj, _, _, h2⟩
          · have := DCtx.nxa_mono hC (Nat.zero_le ds.length)
            rw [DCtx.nxa_zero] at this
            have hl' : l < C.s.nx := hl
            omega
          · have : C.nxa (j + 1) ≤ C.nxa ds.length := DCtx.nxa_mono hC hj
            omega
        have hheap : ∀ l x, (foldD (fun _ => true) fH ds 0 s.heap.get) l = some x → C.hp D l = some x := by
          intro l x hx
          unfold DCtx.hp
          rw [show C.ds = ds from rfl, hfull]
          exact hx
        have hsatH : SatH ρ β' (lastNx s.nx ds) (foldD (fun _ => true) fH ds 0 s.heap.get) w' := by
          refine ⟨fun l x hx => ?_, fun l l' x x' hx hx' hne hw => ?_⟩
          · obtain ⟨h1, h2, h3, h4⟩ := hI.blk l x (hheap l x hx)
            exact ⟨liveN l h1, Blk.below_iff.2 (Blk.allL_mono liveN h2), h3, h4⟩
          · exact hI.inj l l' x x' (hheap l x hx) (hheap l' x' hx') hne hw
        have hset : foldD (fun _ => true) fH ds 0 s.heap.get = Heap.set s.heap.get (ds.flatMap fun d => d.e.sets) := by rw [foldTrue_set, Heap.set_eq]
        have hnx : s.nx ≤ lastNx s.nx ds := by
          rw [← hN]
          have := DCtx.nxa_mono hC (Nat.zero_le ds.length)
          rwa [DCtx.nxa_zero] at this
        have hblocks : ∀ k, C.blocks k → Sets.blocks (ds.flatMap fun d => d.e.sets) β s.nx s.heap.get k := by
          rintro k ⟨d, hd, l, hl, hn, hx, he⟩
          refine ⟨l, ?_, hn, hx, he⟩
          obtain ⟨x, hxd, hxl⟩ := List.mem_map.1 hl
          exact List.mem_map.2 ⟨x, List.mem_flatMap.2 ⟨d, hd, hxd⟩, hxl⟩
        refine hQ β' a' w' ⟨⟨⟨fun t v ht => ?_, hI.defers⟩, hI.sz, hsatH.sub fun l x hx => putAll_get hx⟩, ds.flatMap (fun d => d.e.sets), ⟨hnx, hI.agree, by rw [← hset]; exact hsatH, ?_, fun l x0 hl hn => ?_, fun l x0 hl hn => ?_⟩, fun l => ?_, fun l x hx => ?_⟩
        · simp only [hfin] at ht
          have h1 := slotsAfter_get (i := 0) ht
          have h2 : C.sl D t = some v := by
            unfold DCtx.sl
            rw [show C.ds = ds from rfl, hfull]
            exact h1
          obtain ⟨h3, h4⟩ := hI.slot t v h2
          exact ⟨SV.below_iff.2 (SV.allL_mono liveN h3), h4⟩
        · have hf : Frm C.blocks w w' := ⟨hI.frm.os, hI.frm.tape, hI.frm.output, hI.frm.size, hI.frm.old, hI.frm.fz⟩
          exact hf.mono fun k _ hk => hblocks k hk
        · have hmem := Sets.find_mem hl
          obtain ⟨x, hx, hxl⟩ := List.mem_map.1 hmem
          obtain ⟨d, hd, hxd⟩ := List.mem_flatMap.1 hx
          obtain ⟨y, hy, hw⟩ := hC.own d hd l (by rw [← hxl]; exact List.mem_map.2 ⟨x, hxd, rfl⟩) hn
          refine ⟨y, hy, hw, fun hh => ?_⟩
          have hx0 : (foldD (fun _ => true) fH ds 0 s.heap.get) l = some x0 := by rw [hset, Heap.set_of_mem hmem]; exact hl
          obtain ⟨z, hz, hzh⟩ := hI.old l x0 (hheap l x0 hx0) hn hh
          have hz' : s.heap.get l = some z := hz
          rw [hy] at hz'
          cases hz'
          exact hzh
        · have hx0 : (foldD (fun _ => true) fH ds 0 s.heap.get) l = some x0 := by rw [hset, Heap.set_of_mem (Sets.find_mem hl)]; exact hl
          exact ⟨(hsatH.blk l x0 hx0).1, fun hh => (hI.new l x0 (hheap l x0 hx0) hn hh).imp (fun h => h) (hblocks _)⟩
        · simp only [List.mem_append]
          rw [logAll_mem]
        · rw [← hset]
          exact putAll_get hx
      · cases hx
    · cases h
  · cases h
end

/-! ### the executor whole -/
/-- The blocks behind which ways are made one, and the slots that go on. -/
def mbOf : List (Nat × List Nat) → Nat → Option (List Nat)
  | [], _ => none
  | (i, l) :: r, id => match Nat.beq i id with | true => some l | false => mbOf r id
/-- Hints: where ways are made one; contracts. -/
structure Hn where
  mb : List (Nat × List Nat)
  ct : CallF
def noCt : CallF := fun _ _ _ _ _ => none
theorem noCt_ok {P : Program} {ρ : Env} : CallOk P ρ noCt := fun _ _ _ _ _ _ h => (by cases h)
def mkCfgM (ty : Tys) (fn : FuncId → Option Func) (hn : Hn) : Cfg := ⟨ty, fn, drawOps ty, mbOf hn.mb, hn.ct⟩
abbrev mkCfg (ty : Tys) (fn : FuncId → Option Func) : Cfg := mkCfgM ty fn ⟨[], noCt⟩
theorem exec_sound {P : Program} {ty : Tys} {fn : FuncId → Option Func} (hm : P.follows .mixedOrders = true) (hty : TysOk P ty) (hfn : FnOk P fn) (ρ : Env) (hn : Hn) (hct : CallOk P ρ hn.ct) (n : Nat) : ExOk P ρ (mkCfgM ty fn hn) n :=
  (exec_ok hty hfn hct (fun _ _ _ _ _ _ hc hdom h => drawOps_ok (fnm := fn) hty hm hc hfn (fun f a h n k l hf e => hdom f a h n k l hf e) h) n).1
theorem call_sound {P : Program} {ty : Tys} {fn : FuncId → Option Func} (hm : P.follows .mixedOrders = true) (hty : TysOk P ty) (hfn : FnOk P fn) (ρ : Env) (hn : Hn) (hct : CallOk P ρ hn.ct) (n : Nat) : CallOk P ρ (callF (mkCfgM ty fn hn) n) :=
  callOk hty hfn hct (exec_sound hm hty hfn ρ hn hct n)
end
end Go.Sx
/-
  SX, PART 15: A LAW OF FLAT ARGUMENTS: integers, bools, structs and arrays of these: the executor's run, checked, is the walk.
-/
namespace Go.Sx
set_option linter.unusedSimpArgs false
set_option linter.unusedVariables false
set_option linter.unusedSectionVars false
noncomputable section
set_option linter.unusedVariables false

/-! ### arguments with a variable for each cell -/
def symCell (P : Program) (u : TypeId) (n : Nat) : Option (CV × Fact) :=
  match P.underlying u with
  | some (.int k) => some (.int k (.var n), .rng (.var n) (some (kmin k), some (kmax k)))
  | some .bool => some (.bool (.var n), .rng (.var n) (some 0, some 1))
  | _ => none
def symCells (P : Program) : List TypeId → Nat → Option (List CV × List Fact)
  | [], _ => some ([], [])
  | u :: us, n => match symCell P u n, symCells P us (n + 1) with
    | some (c, f), some (cs, k) => some (c :: cs, f :: k)
    | _, _ => none
def aggB (P : Program) (t : TypeId) : Bool := match P.underlying t with
  | some (.struct _) | some (.array _ _) => true
  | _ => false
def symArg (P : Program) (t : TypeId) (n : Nat) : Option (V1 × List Fact × Nat) :=
  match aggB P t with
  | true => match P.cellTypes P.depth t with
    | some ts => match Nat.beq (P.cellsOf t) ts.length, symCells P ts n with
      | true, some (cs, k) => some (.agg cs, k, n + ts.length)
      | _, _ => none
    | none => none
  | false => match symCell P t n with
    | some (c, f) => some (.one c, [f], n + 1)
    | none => none
def symArgs (P : Program) : List TypeId → Nat → Option (List V1 × List Fact × Nat)
  | [], n => some ([], [], n)
  | t :: ts, n => match symArg P t n with
    | some (x, k, m) => match symArgs P ts m with
      | some (xs, k', m') => some (x :: xs, k ++ k', m')
      | none => none
    | none => none

/-- What an environment gives from n on is the list. -/
def Env.from (ρ : Env) (n : Nat) (L : List Int) : Prop := ∀ i, i < L.length → ρ.v (n + i) = L.getD i 0
theorem Env.from_left {ρ : Env} {n : Nat} {L L' : List Int} (h : ρ.from n (L ++ L')) : ρ.from n L := fun i hi => by
  rw [h i (by simp; omega)]
  simp [List.getD, List.getElem?_append_left hi]
theorem Env.from_right {ρ : Env} {n : Nat} {L L' : List Int} (h : ρ.from n (L ++ L')) : ρ.from (n + L.length) L' := fun i hi => by
  have := h (L.length + i) (by simp; omega)
  rw [Nat.add_assoc, this]
  simp [List.getD, List.getElem?_append_right]
theorem Env.from_cons {ρ : Env} {n : Nat} {x : Int} {L : List Int} (h : ρ.from n (x :: L)) : ρ.v n = x ∧ ρ.from (n + 1) L :=
  ⟨h 0 (by simp), Env.from_right (L := [x]) h⟩

section
variable {P : Program} {W : World} {r : Reach} {base : Nat}
theorem symCell_ok {u : TypeId} {n : Nat} {c : CV} {f : Fact} (h : symCell P u n = some (c, f)) {v : Value} (hv : Cell.okWide P W r base u v) :
    ∃ x : Int, ∀ (ρ : Env) (β : Lab), ρ.v n = x → c.den ρ β = v ∧ f.holds ρ ∧ ∀ m, c.below m := by
  unfold symCell at h
  split at h
  · rename_i k hk
    cases h
    unfold Cell.okWide at hv
    rw [hk] at hv
    unfold Cell.ok at hv
    rw [hk] at hv
    cases v <;> simp only at hv
    rename_i k' x
    obtain ⟨rfl, hx⟩ := hv
    refine ⟨x, fun ρ β e => ⟨by simp [CV.den, E.den, e], ?_, fun _ => trivial⟩⟩
    simp only [Fact.holds, E.den, e, Bd.has]
    unfold IntKind.has at hx
    rw [kmin_eq, kmax_eq] at hx
    exact ⟨fun m hm => (by cases hm; exact hx.1), fun m hm => (by cases hm; exact hx.2)⟩
  · rename_i hk
    cases h
    unfold Cell.okWide at hv
    rw [hk] at hv
    unfold Cell.ok at hv
    rw [hk] at hv
    cases v <;> simp only at hv
    rename_i b
    refine ⟨b01 b, fun ρ β e => ⟨by cases b <;> simp [CV.den, E.den, e, b01], ?_, fun _ => trivial⟩⟩
    simp only [Fact.holds, E.den, e]
    exact b01B_has (by cases b <;> simp [b01])
  · cases h
theorem symCells_ok : ∀ {us : List TypeId} {n : Nat} {cs : List CV} {k : List Fact}, symCells P us n = some (cs, k) → ∀ {vs : List Value}, vs.length = us.length →
    (∀ (i : Nat) (v : Value), vs[i]? = some v → ∃ u, us[i]? = some u ∧ Cell.okWide P W r base u v) →
    ∃ L : List Int, L.length = us.length ∧ ∀ (ρ : Env) (β : Lab), ρ.from n L → cs.map (CV.den ρ β) = vs ∧ (∀ g ∈ k, g.holds ρ) ∧ ∀ m, ∀ c ∈ cs, CV.below m c
  | [], n, cs, k, h, vs, hl, hv => by
    cases h
    have : vs = [] := List.eq_nil_of_length_eq_zero hl
    subst this
    exact ⟨[], rfl, fun ρ β _ => ⟨rfl, fun f hf => (by cases hf), fun m c hc => (by cases hc)⟩⟩
  | u :: us, n, cs, k, h, vs, hl, hv => by
    unfold symCells at h
    split at h
    · rename_i c f cs' k' hc hcs
      cases h
      match vs, hl with
      | v :: vs, hl =>
        obtain ⟨u', hu, hok⟩ := hv 0 v rfl
        cases hu
        obtain ⟨x, hx⟩ := symCell_ok hc hok
        obtain ⟨L, hL, hr⟩ := symCells_ok hcs (vs := vs) (by simpa using hl) (fun i v hi => hv (i + 1) v hi)
        refine ⟨x :: L, by simp [hL], fun ρ β hρ => ?_⟩
        obtain ⟨h1, h2⟩ := Env.from_cons hρ
        obtain ⟨a1, a2, a3⟩ := hx ρ β h1
        obtain ⟨b1, b2, b3⟩ := hr ρ β h2
        refine ⟨by rw [List.map_cons, a1, b1], fun g hg => ?_, fun m d hd => ?_⟩
        · rcases List.mem_cons.1 hg with rfl | hg
          · exact a2
          · exact b2 g hg
        · rcases List.mem_cons.1 hd with rfl | hd
          · exact a3 m
          · exact b3 m d hd
    · cases h
theorem symArg_ok {t : TypeId} {n : Nat} {x : V1} {k : List Fact} {m : Nat} (h : symArg P t n = some (x, k, m)) {v : Value} (hv : Value.okWide P W r base t v) :
    ∃ L : List Int, m = n + L.length ∧ ∀ (ρ : Env) (β : Lab), ρ.from n L → x.den ρ β = v ∧ (∀ g ∈ k, g.holds ρ) ∧ ∀ m, V1.below m x := by
  unfold symArg at h
  split at h
  · rename_i hag
    have hv' : ∃ cs, v = .agg cs ∧ cs.size = P.cellsOf t ∧ Row.okWide P W r base t cs := by
      unfold aggB at hag
      unfold Value.okWide at hv
      split at hag
      · rename_i hu; rw [hu] at hv; exact hv
      · rename_i hu; rw [hu] at hv; exact hv
      · cases hag
    split at h
    · rename_i ts hts
      split at h
      · rename_i cs k' hb hcs
        cases h
        obtain ⟨vs, rfl, hsz, hrow⟩ := hv'
        have hb := Nat.eq_of_beq_eq_true hb
        unfold Row.okWide at hrow
        obtain ⟨ts', hts', _, hcell⟩ := hrow
        rw [hts] at hts'
        cases hts'
        have hlen : vs.toList.length = ts.length := by simp [hsz, hb]
        obtain ⟨L, hL, hr⟩ := symCells_ok hcs (vs := vs.toList) hlen (fun i v hi => by
          have hi' : i < ts.length := by
            have := (List.getElem?_eq_some_iff.1 hi).1
            omega
          have := hcell i v (by simpa using hi)
          rwa [Nat.mod_eq_of_lt hi'] at this)
        refine ⟨L, by rw [hL], fun ρ β hρ => ?_⟩
        obtain ⟨b1, b2, b3⟩ := hr ρ β hρ
        exact ⟨by simp only [V1.den, b1], b2, b3⟩
      · cases h
    · cases h
  · rename_i hag
    have hv' : Cell.okWide P W r base t v := by
      unfold aggB at hag
      unfold Value.okWide at hv
      split at hag
      · cases hag
      · cases hag
      · rename_i h1 h2
        split at hv
        · rename_i hu; exact absurd hu (h1 _)
        · rename_i hu; exact absurd hu (h2 _ _)
        · exact hv
    split at h
    · rename_i c f hc
      cases h
      obtain ⟨y, hy⟩ := symCell_ok hc hv'
      refine ⟨[y], rfl, fun ρ β hρ => ?_⟩
      obtain ⟨a1, a2, a3⟩ := hy ρ β (Env.from_cons hρ).1
      exact ⟨a1, fun g hg => (by rw [List.mem_singleton.1 hg]; exact a2), a3⟩
    · cases h
theorem symArgs_ok : ∀ {ts : List TypeId} {n : Nat} {xs : List V1} {k : List Fact} {m : Nat}, symArgs P ts n = some (xs, k, m) → ∀ {vs : List Value}, vs.length = ts.length →
    (∀ (j : Nat) (t : TypeId) (v : Value), ts[j]? = some t → vs[j]? = some v → Value.okWide P W r base t v) →
    ∃ L : List Int, m = n + L.length ∧ ∀ (ρ : Env) (β : Lab), ρ.from n L → xs.map (V1.den ρ β) = vs ∧ (∀ g ∈ k, g.holds ρ) ∧ ∀ m, ∀ x ∈ xs, V1.below m x
  | [], n, xs, k, m, h, vs, hl, hv => by
    cases h
    have : vs = [] := List.eq_nil_of_length_eq_zero hl
    subst this
    exact ⟨[], rfl, fun ρ β _ => ⟨rfl, fun f hf => (by cases hf), fun m c hc => (by cases hc)⟩⟩
  | t :: ts, n, xs, k, m, h, vs, hl, hv => by
    unfold symArgs at h
    split at h
    · rename_i x k1 m1 hx
      split at h
      · rename_i xs' k' m' hxs
        cases h
        match vs, hl with
        | v :: vs, hl =>
          obtain ⟨L, hL, hr⟩ := symArg_ok hx (hv 0 t v rfl rfl)
          obtain ⟨L', hL', hr'⟩ := symArgs_ok hxs (vs := vs) (by simpa using hl) (fun j t v ht hj => hv (j + 1) t v ht hj)
          refine ⟨L ++ L', by rw [hL', hL, List.length_append]; omega, fun ρ β hρ => ?_⟩
          have e1 := Env.from_left hρ
          have e2 := Env.from_right hρ
          rw [← hL] at e2
          obtain ⟨a1, a2, a3⟩ := hr ρ β e1
          obtain ⟨b1, b2, b3⟩ := hr' ρ β e2
          refine ⟨by rw [List.map_cons, a1, b1], fun g hg => ?_, fun m d hd => ?_⟩
          · rcases List.mem_append.1 hg with hg | hg
            · exact a2 g hg
            · exact b2 g hg
          · rcases List.mem_cons.1 hd with rfl | hd
            · exact a3 m
            · exact b3 m d hd
      · cases h
    · cases h
end

/-! ### the run of a law -/
/-- What is left to show: a result that is no literal true, on its path. -/
def restOf : List (Known × Eff) → Option (List (Known × E))
  | [] => some []
  | (k, e) :: l => match restOf l with
    | none => none
    | some r => match e.res with
      | .v (.one (.bool (.lit (.ofNat 1)))) => some r
      | .v (.one (.bool x)) => some ((k, x) :: r)
      | _ => none
def callN (cf : Cfg) (n : Nat) : CallF := fun f args heap nx k => match Nat.beq f yldId with | true => none | false => callF cf n f args heap nx k
theorem callN_ok {cf : Cfg} {n : Nat} {f : FuncId} {args : List V1} {heap : T Ent} {nx : Nat} {k : Known} {l : EAlts} (h : callN cf n f args heap nx k = some l) : Nat.beq f yldId = false ∧ callF cf n f args heap nx k = some l := by
  unfold callN at h
  split at h
  · cases h
  · rename_i hf
    exact ⟨hf, h⟩
def lawRun (P : Program) (ty : Tys) (fn : FuncId → Option Func) (n : Nat) (f : FuncId) (ts : List TypeId) : Option (List (Known × E)) :=
  match symArgs P ts 0 with
  | some (xs, k, _) => match callN (mkCfg ty fn) n f xs .leaf 0 (Known.nil.adds k) with
    | some l => restOf l
    | none => none
  | none => none
theorem restOf_ok {ρ : Env} : ∀ {l : List (Known × Eff)} {r : List (Known × E)}, restOf l = some r → (∀ p ∈ r, Known.holds ρ p.1 → p.2.den ρ ≠ 0) →
    ∀ o ∈ l, Known.holds ρ o.1 → ∀ β, o.2.res.den ρ β = .bool true
  | [], r, h, hr, o, ho => by cases ho
  | (k, e) :: l, r, h, hr, o, ho => by
    unfold restOf at h
    split at h
    · cases h
    · rename_i r' hr'
      intro hk β
      split at h
      · rename_i he
        cases h
        rcases List.mem_cons.1 ho with rfl | ho
        · simp [he, SV.den, V1.den, CV.den, E.den]
        · exact restOf_ok hr' hr o ho hk β
      · rename_i x _ he
        cases h
        rcases List.mem_cons.1 ho with rfl | ho
        · have := hr (k, x) (List.mem_cons_self ..) hk
          simp [he, SV.den, V1.den, CV.den, this]
        · exact restOf_ok hr' (fun p hp => hr p (List.mem_cons_of_mem _ hp)) o ho hk β
      · cases h
theorem Frm.grown {S : Nat → Prop} {w w' : World} (h : Frm S w w') (hS : ∀ k, ¬ S k) : RowKit.Grown w w' := by
  refine ⟨⟨h.os, h.output, fun i hi => ?_⟩, h.fz, h.size⟩
  rw [h.old i hi (hS i)]
  have := (World.keptBut_refl w (fun _ => False)).2.2 i hi
  exact this
/-- What stood before stands. -/
structure Kept (w w' : World) : Prop where
  grown : RowKit.Grown w w'
  old : ∀ k, k < w.heap.size → w'.heap[k]? = w.heap[k]?
theorem law_walk {P : Program} {ty : Tys} {fn : FuncId → Option Func} (hm : P.follows .mixedOrders = true) (hty : TysOk P ty) (hfn : FnOk P fn) {n : Nat} {f : FuncId} {ts : List TypeId}
    {rest : List (Known × E)} (hrun : lawRun P ty fn n f ts = some rest) (hrest : ∀ ρ : Env, ∀ p ∈ rest, Known.holds ρ p.1 → p.2.den ρ ≠ 0) {r : Reach} {base : Nat} {W : World} {args : Array Value}
    (hsz : args.size = ts.length) (hv : ∀ (j : Nat) (t : TypeId) (v : Value), ts[j]? = some t → args[j]? = some v → Value.okWide P W r base t v) :
    Calls P f args W fun e w' => e = .returned (.bool true) ∧ Kept W w' := by
  unfold lawRun at hrun
  split at hrun
  · rename_i xs k m hsym
    split at hrun
    · rename_i l hl
      obtain ⟨hfy, hl⟩ := callN_ok hl
      obtain ⟨L, -, hL⟩ := symArgs_ok hsym (vs := args.toList) (by simpa using hsz) (fun j t v ht hj => hv j t v ht (by simpa using hj))
      let ρ : Env := ⟨fun i => L.getD i 0, fun _ _ _ => 0⟩
      have hρ : ρ.from 0 L := fun i _ => by simp [ρ]
      let β : Lab := ⟨fun _ => 0, fun _ => .bool true⟩
      obtain ⟨h1, h2, h3⟩ := hL ρ β hρ
      have hcall := call_sound hm hty hfn ρ ⟨[], noCt⟩ noCt_ok n f xs .leaf 0 (Known.nil.adds k) l hl
      obtain ⟨o, ho, hok⟩ := hcall.1 (Known.adds_holds (Known.nil_holds ρ) h2)
      have hg := (hcall.2 o ho hok).2 β W (h3 0) ⟨fun l x hx => (by cases hx), fun l l' x x' hx => (by cases hx)⟩
      rw [h1, Array.toArray_toList] at hg
      refine (hg.fn hfy).mono fun e w' ⟨β', st, _, he⟩ => ?_
      refine ⟨?_, st.frm.grown fun k ⟨l, _, hl, _⟩ => Nat.not_lt_zero _ hl, fun k hk => st.frm.old k hk fun ⟨l, _, hl, _⟩ => Nat.not_lt_zero _ hl⟩
      rw [he, restOf_ok hrun (hrest ρ) o ho hok β']
    · cases hrun
  · cases hrun
/-! ### the run of a law, by cases -/
def assumesK {R : Type} (k : Known) (l : List (E × Bool)) (K : Known → R) : R := match l with
  | [] => K k
  | (c, b) :: r => assumeK k c b fun k => assumesK k r K
def assumes (k : Known) : List (E × Bool) → Known
  | [] => k
  | (c, b) :: r => assumes (assume k c b) r
theorem assumesK_eq {R : Type} : ∀ (l : List (E × Bool)) (k : Known) (K : Known → R), assumesK k l K = K (assumes k l)
  | [], k, K => by simp only [assumesK, assumes]
  | (c, b) :: r, k, K => by simp only [assumesK, assumes, assumeK_eq, assumesK_eq r]
theorem assumes_holds {ρ : Env} : ∀ {l : List (E × Bool)} {k : Known}, Known.holds ρ k → (∀ p ∈ l, (p.1.den ρ ≠ 0 ↔ p.2 = true)) → Known.holds ρ (assumes k l)
  | [], _, h, _ => h
  | (c, b) :: r, k, h, hl => assumes_holds (l := r) (assume_holds h (hl _ (List.mem_cons_self ..))) fun p hp => hl p (List.mem_cons_of_mem _ hp)
/-- A tree of tests. -/
inductive DT where
  | leaf | node (c : E) (t f : DT)
def DT.paths : DT → List (List (E × Bool))
  | .leaf => [[]]
  | .node c t f => t.paths.map (fun p => (c, true) :: p) ++ f.paths.map (fun p => (c, false) :: p)
theorem DT.cover (ρ : Env) : ∀ t : DT, ∃ p ∈ t.paths, ∀ x ∈ p, (x.1.den ρ ≠ 0 ↔ x.2 = true)
  | .leaf => ⟨[], by simp [DT.paths], fun x hx => by cases hx⟩
  | .node c t f => by
    by_cases hc : c.den ρ = 0
    · obtain ⟨p, hp, h⟩ := DT.cover ρ f
      refine ⟨(c, false) :: p, List.mem_append_right _ (List.mem_map.2 ⟨p, hp, rfl⟩), fun x hx => ?_⟩
      rcases List.mem_cons.1 hx with rfl | hx
      · simp [hc]
      · exact h x hx
    · obtain ⟨p, hp, h⟩ := DT.cover ρ t
      refine ⟨(c, true) :: p, List.mem_append_left _ (List.mem_map.2 ⟨p, hp, rfl⟩), fun x hx => ?_⟩
      rcases List.mem_cons.1 hx with rfl | hx
      · simp [hc]
      · exact h x hx
/-- What is left to show: a result, and the tests on its path. -/
abbrev Rest := List (E × Bool) × E
def isT : Option Bool → Bool
  | some b => b
  | none => false
def restsOf : List (Known × Eff) → Option (List Rest)
  | [] => some []
  | (k, e) :: l => match e.res with
    | .v (.one (.bool x)) => (match isT (dec k x) with
      | true => restsOf l
      | false => match restsOf l with | some r => some ((k.tr, x) :: r) | none => none)
    | _ => none
def lawRunP (P : Program) (ty : Tys) (fn : FuncId → Option Func) (n : Nat) (f : FuncId) (ts : List TypeId) (path : List (E × Bool)) : Option (List Rest) :=
  match symArgs P ts 0 with
  | some (xs, k, _) => Known.addsK Known.nil k fun k => assumesK k path fun k => match callN (mkCfg ty fn) n f xs .leaf 0 k with
    | some l => restsOf l
    | none => none
  | none => none
def Rest.ok (ρ : Env) (p : Rest) : Prop := (∀ t ∈ p.1, (t.1.den ρ ≠ 0 ↔ t.2 = true)) → p.2.den ρ ≠ 0
theorem restsOf_ok {ρ : Env} : ∀ {l : List (Known × Eff)} {r : List Rest}, restsOf l = some r → (∀ p ∈ r, Rest.ok ρ p) →
    ∀ o ∈ l, Known.holds ρ o.1 → ∀ β, o.2.res.den ρ β = .bool true
  | [], r, h, hr, o, ho => by cases ho
  | (k, e) :: l, r, h, hr, o, ho => by
    unfold restsOf at h
    intro hk β
    have one : ∀ x : E, (k.tr, x) ∈ r → e.res = .v (.one (.bool x)) → Known.holds ρ k → e.res.den ρ β = .bool true := by
      intro x hx he hk
      have := hr _ hx hk.tr
      simp only at this
      simp [he, SV.den, V1.den, CV.den, this]
    split at h
    · rename_i x he
      split at h
      · rename_i hd
        rcases List.mem_cons.1 ho with rfl | ho
        · have h1 : dec k x = some true := by
            cases hx : dec k x with
            | none => rw [hx] at hd; cases hd
            | some b => rw [hx] at hd; simp only [isT] at hd; rw [hd]
          have := (dec_sound hk h1).2 rfl
          simp [he, SV.den, V1.den, CV.den, this]
        · exact restsOf_ok h hr o ho hk β
      · split at h
        · rename_i r' hr'
          cases h
          rcases List.mem_cons.1 ho with rfl | ho
          · exact one _ (List.mem_cons_self ..) he hk
          · exact restsOf_ok hr' (fun p hp => hr p (List.mem_cons_of_mem _ hp)) o ho hk β
        · cases h
    · cases h
/-- What the arguments' types say of the numbers. -/
def ArgsIn (P : Program) (ts : List TypeId) (ρ : Env) : Prop := ∀ xs k m, symArgs P ts 0 = some (xs, k, m) → ∀ g ∈ k, Fact.holds ρ g
def RunOk (P : Program) (ty : Tys) (fn : FuncId → Option Func) (n : Nat) (f : FuncId) (ts : List TypeId) (path : List (E × Bool)) : Prop :=
  ∃ rest, lawRunP P ty fn n f ts path = some rest ∧ ∀ ρ : Env, ArgsIn P ts ρ → ∀ p ∈ rest, Rest.ok ρ p
theorem law_walk_tree {P : Program} {ty : Tys} {fn : FuncId → Option Func} (hm : P.follows .mixedOrders = true) (hty : TysOk P ty) (hfn : FnOk P fn) {n : Nat} {f : FuncId} {ts : List TypeId} (tree : DT) (lem : List (E × Bool)) (hlem : ∀ ρ : Env, ArgsIn P ts ρ → ∀ t ∈ lem, (t.1.den ρ ≠ 0 ↔ t.2 = true))
    (hrun : ∀ path ∈ tree.paths, RunOk P ty fn n f ts (lem ++ path)) {r : Reach} {base : Nat} {W : World} {args : Array Value}
    (hsz : args.size = ts.length) (hv : ∀ (j : Nat) (t : TypeId) (v : Value), ts[j]? = some t → args[j]? = some v → Value.okWide P W r base t v) (hsym : (symArgs P ts 0).isSome = true) :
    Calls P f args W fun e w' => e = .returned (.bool true) ∧ Kept W w' := by
  obtain ⟨⟨xs, k, m⟩, hsym⟩ := Option.isSome_iff_exists.1 hsym
  obtain ⟨L, -, hL⟩ := symArgs_ok hsym (vs := args.toList) (by simpa using hsz) (fun j t v ht hj => hv j t v ht (by simpa using hj))
  let ρ : Env := ⟨fun i => L.getD i 0, fun _ _ _ => 0⟩
  have hρ : ρ.from 0 L := fun i _ => by simp [ρ]
  let β : Lab := ⟨fun _ => 0, fun _ => .bool true⟩
  obtain ⟨h1, h2, h3⟩ := hL ρ β hρ
  obtain ⟨path, hp, hpath⟩ := tree.cover ρ
  obtain ⟨rest, hrest, hok⟩ := hrun path hp
  have hin : ArgsIn P ts ρ := by
    intro xs' k' m' h' g hg
    rw [hsym] at h'
    cases h'
    exact h2 g hg
  unfold lawRunP at hrest
  rw [hsym] at hrest
  simp only [Known.addsK_eq, assumesK_eq] at hrest
  split at hrest
  · rename_i l hl
    obtain ⟨hfy, hl⟩ := callN_ok hl
    have hcall := call_sound hm hty hfn ρ ⟨[], noCt⟩ noCt_ok n f xs .leaf 0 _ l hl
    obtain ⟨o, ho, hok'⟩ := hcall.1 (assumes_holds (Known.adds_holds (Known.nil_holds ρ) h2) fun t ht => (List.mem_append.1 ht).elim (hlem ρ hin t) (hpath t))
    have hg := (hcall.2 o ho hok').2 β W (h3 0) ⟨fun l x hx => (by cases hx), fun l l' x x' hx => (by cases hx)⟩
    rw [h1, Array.toArray_toList] at hg
    refine (hg.fn hfy).mono fun e w' ⟨β', st, _, he⟩ => ?_
    refine ⟨?_, st.frm.grown fun k ⟨l, _, hl, _⟩ => Nat.not_lt_zero _ hl, fun k hk => st.frm.old k hk fun ⟨l, _, hl, _⟩ => Nat.not_lt_zero _ hl⟩
    rw [he, restsOf_ok hrest (hok ρ hin) o ho hok' β']
  · cases hrest
end
end Go.Sx
/-
  SX, PART 16: FROM A WALK THAT ENDS TRUE AND KEEPS WHAT STOOD BEFORE TO A LAW's ROW.
-/
namespace Go.Sx
set_option linter.unusedSimpArgs false
set_option linter.unusedVariables false
set_option linter.unusedSectionVars false
noncomputable section
open Go.ChangeShapes Go.WideShapes Go.ChangeAt Go.RowKit
section
variable {H : Type} {enc : TypeId × Value → H} {P : Program} {w w' : World} {base : Nat} {spare : Nat → Bool} {held : Bool}
theorem trodAll_carry : ∀ {ts : List TypeId} {vs : List Value} {ds : List (DataW H)} {ps : List MemPlace}, DataW.TrodAll enc P w base spare held ts vs ds ps → (∀ p ∈ ps, w.sameAt w' p) →
    DataW.TrodAll enc P w' base spare held ts vs ds ps
  | [], [], [], _, h, _ => h
  | _ :: _, _ :: _, _ :: _, _, ⟨p, q, ⟨n, h1⟩, h2, e⟩, hs =>
    ⟨p, q, ⟨n, DataW.trod_carry n _ _ _ h1 (fun x hx => hs x (by rw [e]; exact List.mem_append_left _ hx))⟩, trodAll_carry h2 (fun x hx => hs x (by rw [e]; exact List.mem_append_right _ hx)), e⟩
theorem trodAll_length : ∀ {ts : List TypeId} {vs : List Value} {ds : List (DataW H)} {ps : List MemPlace}, DataW.TrodAll enc P w base spare held ts vs ds ps → vs.length = ts.length ∧ ds.length = ts.length
  | [], [], [], _, _ => ⟨rfl, rfl⟩
  | _ :: _, _ :: _, _ :: _, _, ⟨_, _, _, h2, _⟩ => by
    have := trodAll_length h2
    simp [this.1, this.2]
theorem same_of_old {p : MemPlace} (h : ∀ k, k < w.heap.size → w'.heap[k]? = w.heap[k]?) (hp : p.block < w.heap.size) : w.sameAt w' p := by
  cases p with
  | cell b off =>
    have e : w'.heap[b]? = w.heap[b]? := h b hp
    simp only [World.sameAt, World.cell?, e]
  | map b => exact h b hp
/-- The arguments read behind the call as before. -/
theorem args_again {T : TypeId → Prop} (K : Kids P T) (hz : ∀ t e, T t → P.underlying t = some (.slice e) → 0 < P.cellsOf e) {ts : List TypeId} (hT : ∀ t ∈ ts, T t) {vs : List Value} {ds : List (DataW H)} {ps : List MemPlace}
    (h : DataW.TrodAll enc P w 0 (fun _ => true) true ts vs ds ps) (hk : ∀ k, k < w.heap.size → w'.heap[k]? = w.heap[k]?) (hlt : ∀ p ∈ ps, p.block < w.heap.size) (sp : Nat → Bool) (hsp : ∀ p ∈ ps, sp p.block = true) :
    DataW.TrodAll enc P w' 0 sp true ts vs ds ps :=
  trodAll_carry (DataW.TrodAll.respare K hz hT h hsp) fun p hp => same_of_old hk (hlt p hp)
end
/-- Zeros of the types. -/
noncomputable def zeros (P : Program) (ts : List TypeId) : Array Value := (ts.map fun t => ((P.info? t).bind (·.zero)).getD (.bool false)).toArray
def fnOf (P : Program) : FuncId → Option Func := fun f => P.funcs[f]?
theorem fnOf_ok {P : Program} (h : (P.funcs.all fun g => !(g.name == "runtime.NumGoroutine")) = true) : FnOk P (fnOf P) := by
  intro f g hg
  have hg' : P.funcs[f]? = some g := hg
  refine ⟨hg', ?_⟩
  rw [Array.all_eq_true_iff_forall_mem] at h
  have := h g (Array.mem_of_getElem? hg')
  simpa using this
theorem tysOf (P : Program) : TysOk P (TI.of P) := fun _ _ h => TI.of_ok h
end
end Go.Sx
/-
  SX: BITS. What expressions of uint64 denote, as bit vectors; a few laws of these.
-/
namespace Go.Sx
set_option linter.unusedSimpArgs false
set_option linter.unusedVariables false
set_option linter.unusedSectionVars false
noncomputable section

abbrev B64 (x : Int) : BitVec 64 := BitVec.ofInt 64 x
theorem wrap_toNat (v : BitVec 64) : IntKind.u64.wrap (v.toNat : Int) = (v.toNat : Int) := by
  have := v.isLt
  exact wrap_in ⟨by simp [kmin], by simp [kmax]; omega⟩
theorem B64_toNat (v : BitVec 64) : B64 (v.toNat : Int) = v := ofInt_toNat v
theorem wrap_B64 (x : Int) : IntKind.u64.wrap x = ((B64 x).toNat : Int) := by
  rw [← wrap_toNat, ← wrap_toNat]
  have h := ofInt_wrap .u64 x
  have h2 : BitVec.ofInt 64 (IntKind.u64.wrap x) = B64 x := h
  have h3 := wrap_range .u64 x
  simp only [kmin, kmax] at h3
  have e : IntKind.u64.wrap x = ((B64 x).toNat : Int) := by
    rw [← h2, BitVec.toNat_ofInt, Int.emod_eq_of_lt (by omega) (by omega)]
    omega
  rw [wrap_toNat, wrap_toNat, e]
section
variable (ρ : Env) (a b : E)
theorem den_and64 : (E.bin (.and .u64) a b).den ρ = ((B64 (a.den ρ) &&& B64 (b.den ρ)).toNat : Int) := by simp only [E.den, BO.den]; exact wrap_toNat _
theorem den_or64 : (E.bin (.or .u64) a b).den ρ = ((B64 (a.den ρ) ||| B64 (b.den ρ)).toNat : Int) := by simp only [E.den, BO.den]; exact wrap_toNat _
theorem den_xor64 : (E.bin (.xor .u64) a b).den ρ = ((B64 (a.den ρ) ^^^ B64 (b.den ρ)).toNat : Int) := by simp only [E.den, BO.den]; exact wrap_toNat _
theorem den_andn64 : (E.bin (.andNot .u64) a b).den ρ = ((B64 (a.den ρ) &&& ~~~B64 (b.den ρ)).toNat : Int) := by simp only [E.den, BO.den]; exact wrap_toNat _
theorem den_add64 : (E.bin (.add .u64) a b).den ρ = ((B64 (a.den ρ) + B64 (b.den ρ)).toNat : Int) := by
  simp only [E.den, BO.den]; rw [wrap_B64, B64, BitVec.ofInt_add]
theorem den_sub64 : (E.bin (.sub .u64) a b).den ρ = ((B64 (a.den ρ) - B64 (b.den ρ)).toNat : Int) := by
  simp only [E.den, BO.den]; rw [wrap_B64, B64, Int.sub_eq_add_neg, BitVec.ofInt_add, BitVec.ofInt_neg, BitVec.sub_eq_add_neg]
theorem den_eq (h : a.den ρ = b.den ρ) : (E.bin .eq a b).den ρ ≠ 0 := by simp [E.den, BO.den, h]
theorem den_eq_iff : (E.bin .eq a b).den ρ ≠ 0 ↔ a.den ρ = b.den ρ := by simp [E.den, BO.den]
theorem den_var (i : Nat) : (E.var i).den ρ = ρ.v i := by simp only [E.den]
theorem den_lit (n : Nat) : (E.lit (.ofNat n)).den ρ = (n : Int) := by simp only [E.den]; rfl
end
theorem B64_lit (n : Nat) : B64 (n : Int) = BitVec.ofNat 64 n := BitVec.ofInt_natCast 64 n
theorem cast_eq {v w : BitVec 64} (h : v = w) : (v.toNat : Int) = (w.toNat : Int) := by rw [h]

theorem bits_sip (a b c d : BitVec 64) : ((a &&& ~~~(c &&& d)) ||| (b &&& (c &&& d))) = ((a &&& ~~~(c &&& d)) ||| ((b &&& c) &&& d)) := by rw [BitVec.and_assoc]
theorem sub_mask {m c : BitVec 64} (h : c &&& m = c) (i : Nat) : c.getLsbD i = true → m.getLsbD i = true := by
  intro hc
  rw [← h, BitVec.getLsbD_and, Bool.and_eq_true] at hc
  exact hc.2
theorem bits_status {m c : BitVec 64} (h : c &&& m = c) (v x : BitVec 64) : (((v &&& ~~~c) ||| (x &&& c)) &&& m) = (((v &&& m) &&& ~~~c) ||| (x &&& c)) := by
  apply BitVec.eq_of_getLsbD_eq
  intro i hi
  have hm := sub_mask h i
  simp only [BitVec.getLsbD_and, BitVec.getLsbD_or, BitVec.getLsbD_not, hi, decide_true, Bool.true_and]
  generalize v.getLsbD i = p at *
  generalize x.getLsbD i = q at *
  generalize c.getLsbD i = r at *
  generalize m.getLsbD i = s at *
  revert hm
  cases p <;> cases q <;> cases r <;> cases s <;> decide
theorem bits_view {m c d : BitVec 64} (h : c &&& m = 0) (h' : d &&& m = 0) (x : BitVec 64) : (((x &&& m) ||| c) &&& ~~~c) = ((x ||| d) &&& m) := by
  apply BitVec.eq_of_getLsbD_eq
  intro i hi
  have e1 : c.getLsbD i = true → m.getLsbD i = true → False := by
    intro h1 h2
    have := congrArg (fun v => BitVec.getLsbD v i) h
    simp [h1, h2] at this
  have e2 : d.getLsbD i = true → m.getLsbD i = true → False := by
    intro h1 h2
    have := congrArg (fun v => BitVec.getLsbD v i) h'
    simp [h1, h2] at this
  simp only [BitVec.getLsbD_and, BitVec.getLsbD_or, BitVec.getLsbD_not, hi, decide_true, Bool.true_and]
  generalize x.getLsbD i = p at *
  generalize c.getLsbD i = r at *
  generalize m.getLsbD i = s at *
  generalize d.getLsbD i = t at *
  revert e1 e2
  cases p <;> cases r <;> cases s <;> cases t <;> decide
theorem bits_cyc (x y z : BitVec 64) : (x + y) - z = y + (x - z) := by
  rw [BitVec.sub_eq_add_neg, BitVec.sub_eq_add_neg, BitVec.add_comm x y, BitVec.add_assoc]
end
end Go.Sx
/-
  SX: LOOPS. Code as a list of parts; a state held against a template; rounds by induction.
-/
namespace Go.Sx
set_option linter.unusedSimpArgs false
set_option linter.unusedVariables false
set_option linter.unusedSectionVars false
noncomputable section
set_option linter.unusedVariables false
set_option linter.unusedSimpArgs false

/-! ### code as a list of parts -/
def WPs (rd : Option Nat) (P : Program) : List Code → (Exit → Act → World → Prop) → Act → World → Prop
  | [], Q => Q .normal
  | c :: r, Q => c.wpIn (fen rd) 0 P (Exit.then (WPs rd P r Q) Q)
theorem WPs.mono {rd : Option Nat} {P : Program} : ∀ {l : List Code} {Q Q' : Exit → Act → World → Prop} {a : Act} {w : World}, WPs rd P l Q a w → (∀ e a w, Q e a w → Q' e a w) → WPs rd P l Q' a w
  | [], _, _, _, _, h, hq => hq _ _ _ h
  | c :: r, Q, Q', _, _, h, hq => wpIn_mono h fun e a w he => by
    cases e with
    | normal => exact WPs.mono (l := r) he hq
    | _ => exact hq _ _ _ he
theorem WPs.append {rd : Option Nat} {P : Program} : ∀ {l r : List Code} {Q : Exit → Act → World → Prop} {a : Act} {w : World}, WPs rd P l (Exit.then (WPs rd P r Q) Q) a w → WPs rd P (l ++ r) Q a w
  | [], r, Q, a, w, h => h
  | c :: l, r, Q, a, w, h => wpIn_mono h fun e a w he => by
    cases e with
    | normal => exact WPs.append (l := l) he
    | _ => exact he
theorem WPs.split {rd : Option Nat} {P : Program} : ∀ {l r : List Code} {Q : Exit → Act → World → Prop} {a : Act} {w : World}, WPs rd P (l ++ r) Q a w → WPs rd P l (Exit.then (WPs rd P r Q) Q) a w
  | [], r, Q, a, w, h => h
  | c :: l, r, Q, a, w, h => wpIn_mono h fun e a w he => by
    cases e with
    | normal => exact WPs.split (l := l) he
    | _ => exact he
/-- The parts of a sequence. -/
def flat : Code → List Code
  | .seq a b => flat a ++ flat b
  | c => [c]
theorem WPs.one {rd : Option Nat} {P : Program} {c : Code} {Q : Exit → Act → World → Prop} {a : Act} {w : World} (h : WPs rd P [c] Q a w) : c.wpIn (fen rd) 0 P Q a w := wpIn_mono h fun e a w he => by cases e <;> exact he
theorem WPs.flat {rd : Option Nat} {P : Program} {c : Code} : ∀ {Q : Exit → Act → World → Prop} {a : Act} {w : World}, WPs rd P (flat c) Q a w → c.wpIn (fen rd) 0 P Q a w := by
  induction c with
  | seq x y hx hy =>
    intro Q a w h
    rw [Sx.flat] at h
    refine wpIn_seq (hx ((WPs.split h).mono fun e a w he => ?_))
    cases e with
    | normal => exact hy he
    | _ => exact he
  | _ => intro Q a w h; exact WPs.one h

/-! ### the executor on a list of parts -/
def execL (cf : Cfg) (n : Nat) (nt : Nat) : List Code → Known → S → Option Outs
  | [], k, s => some [(k, .nrm, s)]
  | c :: r, k, s => match exec cf n nt c k s with
    | some outs => bindS (fun k x => k.whK fun k => match x with | (e, s) => s.whK fun s => match e with | .nrm => execL cf n nt r k s | e => some [(k, e, s)]) outs
    | none => none
def LXGood (P : Program) (ρ : Env) (nt : Nat) (l : List Code) (s : S) (o : XK × S) : Prop :=
  ∀ (Δ : Dv) (β : Lab) (a : Act) (w : World), SatS Δ ρ β nt s a w → ∀ Q : Exit → Act → World → Prop, (∀ β' a' w', Goes Δ ρ β nt s w β' o.2 a' w' → Q o.1.toExit a' w') → WPs Δ.rd P l Q a w
section
variable {P : Program} {cf : Cfg} (hty : TysOk P cf.ty) {ρ : Env}
include hty in
theorem execL_ok (hfn : FnOk P cf.fn) (hct : CallOk P ρ cf.ct) (hdr : DrawOk P ρ cf) (n nt : Nat) : ∀ (l : List Code) (k : Known) (s : S) (outs : Outs), execL cf n nt l k s = some outs → AltsOk ρ k outs (LXGood P ρ nt l s)
  | [], k, s, outs, h => by
    simp only [execL] at h
    cases h
    exact AltsOk.single fun _ Δ β a w hs Q hQ => hQ β a w (Goes.refl hs)
  | c :: r, k, s, outs, h => by
    simp only [execL, bindS_eq, Known.whK_eq, S.whK_eq] at h
    split at h
    · rename_i outs1 h1
      refine ((exec_ok hty hfn hct hdr n).1 _ _ _ _ _ h1).bind h fun k' o ys hys => ?_
      obtain ⟨x, s1⟩ := o
      cases x with
      | nrm =>
        simp only at hys
        refine (execL_ok hfn hct hdr n nt r k' s1 ys hys).weaken fun y hy hx => ?_
        intro Δ β a w hs Q hQ
        refine hx Δ β a w hs _ fun β' a' w' hg => ?_
        exact hy Δ β' a' w' hg.sat Q fun β'' a'' w'' hg' => hQ _ _ _ (Goes.trans hs.sh hg hg')
      | ext id =>
        simp only at hys
        cases hys
        refine AltsOk.single fun _ hx => ?_
        intro Δ β a w hs Q hQ
        exact hx Δ β a w hs _ fun β' a' w' hg => hQ _ _ _ hg
      | ret =>
        simp only at hys
        cases hys
        refine AltsOk.single fun _ hx => ?_
        intro Δ β a w hs Q hQ
        exact hx Δ β a w hs _ fun β' a' w' hg => hQ _ _ _ hg
    · cases h
end

/-! ### states over a first world -/
/-- Where a walk began: its world, the old blocks that may be written, the labels that stay, what these and the fixed numbers stand for. -/
structure Ctx where
  W : World
  S : Nat → Prop
  n0 : Nat
  β0 : Lab
  ρ0 : Env
  Δ : Dv
/-- The numbers and tables below 100 are fixed. -/
def Fix (ρ ρ' : Env) : Prop := ∀ i, i < 100 → ρ'.v i = ρ.v i ∧ ρ'.t i = ρ.t i
theorem Fix.refl (ρ : Env) : Fix ρ ρ := fun _ _ => ⟨rfl, rfl⟩
theorem Fix.trans {ρ ρ' ρ'' : Env} (h : Fix ρ ρ') (h' : Fix ρ' ρ'') : Fix ρ ρ'' := fun i hi => ⟨(h' i hi).1.trans (h i hi).1, (h' i hi).2.trans (h i hi).2⟩
structure TS (C : Ctx) (ρ : Env) (β : Lab) (nt : Nat) (s : S) (a : Act) (w : World) : Prop where
  sat : SatS C.Δ ρ β nt s a w
  frm : Frm C.S C.W w
  own : ∀ l x, s.heap.get l = some x → x.wr = true → x.blk.hb β → C.W.heap.size ≤ β.b l ∨ C.S (β.b l)
  fix : Fix C.ρ0 ρ
  lab : C.β0.agree C.n0 β
  le : C.n0 ≤ s.nx
theorem TS.goes {C : Ctx} {ρ : Env} {β β' : Lab} {nt : Nat} {s s' : S} {a a' : Act} {w w' : World} (h : TS C ρ β nt s a w) (g : Goes C.Δ ρ β nt s w β' s' a' w') : TS C ρ β' nt s' a' w' := by
  obtain ⟨t, st, _, hsub⟩ := g.step
  have hblocks : ∀ k, t.blocks β s.nx s.heap.get k → C.W.heap.size ≤ k ∨ C.S k := by
    rintro k ⟨l, hl, hn, ⟨y, hy, hyh⟩, he⟩
    obtain ⟨z, hz⟩ := Sets.mem_find hl
    obtain ⟨y', hy', hyw, _⟩ := st.own l z hz hn
    rw [hy] at hy'
    cases hy'
    have := h.own l y hy hyw hyh
    rw [he] at this
    exact this
  refine ⟨g.sat, Frm.trans h.frm st.frm fun k hk hb => ?_, fun l x hx hw hh => ?_, h.fix, fun l hl => ?_, Nat.le_trans h.le st.le⟩
  · rcases hblocks k hb with h1 | h1
    · omega
    · exact h1
  · have h1 := hsub l x hx
    by_cases hm : l ∈ t.labels
    · rw [Heap.set_of_mem hm] at h1
      by_cases hn : l < s.nx
      · obtain ⟨y, hy, hyw, hyh⟩ := st.own l x h1 hn
        rw [(st.agree l hn).1]
        exact h.own l y hy hyw (hyh hh)
      · have h3 := h.frm.size
        rcases (st.new l x h1 (by omega)).2 hh with h2 | h2
        · exact .inl (by omega)
        · exact hblocks _ h2
    · rw [Heap.set_of_not_mem hm] at h1
      have hb := h.sat.sh.blk l x h1
      rw [(st.agree l hb.1).1]
      exact h.own l x h1 hw ((Blk.hb_agree st.agree hb.2.1).1 hh)
  · have h1 := st.agree l (Nat.lt_of_lt_of_le hl h.le)
    exact ⟨h1.1.trans (h.lab l hl).1, h1.2.trans (h.lab l hl).2⟩
theorem execL_TS {P : Program} {ty : Tys} {fn : FuncId → Option Func} (hm : P.follows .mixedOrders = true) (hty : TysOk P ty) (hfn : FnOk P fn) {n nt : Nat} {l : List Code} {k : Known} {s : S} {outs : Outs}
    {hn : Hn} (hct : ∀ ρ, CallOk P ρ hn.ct) (h : execL (mkCfgM ty fn hn) n nt l k s = some outs) {ρ : Env} (hk : Known.holds ρ k) {C : Ctx} {β : Lab} {a : Act} {w : World} (ht : TS C ρ β nt s a w) {Q : Exit → Act → World → Prop}
    (hQ : ∀ o ∈ outs, Known.holds ρ o.1 → ∀ β' a' w', TS C ρ β' nt o.2.2 a' w' → Q o.2.1.toExit a' w') : WPs C.Δ.rd P l Q a w := by
  have hx := execL_ok (ρ := ρ) (cf := mkCfgM ty fn hn) hty hfn (hct ρ) (fun _ _ _ _ _ _ hc hdom h => drawOps_ok (fnm := fn) hty hm hc hfn (fun f a h n k l hf e => hdom f a h n k l hf e) h) n nt l k s outs h
  obtain ⟨o, ho, hok⟩ := hx.1 hk
  exact (hx.2 o ho hok).2 C.Δ β a w ht.sat Q fun β' a' w' g => hQ o ho hok β' a' w' (ht.goes g)

/-! ### a state held against a template -/
structure Tm where
  slots : List (Nat × SV)
  heap : List (Nat × Ent)
  nx : Nat
  n0 : Nat := 0
def slOf : List (Nat × SV) → Sl
  | [] => .nil
  | (n, v) :: r => .cons n v (slOf r)
def Tm.toS (t : Tm) : S := ⟨slOf t.slots, putSets .leaf t.heap, t.nx, []⟩
abbrev Pairs := List (E × E)
/-- What a template's label stands for: a label of the state; a nil slice. -/
inductive LM where
  | lab (l : Nat) | nil
  /-- A value of which no more is asked. -/
  | val (c : CV)
abbrev LP := List (Nat × LM)
/-- Tables that have to be the same; in so many rows. -/
abbrev TPairs := List (E × E × Option (E × Nat))
def TEqP (ρ ρ' : Env) (p : E × E × Option (E × Nat)) : Prop := match p.2.2 with
  | none => p.1.tden ρ = p.2.1.tden ρ'
  | some (n, c) => ∀ i : Nat, (i : Int) < n.den ρ → ∀ j, j < c → p.1.tden ρ i j = p.2.1.tden ρ' i j
/-- What has to be the same: numbers, tables; what labels stand for. -/
structure Mt where
  ps : Pairs
  ts : TPairs
  lp : LP
def Mt.none_ : Mt := ⟨[], [], []⟩
def Mt.app (a b : Mt) : Mt := ⟨a.ps ++ b.ps, a.ts ++ b.ts, a.lp ++ b.lp⟩
def mlab (l' l : Nat) : Option Mt := some ⟨[], [], [(l', .lab l)]⟩
def ptsM : List (Nat × Nat) → List (Nat × Nat) → Option LP
  | [], [] => some []
  | (l, o) :: r, (l', o') :: r' => (match Nat.beq o o', ptsM r r' with | true, some p => some ((l', .lab l) :: p) | _, _ => none)
  | _, _ => none
def cvM : CV → CV → Option Mt
  | .int k e, .int k' e' => match keq k k' with | true => some ⟨[(e, e')], [], []⟩ | false => none
  | .bool e, .bool e' => some ⟨[(e, e')], [], []⟩
  | .ptr l o, .ptr l' o' => match Nat.beq o o' with | true => mlab l' l | false => none
  | .nilp, .nilp => some Mt.none_
  | .nils, .nils => some Mt.none_
  | .nilf, .nilf => some Mt.none_
  | .slc l o n c, .slc l' o' n' c' => match Nat.beq o o' with | true => some ⟨[(n, n'), (c, c')], [], [(l', .lab l)]⟩ | false => none
  | .tslc l z r n c, .tslc l' z' r' n' c' => match Nat.beq z z' with | true => some ⟨[(r, r'), (n, n'), (c, c')], [], [(l', .lab l)]⟩ | false => none
  | .osl l, .osl l' => mlab l' l
  | .osub l n c, .osub l' n' c' => some ⟨[(n, n'), (c, c')], [], [(l', .lab l)]⟩
  | .fn f a b, .fn f' a' b' => (match Nat.beq f f', ptsM a a', ptsM b b' with | true, some p, some q => some ⟨[], [], p ++ q⟩ | _, _, _ => none)
  | .str t n, .str t' n' => some ⟨[(n, n')], [(t, t', some (n, 1))], []⟩
  | .nils, .osl l' => some ⟨[], [], [(l', .nil)]⟩
  | .slc l o n c, .osl l' => some ⟨[], [], [(l', .val (.slc l o n c))]⟩
  | .tslc l z r n c, .osl l' => some ⟨[], [], [(l', .val (.tslc l z r n c))]⟩
  | c, .opq l' => some ⟨[], [], [(l', .val c)]⟩
  | _, _ => none
def cvsM : List CV → List CV → Option Mt
  | [], [] => some Mt.none_
  | c :: r, c' :: r' => match cvM c c', cvsM r r' with | some p, some q => some (p.app q) | _, _ => none
  | _, _ => none
def v1M : V1 → V1 → Option Mt
  | .one c, .one c' => cvM c c'
  | .agg cs, .agg cs' => cvsM cs cs'
  | _, _ => none
def svM : SV → SV → Option Mt
  | .v x, .v x' => v1M x x'
  | _, _ => none
def CV.bel (n : Nat) : CV → Bool
  | .ptr l _ => Nat.blt l n
  | .slc l _ _ _ => Nat.blt l n
  | .fn _ a b => a.all (fun p => Nat.blt p.1 n) && b.all (fun p => Nat.blt p.1 n)
  | .opq i => Nat.blt i n
  | .tslc l _ _ _ _ => Nat.blt l n
  | .tptr l _ _ _ => Nat.blt l n
  | .osl l => Nat.blt l n
  | .osub l _ _ => Nat.blt l n
  | .optr l _ _ _ => Nat.blt l n
  | .xptr l _ => Nat.blt l n
  | .yld l => Nat.blt l n
  | _ => true
def V1.bel (n : Nat) : V1 → Bool
  | .one c => c.bel n
  | .agg cs => cs.all (CV.bel n)
def SV.bel (n : Nat) : SV → Bool
  | .v x => x.bel n
  | .tup _ => false
def slotsM (s : Sl) (nx : Nat) : List (Nat × SV) → Option Mt
  | [] => some Mt.none_
  | (n, v) :: r => match s.get n with
    | some x => (match v.bel nx with
      | true => (match svM x v, slotsM s nx r with | some p, some q => some (p.app q) | _, _ => none)
      | false => none)
    | none => none
def eqB01 (a b : Bool) : Bool := match a with | true => b | false => (match b with | true => false | false => true)
def impB (a b : Bool) : Bool := match a with | true => b | false => true
theorem impB_ok {a b : Bool} (h : impB a b = true) : a = true → b = true := by rintro rfl; exact h
theorem or_imp {a b a' b' : Bool} (h : a = true → a' = true) (h' : b = true → b' = true) (hw : (a || b) = true) : (a' || b') = true := by
  simp only [Bool.or_eq_true] at hw ⊢
  exact hw.imp h h'
theorem eqB01_eq {a b : Bool} (h : eqB01 a b = true) : a = b := by cases a <;> cases b <;> simp_all [eqB01]
def lpGet : LP → Nat → Option LM
  | [], _ => none
  | (a, m) :: r, l => match Nat.beq a l with | true => some m | false => lpGet r l
/-- A block of numbers, as a table. -/
def tabOf (k : CK) : List CV → Nat → E → Option E
  | [], _, t => some t
  | c :: r, i, t => match k, c with
    | .int q, .int q' e => (match keq q q' with | true => tabOf k r (i + 1) (.upd t (.lit (.ofNat i)) 0 e) | false => none)
    | .bool, .bool e => tabOf k r (i + 1) (.upd t (.lit (.ofNat i)) 0 e)
    | _, _ => none
/-- Are all of them nought? -/
def allZ (k : CK) : List CV → Bool
  | [] => true
  | c :: r => match k, c with
    | .int q, .int q' (.lit n) => (match keq q q' && ieq n 0 with | true => allZ k r | false => false)
    | .bool, .bool (.lit n) => (match ieq n 0 with | true => allZ k r | false => false)
    | _, _ => false
/-- Are the numbers such as their kind has? -/
def fitCs (k : CK) : List CV → Bool
  | [] => true
  | c :: r => match k, c with
    | .int q, .int _ (.lit n) => (match ile (kmin q) n && ile n (kmax q) with | true => fitCs k r | false => false)
    | .bool, .bool _ => fitCs k r
    | _, _ => false
def heapM1 (h : T Ent) (nx : Nat) (lp : LP) (l : Nat) (wr : Bool) : Blk → Option Mt
  | .cells cs ty => (match lpGet lp l with
    | some (.lab l') => (match h.get l' with
      | some ⟨wr', .cells cs' ty'⟩ => (match Nat.blt l nx && (cs.all (CV.bel nx) && (Nat.beq ty ty' && impB wr wr')) with
        | true => cvsM cs' cs
        | false => none)
      | _ => none)
    | _ => none)
  | .tab q t n ks => (match lpGet lp l with
    | some (.lab l') => (match h.get l' with
      | some ⟨wr', .tab q' t' n' ks'⟩ => (match Nat.blt l nx && (Nat.beq q l && (Nat.beq q' l' && (ckSame ks ks' && impB wr wr'))) with
        | true => some ⟨[(n', n)], [(t', t, none)], []⟩
        | false => none)
      | _ => none)
    | _ => none)
  | .arr t n k ty => (match lpGet lp l with
    | some (.lab l') => (match h.get l' with
      | some ⟨wr', .arr t' n' k' ty'⟩ => (match Nat.blt l nx && (Nat.beq n n' && (Nat.beq ty ty' && (ckSame [k] [k'] && impB wr wr'))) with
        | true => some ⟨[], [(t', t, none)], []⟩
        | false => none)
      | some ⟨wr', .cells cs' ty'⟩ => (match Nat.blt l nx && (Nat.beq n cs'.length && (Nat.beq ty ty' && (impB wr wr' && fitCs k cs'))) with
        | true => (match (match allZ k cs' with | true => some zeroT | false => tabOf k cs' 0 (.tv 0)) with | some t' => some ⟨[], [(t', t, some (.lit (.ofNat n), 1))], []⟩ | none => none)
        | false => none)
      | _ => none)
    | _ => none)
  | .seq q t n ks ty => (match lpGet lp l with
    | some (.lab l') => (match h.get l' with
      | some ⟨wr', .seq q' t' n' ks' ty'⟩ => (match Nat.blt l nx && (Nat.beq q l && (Nat.beq q' l' && (Nat.beq ty ty' && (ckSame ks ks' && impB wr wr')))) with
        | true => some ⟨[(n', n)], [(t', t, some (n', ks.length))], []⟩
        | false => none)
      | _ => none)
    | some .nil => (match Nat.blt l nx && Nat.beq q l with | true => some ⟨[(.lit 0, n)], [], []⟩ | false => none)
    | _ => none)
  | .lst q cs n sz ty => (match lpGet lp l with
    | some (.lab l') => (match h.get l' with
      | some ⟨wr', .lst q' cs' n' sz' ty'⟩ => (match Nat.blt l nx && (cs.all (CV.bel nx) && (Nat.beq q l && (Nat.beq q' l' && (Nat.beq ty ty' && (Nat.beq n n' && (Nat.beq sz sz' && impB wr wr')))))) with
        | true => cvsM cs' cs
        | false => none)
      | _ => none)
    | some .nil => (match Nat.blt l nx && (Nat.beq q l && (Nat.beq n 0 && Nat.beq cs.length 0)) with | true => some Mt.none_ | false => none)
    | _ => none)
  | .bag q n sz ty => (match lpGet lp l with
    | some (.lab l') => (match h.get l' with
      | some ⟨wr', .bag q' n' sz' ty'⟩ => (match Nat.blt l nx && (Nat.beq q l && (Nat.beq q' l' && (Nat.beq ty ty' && (Nat.beq sz sz' && impB wr wr')))) with
        | true => some ⟨[(n', n)], [], []⟩
        | false => none)
      | some ⟨wr', .lst q' _ n' sz' ty'⟩ => (match Nat.blt l nx && (Nat.beq q l && (Nat.beq q' l' && (Nat.beq ty ty' && (Nat.beq sz sz' && impB wr wr')))) with
        | true => some ⟨[(.lit (.ofNat n'), n)], [], []⟩
        | false => none)
      | _ => none)
    | some .nil => (match Nat.blt l nx && Nat.beq q l with | true => some ⟨[(.lit (.ofNat 0), n)], [], []⟩ | false => none)
    | _ => none)
  | .nn q => (match lpGet lp l with
    | some (.lab l') => (match h.get l' with
      | some ⟨wr', .nn q'⟩ => (match Nat.blt l nx && (Nat.beq q l && (Nat.beq q' l' && impB wr wr')) with
        | true => some Mt.none_
        | false => none)
      | _ => none)
    | _ => none)
  | .lrec _ _ => none
  | .dead => (match Nat.blt l nx with | true => some Mt.none_ | false => none)
def heapM (h : T Ent) (nx : Nat) : LP → List (Nat × Ent) → Option Mt
  | _, [] => some Mt.none_
  | lp, (l, ⟨wr, b⟩) :: r => match heapM1 h nx lp l wr b with
    | some p => (match heapM h nx (lp ++ p.lp) r with | some q => some (p.app q) | none => none)
    | none => none
def lmSame : LM → LM → Bool
  | .lab a, .lab b => Nat.beq a b
  | .nil, .nil => true
  | _, _ => false
/-- Each label stands for one thing; no two for the same block. -/
def lpOk1 (a : Nat) (m : LM) : LP → Bool
  | [] => true
  | (b, x) :: r => match Nat.beq a b with
    | true => lmSame m x && lpOk1 a m r
    | false => (match m, x with | .lab p, .lab q => !Nat.beq p q | _, _ => true) && lpOk1 a m r
def lpOkQ : LP → Bool
  | [] => true
  | (a, m) :: r => lpOk1 a m r && lpOkQ r
/-- Values' labels that rise, others below them: quick to see. -/
def lpInc (c : Nat) : Nat → LP → Bool
  | _, [] => true
  | b, (a, m) :: r => match m with
    | .val _ => (match Nat.ble b a with | true => lpInc c (a + 1) r | false => false)
    | _ => (match Nat.blt a c with | true => lpInc c b r | false => false)
def lpLabs : LP → LP
  | [] => []
  | (a, m) :: r => match m with
    | .val _ => lpLabs r
    | m => (a, m) :: lpLabs r
def firstV : LP → Nat
  | [] => 0
  | (a, m) :: r => match m with
    | .val _ => a
    | _ => firstV r
def lpOk (lp : LP) : Bool := match lpInc (firstV lp) (firstV lp) lp with
  | true => (match lpOkQ (lpLabs lp) with | true => true | false => lpOkQ lp)
  | false => lpOkQ lp
/-- Labels below n0 stand for themselves. -/
def lpFix (n0 : Nat) : LP → Bool
  | [] => true
  | (a, m) :: r => match Nat.blt a n0 with
    | false => lpFix n0 r
    | true => (match m with | .lab l => (match Nat.beq l a with | true => lpFix n0 r | false => false) | _ => false)
def idLp : Nat → LP
  | 0 => []
  | n + 1 => (n, .lab n) :: idLp n
def matchS (s : S) (t : Tm) : Option Mt := match slotsM s.slots t.nx t.slots with
  | some p => (match heapM s.heap t.nx (p.lp ++ idLp t.n0) t.heap with
    | some q => (match lpOk ((p.lp ++ idLp t.n0) ++ q.lp) && (lpFix t.n0 ((p.lp ++ idLp t.n0) ++ q.lp) && Nat.ble t.n0 t.nx) with | true => some (p.app q) | false => none)
    | none => none)
  | none => none
/-- What the template's labels stand for. -/
def labOf (ρ : Env) (β : Lab) (n0 : Nat) (lp : LP) : Lab := ⟨fun l => match lpGet lp l with | some (.lab l') => β.b l' | some .nil => 0 | some (.val _) => 0 | none => if l < n0 then β.b l else 0, fun l => match lpGet lp l with | some (.lab l') => β.o l' | some .nil => .slice none 0 0 | some (.val c) => c.den ρ β | none => if l < n0 then β.o l else .slice none 0 0⟩
section
variable {ρ ρ' : Env} {β β' : Lab}
/-- A label's part in the new map. -/
def Maps (ρ : Env) (β β' : Lab) (p : Nat × LM) : Prop := match p.2 with
  | .lab l => β'.b p.1 = β.b l ∧ β'.o p.1 = β.o l
  | .nil => β'.o p.1 = .slice none 0 0
  | .val c => β'.o p.1 = c.den ρ β
structure MOk (ρ ρ' : Env) (β β' : Lab) (m : Mt) : Prop where
  ps : ∀ p ∈ m.ps, p.1.den ρ = p.2.den ρ'
  ts : ∀ p ∈ m.ts, TEqP ρ ρ' p
  lp : ∀ p ∈ m.lp, Maps ρ β β' p
theorem MOk.app_iff {a b : Mt} : MOk ρ ρ' β β' (a.app b) → MOk ρ ρ' β β' a ∧ MOk ρ ρ' β β' b := fun h =>
  ⟨⟨fun p hp => h.ps p (List.mem_append_left _ hp), fun p hp => h.ts p (List.mem_append_left _ hp), fun p hp => h.lp p (List.mem_append_left _ hp)⟩,
   ⟨fun p hp => h.ps p (List.mem_append_right _ hp), fun p hp => h.ts p (List.mem_append_right _ hp), fun p hp => h.lp p (List.mem_append_right _ hp)⟩⟩
theorem Maps.f {l l' : Nat} (h : Maps ρ β β' (l', .lab l)) : β'.f l' = β.f l := by unfold Lab.f; rw [h.2]
theorem ptsM_ok : ∀ {a a' : List (Nat × Nat)} {p : LP}, ptsM a a' = some p → (∀ x ∈ p, Maps ρ β β' x) → a.map β.pt = a'.map β'.pt
  | [], [], p, h, hm => rfl
  | (l, o) :: r, (l', o') :: r', p, h, hm => by
    simp only [ptsM] at h
    split at h
    · rename_i q ho hq
      cases h
      have h1 := hm _ (List.mem_cons_self ..)
      have h2 := ptsM_ok hq fun x hx => hm x (List.mem_cons_of_mem _ hx)
      simp only [List.map_cons, h2, Lab.pt, Nat.eq_of_beq_eq_true ho, h1.1]
    · cases h
  | [], _ :: _, p, h, hm => by simp [ptsM] at h
  | _ :: _, [], p, h, hm => by simp [ptsM] at h
theorem bytesOf_congr {t t' : Int → Nat → Int} {n : Int} (h : ∀ i : Nat, (i : Int) < n → t i 0 = t' i 0) : bytesOf t n = bytesOf t' n := by
  unfold bytesOf
  congr 2
  refine List.map_congr_left fun i hi => ?_
  rw [h i (by have := List.mem_range.1 hi; omega)]
theorem cvM_ok {c c' : CV} {m : Mt} (h : cvM c c' = some m) (he : MOk ρ ρ' β β' m) : c.den ρ β = c'.den ρ' β' := by
  unfold cvM at h
  split at h
  · split at h
    · rename_i hk
      cases h
      have := he.ps _ (List.mem_cons_self ..)
      simp only at this
      simp only [CV.den, this, keq_eq hk]
    · cases h
  · cases h
    have := he.ps _ (List.mem_cons_self ..)
    simp only at this
    simp only [CV.den, this]
  · split at h
    · rename_i hb
      cases h
      have := he.lp _ (List.mem_cons_self ..)
      simp only [CV.den, Nat.eq_of_beq_eq_true hb, this.1]
    · cases h
  · rfl
  · rfl
  · rfl
  · split at h
    · rename_i hb
      cases h
      have h1 := he.ps _ (List.mem_cons_self ..)
      have h2 := he.ps _ (List.mem_cons_of_mem _ (List.mem_cons_self ..))
      have h3 := he.lp _ (List.mem_cons_self ..)
      simp only at h1 h2
      simp only [CV.den, Nat.eq_of_beq_eq_true hb, h1, h2, h3.1]
    · cases h
  · split at h
    · rename_i hb
      cases h
      have h1 := he.ps _ (List.mem_cons_self ..)
      have h2 := he.ps _ (List.mem_cons_of_mem _ (List.mem_cons_self ..))
      have h3 := he.ps _ (List.mem_cons_of_mem _ (List.mem_cons_of_mem _ (List.mem_cons_self ..)))
      have h4 := he.lp _ (List.mem_cons_self ..)
      have h5 := Maps.f h4
      simp only at h1 h2 h3
      simp only [CV.den, Nat.eq_of_beq_eq_true hb, h1, h2, h3, h4.1, h5]
    · cases h
  · cases h
    have h1 := he.lp _ (List.mem_cons_self ..)
    simp only [CV.den, h1.2]
  · cases h
    have h1 := he.lp _ (List.mem_cons_self ..)
    have h2 := he.ps _ (List.mem_cons_self ..)
    have h3 := he.ps _ (List.mem_cons_of_mem _ (List.mem_cons_self ..))
    simp only at h2 h3
    simp only [CV.den, h1.2, h2, h3]
  · split at h
    · rename_i p q hf hp hq
      cases h
      have h1 := ptsM_ok hp fun x hx => he.lp x (List.mem_append_left _ hx)
      have h2 := ptsM_ok hq fun x hx => he.lp x (List.mem_append_right _ hx)
      simp only [CV.den, Nat.eq_of_beq_eq_true hf, h1, h2]
    · cases h
  · cases h
    have h1 := he.ps _ (List.mem_cons_self ..)
    have h2 := he.ts _ (List.mem_cons_self ..)
    simp only at h1
    simp only [TEqP] at h2
    simp only [CV.den, h1]
    congr 1
    refine bytesOf_congr fun i hi => h2 i (by rw [h1]; exact hi) 0 Nat.one_pos
  · cases h
    have h1 : β'.o _ = .slice none 0 0 := he.lp _ (List.mem_cons_self ..)
    simp only [CV.den, h1, addrOf, lenOfV, capOf]
  · cases h
    have h1 : β'.o _ = CV.den ρ β _ := he.lp _ (List.mem_cons_self ..)
    simp only [CV.den] at h1 ⊢
    rw [h1]
    simp only [addrOf, lenOfV, capOf]
  · cases h
    have h1 : β'.o _ = CV.den ρ β _ := he.lp _ (List.mem_cons_self ..)
    simp only [CV.den] at h1 ⊢
    rw [h1]
    simp only [addrOf, lenOfV, capOf]
  · cases h
    have h1 : β'.o _ = CV.den ρ β _ := he.lp _ (List.mem_cons_self ..)
    exact h1.symm
  · cases h
theorem cvsM_ok : ∀ {cs cs' : List CV} {m : Mt}, cvsM cs cs' = some m → MOk ρ ρ' β β' m → cs.map (CV.den ρ β) = cs'.map (CV.den ρ' β')
  | [], [], m, h, he => rfl
  | c :: r, c' :: r', m, h, he => by
    simp only [cvsM] at h
    split at h
    · rename_i p q hp hq
      cases h
      have := MOk.app_iff he
      rw [List.map_cons, List.map_cons, cvM_ok hp this.1, cvsM_ok hq this.2]
    · cases h
  | [], _ :: _, m, h, he => by simp [cvsM] at h
  | _ :: _, [], m, h, he => by simp [cvsM] at h
theorem svM_ok {x x' : SV} {m : Mt} (h : svM x x' = some m) (he : MOk ρ ρ' β β' m) : x.den ρ β = x'.den ρ' β' := by
  cases x <;> cases x' <;> simp only [svM, reduceCtorEq] at h
  rename_i x x'
  cases x <;> cases x' <;> simp only [v1M, reduceCtorEq] at h
  · exact cvM_ok h he
  · simp only [SV.den, V1.den, cvsM_ok h he]
theorem CV.bel_ok {n : Nat} {c : CV} (h : c.bel n = true) : c.below n := by
  cases c <;> simp only [CV.bel, Nat.blt_eq, Bool.false_eq_true, Bool.and_eq_true, List.all_eq_true] at h <;> first | exact h | trivial
theorem SV.bel_ok {n : Nat} {x : SV} (h : x.bel n = true) : x.below n := by
  cases x with
  | v x => cases x with
    | one c => exact CV.bel_ok h
    | agg cs => exact fun c hc => CV.bel_ok (List.all_eq_true.1 h c hc)
  | tup xs => cases h
theorem slOf_mem : ∀ {l : List (Nat × SV)} {n : Nat} {v : SV}, (slOf l).get n = some v → (n, v) ∈ l
  | [], n, v, h => by cases h
  | (m, x) :: r, n, v, h => by
    have := Sl.get_put (slOf r) m n x v h
    rcases this with ⟨rfl, rfl⟩ | ⟨_, h⟩
    · exact List.mem_cons_self ..
    · exact List.mem_cons_of_mem _ (slOf_mem h)
theorem slotsM_ok {s : Sl} {nx : Nat} : ∀ {l : List (Nat × SV)} {m : Mt}, slotsM s nx l = some m → MOk ρ ρ' β β' m → ∀ n v, (n, v) ∈ l → v.below nx ∧ ∃ x, s.get n = some x ∧ x.den ρ β = v.den ρ' β'
  | [], m, h, he, n, v, hm => by cases hm
  | (i, y) :: r, m, h, he, n, v, hm => by
    simp only [slotsM] at h
    split at h
    · rename_i x hx
      split at h
      · rename_i hb
        split at h
        · rename_i p q hp hq
          cases h
          have := MOk.app_iff he
          rcases List.mem_cons.1 hm with e | hm
          · cases e
            exact ⟨SV.bel_ok hb, x, hx, svM_ok hp this.1⟩
          · exact slotsM_ok hq this.2 n v hm
        · cases h
      · cases h
    · cases h
theorem tabOf_ok {k : CK} {ρ : Env} {β : Lab} : ∀ {cs : List CV} {i : Nat} {t t' : E}, tabOf k cs i t = some t' → fitCs k cs = true →
    (∀ m : Nat, m < i → t'.tden ρ (m : Int) 0 = t.tden ρ (m : Int) 0) ∧ ∀ (j : Nat) (c : CV), cs[j]? = some c → c.den ρ β = k.val (t'.tden ρ ((i + j : Nat) : Int) 0)
  | [], i, t, t', h, _ => by cases h; exact ⟨fun _ _ => rfl, fun j c h => by simp at h⟩
  | c :: r, i, t, t', h, hf => by
    have go : ∀ e : E, (c.den ρ β = k.val (e.den ρ)) → tabOf k r (i + 1) (.upd t (.lit (.ofNat i)) 0 e) = some t' → fitCs k r = true →
        (∀ m : Nat, m < i → t'.tden ρ (m : Int) 0 = t.tden ρ (m : Int) 0) ∧ ∀ (j : Nat) (c' : CV), (c :: r)[j]? = some c' → c'.den ρ β = k.val (t'.tden ρ ((i + j : Nat) : Int) 0) := by
      intro e hc h hf
      obtain ⟨h1, h2⟩ := tabOf_ok (ρ := ρ) (β := β) h hf
      have at_ : ∀ m : Nat, (E.upd t (.lit (.ofNat i)) 0 e).tden ρ (m : Int) 0 = if m = i then e.den ρ else t.tden ρ (m : Int) 0 := by
        intro m
        simp only [E.tden, E.den]
        by_cases hm : m = i
        · subst hm; simp
        · have : ¬ ((m : Int) = Int.ofNat i) := fun hh => hm (Int.ofNat.inj hh)
          simp only [this, false_and, if_false, hm]
      refine ⟨fun m hm => ?_, fun j c' hj => ?_⟩
      · rw [h1 m (by omega), at_, if_neg (by omega)]
      · cases j with
        | zero =>
          simp only [List.getElem?_cons_zero, Option.some.injEq] at hj
          subst hj
          rw [Nat.add_zero, h1 i (by omega), at_, if_pos rfl]
          exact hc
        | succ j =>
          simp only [List.getElem?_cons_succ] at hj
          rw [h2 j c' hj, show i + 1 + j = i + (j + 1) by omega]
    cases k with
    | int q =>
      cases c <;> simp only [tabOf, reduceCtorEq] at h
      rename_i q' e
      split at h
      · rename_i hk
        have := keq_eq hk
        subst this
        cases e <;> simp only [fitCs, Bool.false_eq_true] at hf
        rename_i n
        split at hf
        · rename_i hr
          simp only [Bool.and_eq_true] at hr
          have h1 := ile_iff.1 hr.1
          have h2 := ile_iff.1 hr.2
          exact go _ (by simp only [CV.den, CK.val, E.den, wrap_in ⟨h1, h2⟩]) h hf
        · cases hf
      · cases h
    | bool =>
      cases c <;> simp only [tabOf, reduceCtorEq] at h
      rename_i e
      simp only [fitCs] at hf
      exact go _ (by simp only [CV.den, CK.val]) h hf
theorem allZ_ok {k : CK} {ρ : Env} {β : Lab} : ∀ {cs : List CV}, allZ k cs = true → ∀ (j : Nat) (c : CV), cs[j]? = some c → c.den ρ β = k.val (zeroT.tden ρ (j : Int) 0)
  | [], _, j, c, h => by simp at h
  | x :: r, h, j, c, hj => by
    have hz : zeroT.tden ρ (j : Int) 0 = 0 := rfl
    rw [hz]
    have ih : allZ k r = true → ∀ (j : Nat) (c : CV), r[j]? = some c → c.den ρ β = k.val 0 := fun h j c hj => (allZ_ok (ρ := ρ) (β := β) h j c hj).trans rfl
    unfold allZ at h
    split at h
    · rename_i q q' n
      split at h
      · rename_i hc
        simp only [Bool.and_eq_true] at hc
        cases j with
        | zero =>
          simp only [List.getElem?_cons_zero, Option.some.injEq] at hj
          subst hj
          rw [← keq_eq hc.1, ieq_eq hc.2]
          cases q <;> rfl
        | succ j => exact ih h j c (by simpa using hj)
      · cases h
    · split at h
      · rename_i hc
        cases j with
        | zero =>
          simp only [List.getElem?_cons_zero, Option.some.injEq] at hj
          subst hj
          rw [ieq_eq hc]
          rfl
        | succ j => exact ih h j c (by simpa using hj)
      · cases h
    · cases h
theorem lpGet_mem : ∀ {lp : LP} {l : Nat} {m : LM}, lpGet lp l = some m → (l, m) ∈ lp
  | [], l, m, h => by cases h
  | (a, x) :: r, l, m, h => by
    simp only [lpGet] at h
    split at h
    · rename_i hb
      cases h
      rw [Nat.eq_of_beq_eq_true hb]
      exact List.mem_cons_self ..
    · exact List.mem_cons_of_mem _ (lpGet_mem h)
theorem heapM1_ok {h0 : T Ent} {nx : Nat} {lp : LP} {l : Nat} {wr : Bool} {blk : Blk} {m : Mt} (h : heapM1 h0 nx lp l wr blk = some m) (he : MOk ρ ρ' β β' m) (hlp : ∀ p ∈ lp, Maps ρ β β' p) :
    l < nx ∧ blk.below nx ∧ ((∃ l' y, (l, LM.lab l') ∈ lp ∧ h0.get l' = some y ∧ (wr = true → y.wr = true) ∧ (blk.hb β' ↔ y.blk.hb β) ∧ ∀ w, y.blk.sat ρ β (β.b l') w → blk.sat ρ' β' (β'.b l) w) ∨ (¬ blk.hb β' ∧ (∀ b w, blk.sat ρ' β' b w) ∧ ((l, LM.nil) ∈ lp ∨ blk = .dead))) := by
  cases blk with
  | cells cs ty =>
    simp only [heapM1] at h
    split at h
    · rename_i l' hl'
      have hm := lpGet_mem hl'
      have hM := hlp _ hm
      split at h
      · rename_i wr' cs' ty' hx
        split at h
        · rename_i hb
          simp only [Bool.and_eq_true, Nat.blt_eq] at hb
          obtain ⟨h1, h2, h3, h4⟩ := hb
          refine ⟨h1, fun c hc => CV.bel_ok (List.all_eq_true.1 h2 c hc), .inl ⟨l', _, hm, hx, impB_ok h4, Iff.rfl, fun w hs => ?_⟩⟩
          simp only [Blk.sat] at hs ⊢
          rw [hM.1, hs, cvsM_ok h he, Nat.eq_of_beq_eq_true h3]
        · cases h
      · cases h
    · cases h
  | tab q t n ks =>
    simp only [heapM1] at h
    split at h
    · rename_i l' hl'
      have hm := lpGet_mem hl'
      have hM := hlp _ hm
      split at h
      · rename_i wr' q' t' n' ks' hx
        split at h
        · rename_i hb
          simp only [Bool.and_eq_true, Nat.blt_eq] at hb
          obtain ⟨h1, h2, h3, h4, h5⟩ := hb
          have e1 := Nat.eq_of_beq_eq_true h2
          have e2 := Nat.eq_of_beq_eq_true h3
          have e3 := ckSame_eq h4
          subst e1; subst e2; subst e3
          cases h
          have hn := he.ps _ (List.mem_cons_self ..)
          have ht : _ = _ := he.ts _ (List.mem_cons_self ..)
          simp only at hn ht
          refine ⟨h1, h1, .inl ⟨_, _, hm, hx, impB_ok h5, Iff.rfl, fun w hs => ?_⟩⟩
          intro i hi j k hk
          have := hs i (by rw [hn]; exact hi) j k hk
          rw [ht] at this
          rw [hM.1, Maps.f hM]
          exact this
        · cases h
      · cases h
    · cases h
  | arr t n k ty =>
    simp only [heapM1] at h
    split at h
    · rename_i l' hl'
      have hm := lpGet_mem hl'
      have hM := hlp _ hm
      split at h
      · rename_i wr' t' n' k' ty' hx
        split at h
        · rename_i hb
          simp only [Bool.and_eq_true, Nat.blt_eq] at hb
          obtain ⟨h1, h2, h3, h4, h5⟩ := hb
          have e1 := Nat.eq_of_beq_eq_true h2
          have e2 := Nat.eq_of_beq_eq_true h3
          have e3 := ckSame_eq h4
          cases e3
          subst e1; subst e2
          cases h
          have ht : _ = _ := he.ts _ (List.mem_cons_self ..)
          simp only at ht
          refine ⟨h1, trivial, .inl ⟨_, _, hm, hx, impB_ok h5, Iff.rfl, fun w hs => ?_⟩⟩
          simp only [Blk.sat] at hs ⊢
          rw [hM.1, hs, ht]
        · cases h
      · rename_i wr' cs' ty' hx
        split at h
        · rename_i hb
          simp only [Bool.and_eq_true, Nat.blt_eq] at hb
          obtain ⟨h1, h2, h3, h4, h5⟩ := hb
          have e1 := Nat.eq_of_beq_eq_true h2
          have e2 := Nat.eq_of_beq_eq_true h3
          subst e1; subst e2
          split at h
          · rename_i t' ht'
            cases h
            have ht := he.ts _ (List.mem_cons_self ..)
            simp only [TEqP, E.den] at ht
            refine ⟨h1, trivial, .inl ⟨_, _, hm, hx, impB_ok h4, Iff.rfl, fun w hs => ?_⟩⟩
            simp only [Blk.sat] at hs ⊢
            rw [hM.1, hs]
            have hl : cs'.map (CV.den ρ β) = (List.range cs'.length).map fun (i : Nat) => k.val (t.tden ρ' (i : Int) 0) := by
              apply List.ext_getElem?
              intro j
              simp only [List.getElem?_map]
              cases hj : cs'[j]? with
              | none =>
                have := List.getElem?_eq_none_iff.1 hj
                rw [List.getElem?_eq_none (by simpa using this)]
                rfl
              | some c =>
                have hlt := (List.getElem?_eq_some_iff.1 hj).1
                rw [List.getElem?_range hlt]
                simp only [Option.map_some, Option.some.injEq]
                have this : c.den ρ β = k.val (t'.tden ρ ((j : Nat) : Int) 0) := by
                  split at ht'
                  · rename_i hz
                    cases ht'
                    exact allZ_ok hz j c hj
                  · have := (tabOf_ok (ρ := ρ) (β := β) ht' h5).2 j c hj
                    rwa [Nat.zero_add] at this
                rw [this, ht j (by simp only [Int.ofNat_eq_natCast]; omega) 0 (by omega)]
            rw [hl]
          · cases h
        · cases h
      · cases h
    · cases h
  | seq q t n ks ty =>
    simp only [heapM1] at h
    split at h
    · rename_i l' hl'
      have hm := lpGet_mem hl'
      have hM := hlp _ hm
      split at h
      · rename_i wr' q' t' n' ks' ty' hx
        split at h
        · rename_i hb
          simp only [Bool.and_eq_true, Nat.blt_eq] at hb
          obtain ⟨h1, h2, h3, h4, h5, h6⟩ := hb
          have e1 := Nat.eq_of_beq_eq_true h2
          have e2 := Nat.eq_of_beq_eq_true h3
          have e3 := Nat.eq_of_beq_eq_true h4
          have e4 := ckSame_eq h5
          subst e1; subst e2; subst e3; subst e4
          cases h
          have hn := he.ps _ (List.mem_cons_self ..)
          have ht := he.ts _ (List.mem_cons_self ..)
          simp only [TEqP] at hn ht
          refine ⟨h1, h1, .inl ⟨_, _, hm, hx, impB_ok h6, by simp only [Blk.hb]; rw [hM.2], fun w hs => ?_⟩⟩
          simp only [Blk.sat] at hs ⊢
          rw [hM.1, hM.2, ← hn]
          obtain ⟨a', c', s1, s2, s3⟩ := hs
          refine ⟨a', c', s1, s2, fun hc => ?_⟩
          obtain ⟨f', arr, s4, s5, s6, s7⟩ := s3 hc
          refine ⟨f', arr, s4, s5, s6, fun i hi j kd hj => ?_⟩
          rw [← ht i hi j (List.getElem?_eq_some_iff.1 hj).1]
          exact s7 i hi j kd hj
        · cases h
      · cases h
    · rename_i hl'
      have hm := lpGet_mem hl'
      have hM : β'.o l = .slice none 0 0 := hlp _ hm
      split at h
      · rename_i hb
        simp only [Bool.and_eq_true, Nat.blt_eq] at hb
        have e1 := Nat.eq_of_beq_eq_true hb.2
        subst e1
        cases h
        have hn := he.ps _ (List.mem_cons_self ..)
        simp only [E.den] at hn
        refine ⟨hb.1, hb.1, .inr ⟨by simp only [Blk.hb, hM, capOf]; omega, fun b w => ?_, .inl hm⟩⟩
        simp only [Blk.sat, hM, ← hn]
        exact ⟨none, 0, rfl, Nat.le_refl _, fun h => absurd h (Nat.lt_irrefl _)⟩
      · cases h
    · cases h
  | lst q cs n sz ty =>
    simp only [heapM1] at h
    split at h
    · rename_i l' hl'
      have hm := lpGet_mem hl'
      have hM := hlp _ hm
      split at h
      · rename_i wr' q' cs' n' sz' ty' hx
        split at h
        · rename_i hb
          simp only [Bool.and_eq_true, Nat.blt_eq] at hb
          obtain ⟨h1, h2, h3, h4, h5, h6, h7, h8⟩ := hb
          have e1 := Nat.eq_of_beq_eq_true h3
          have e2 := Nat.eq_of_beq_eq_true h4
          have e3 := Nat.eq_of_beq_eq_true h5
          have e4 := Nat.eq_of_beq_eq_true h6
          have e5 := Nat.eq_of_beq_eq_true h7
          subst e1; subst e2; subst e3; subst e4; subst e5
          have hc := cvsM_ok h he
          refine ⟨h1, ⟨h1, fun c hc' => CV.bel_ok (List.all_eq_true.1 h2 c hc')⟩, .inl ⟨_, _, hm, hx, impB_ok h8, by simp only [Blk.hb]; rw [hM.2], fun w hs => ?_⟩⟩
          simp only [Blk.sat] at hs ⊢
          rw [hM.1, hM.2, ← hc]
          exact hs
        · cases h
      · cases h
    · rename_i hl'
      have hm := lpGet_mem hl'
      have hM : β'.o l = .slice none 0 0 := hlp _ hm
      split at h
      · rename_i hb
        simp only [Bool.and_eq_true, Nat.blt_eq] at hb
        obtain ⟨h1, h2, h3, h4⟩ := hb
        have e1 := Nat.eq_of_beq_eq_true h2
        have e2 := Nat.eq_of_beq_eq_true h3
        have e3 := List.eq_nil_of_length_eq_zero (Nat.eq_of_beq_eq_true h4)
        subst e1; subst e2; subst e3
        cases h
        refine ⟨h1, ⟨h1, fun c hc => by cases hc⟩, .inr ⟨by simp only [Blk.hb, hM, capOf]; omega, fun b w => ?_, .inl hm⟩⟩
        simp only [Blk.sat, hM]
        exact ⟨none, 0, rfl, Nat.le_refl _, fun h => absurd h (Nat.lt_irrefl _)⟩
      · cases h
    · cases h
  | bag q n sz ty =>
    simp only [heapM1] at h
    split at h
    · rename_i l' hl'
      have hm := lpGet_mem hl'
      have hM := hlp _ hm
      split at h
      · rename_i wr' q' n' sz' ty' hx
        split at h
        · rename_i hb
          simp only [Bool.and_eq_true, Nat.blt_eq] at hb
          obtain ⟨h1, h2, h3, h4, h5, h6⟩ := hb
          have e1 := Nat.eq_of_beq_eq_true h2
          have e2 := Nat.eq_of_beq_eq_true h3
          have e3 := Nat.eq_of_beq_eq_true h4
          have e4 := Nat.eq_of_beq_eq_true h5
          subst e1; subst e2; subst e3; subst e4
          cases h
          have hn := he.ps _ (List.mem_cons_self ..)
          simp only at hn
          refine ⟨h1, h1, .inl ⟨_, _, hm, hx, impB_ok h6, by simp only [Blk.hb]; rw [hM.2], fun w hs => ?_⟩⟩
          simp only [Blk.sat] at hs ⊢
          rw [hM.1, hM.2, ← hn]
          exact hs
        · cases h
      · rename_i wr' q' cs' n' sz' ty' hx
        split at h
        · rename_i hb
          simp only [Bool.and_eq_true, Nat.blt_eq] at hb
          obtain ⟨h1, h2, h3, h4, h5, h6⟩ := hb
          have e1 := Nat.eq_of_beq_eq_true h2
          have e2 := Nat.eq_of_beq_eq_true h3
          have e3 := Nat.eq_of_beq_eq_true h4
          have e4 := Nat.eq_of_beq_eq_true h5
          subst e1; subst e2; subst e3; subst e4
          cases h
          have hn := he.ps _ (List.mem_cons_self ..)
          simp only [E.den] at hn
          refine ⟨h1, h1, .inl ⟨_, _, hm, hx, impB_ok h6, by simp only [Blk.hb]; rw [hM.2], fun w hs => ?_⟩⟩
          simp only [Blk.sat] at hs ⊢
          rw [hM.1, hM.2, ← hn]
          obtain ⟨a, c, k1, k2, k3⟩ := hs
          refine ⟨a, c, by simpa using k1, by simpa using k2, fun hc => ?_⟩
          obtain ⟨f, arr, k4, k5, k6, k7⟩ := k3 hc
          exact ⟨f, arr, k4, k5, k6, fun j u hj => by simp at hj⟩
        · cases h
      · cases h
    · rename_i hl'
      have hm := lpGet_mem hl'
      have hM : β'.o l = .slice none 0 0 := hlp _ hm
      split at h
      · rename_i hb
        simp only [Bool.and_eq_true, Nat.blt_eq] at hb
        have e1 := Nat.eq_of_beq_eq_true hb.2
        subst e1
        cases h
        have hn := he.ps _ (List.mem_cons_self ..)
        simp only [E.den] at hn
        refine ⟨hb.1, hb.1, .inr ⟨by simp only [Blk.hb, hM, capOf]; omega, fun b w => ?_, .inl hm⟩⟩
        simp only [Blk.sat, hM, ← hn]
        exact ⟨none, 0, rfl, Nat.le_refl _, fun h => absurd h (Nat.lt_irrefl _)⟩
      · cases h
    · cases h
  | lrec i cs => simp only [heapM1] at h; cases h
  | nn q =>
    simp only [heapM1] at h
    split at h
    · rename_i l' hl'
      have hm := lpGet_mem hl'
      have hM := hlp _ hm
      split at h
      · rename_i wr' q' hx
        split at h
        · rename_i hb
          simp only [Bool.and_eq_true, Nat.blt_eq] at hb
          obtain ⟨h1, h2, h3, h4⟩ := hb
          have e1 := Nat.eq_of_beq_eq_true h2
          have e2 := Nat.eq_of_beq_eq_true h3
          subst e1; subst e2
          refine ⟨h1, h1, .inl ⟨_, _, hm, hx, impB_ok h4, Iff.rfl, fun w hs => ?_⟩⟩
          simp only [Blk.sat] at hs ⊢
          rw [hM.2]
          exact hs
        · cases h
      · cases h
    · cases h
  | dead =>
    simp only [heapM1] at h
    split at h
    · rename_i hb
      cases h
      exact ⟨by simpa using hb, trivial, .inr ⟨fun hh => hh, fun _ _ => trivial, .inr rfl⟩⟩
    · cases h
theorem heapM_ok {h0 : T Ent} {nx : Nat} : ∀ {l : List (Nat × Ent)} {lp : LP} {m : Mt}, heapM h0 nx lp l = some m → MOk ρ ρ' β β' m → (∀ p ∈ lp, Maps ρ β β' p) → ∀ n x, (n, x) ∈ l →
    n < nx ∧ x.blk.below nx ∧ ((∃ l' y, (n, LM.lab l') ∈ lp ++ m.lp ∧ h0.get l' = some y ∧ (x.wr = true → y.wr = true) ∧ (x.blk.hb β' ↔ y.blk.hb β) ∧ ∀ w, y.blk.sat ρ β (β.b l') w → x.blk.sat ρ' β' (β'.b n) w) ∨ (¬ x.blk.hb β' ∧ (∀ b w, x.blk.sat ρ' β' b w) ∧ ((n, LM.nil) ∈ lp ++ m.lp ∨ x.blk = .dead)))
  | [], lp, m, h, he, hlp, n, x, hm => by cases hm
  | (l, ⟨wr, b⟩) :: r, lp, m, h, he, hlp, n, x, hm => by
    simp only [heapM] at h
    split at h
    · rename_i p hp
      split at h
      · rename_i q hq
        cases h
        obtain ⟨hep, heq⟩ := MOk.app_iff he
        rcases List.mem_cons.1 hm with e | hm
        · cases e
          obtain ⟨h1, h2, h3⟩ := heapM1_ok hp hep hlp
          refine ⟨h1, h2, h3.imp ?_ fun ⟨z1, z2, z3⟩ => ⟨z1, z2, z3.imp (List.mem_append_left _) id⟩⟩
          rintro ⟨l', y, h4, h5⟩
          exact ⟨l', y, List.mem_append_left _ h4, h5⟩
        · obtain ⟨h1, h2, h3⟩ := heapM_ok hq heq (fun p' hp' => by
            rcases List.mem_append.1 hp' with h | h
            · exact hlp p' h
            · exact hep.lp p' h) n x hm
          refine ⟨h1, h2, h3.imp ?_ fun ⟨z1, z2, z3⟩ => ⟨z1, z2, z3.imp (fun z => by rw [List.append_assoc] at z; exact z) id⟩⟩
          rintro ⟨l', y, h4, h5⟩
          refine ⟨l', y, ?_, h5⟩
          rw [List.append_assoc] at h4
          exact h4
      · cases h
    · cases h
theorem putSets_mem {s : Sets} {l : Nat} {x : Ent} (h : (putSets .leaf s).get l = some x) : (l, x) ∈ s := by
  have := putSets_get s .leaf l x h
  unfold Heap.set at this
  split at this
  · rename_i y hy
    cases this
    exact Sets.find_pair hy
  · simp [T.get_leaf] at this
theorem lmSame_eq {a b : LM} (h : lmSame a b = true) : a = b := by
  cases a <;> cases b <;> simp only [lmSame, Bool.false_eq_true] at h
  · rw [Nat.eq_of_beq_eq_true h]
  · rfl
theorem lpOk1_ok {a : Nat} {m : LM} : ∀ {lp : LP}, lpOk1 a m lp = true → ∀ b x, (b, x) ∈ lp → (a = b → m = x) ∧ (a ≠ b → ∀ p q, m = .lab p → x = .lab q → p ≠ q)
  | [], _, b, x, h => by cases h
  | (c, y) :: r, h, b, x, hm => by
    simp only [lpOk1] at h
    split at h
    · rename_i hb
      have hb := Nat.eq_of_beq_eq_true hb
      subst hb
      simp only [Bool.and_eq_true] at h
      rcases List.mem_cons.1 hm with e | hm
      · cases e
        exact ⟨fun _ => lmSame_eq h.1, fun hne => absurd rfl hne⟩
      · exact lpOk1_ok h.2 b x hm
    · rename_i hb
      have hb := Nat.ne_of_beq_eq_false hb
      simp only [Bool.and_eq_true] at h
      rcases List.mem_cons.1 hm with e | hm
      · cases e
        refine ⟨fun e => absurd e hb, fun _ p q hp hq => ?_⟩
        have := h.1
        rw [hp, hq] at this
        simp only [Bool.not_eq_true'] at this
        exact Nat.ne_of_beq_eq_false this
      · exact lpOk1_ok h.2 b x hm
theorem lpOkQ_ok : ∀ {lp : LP}, lpOkQ lp = true → ∀ a m b x, (a, m) ∈ lp → (b, x) ∈ lp → (a = b → m = x) ∧ (a ≠ b → ∀ p q, m = .lab p → x = .lab q → p ≠ q)
  | [], _, a, m, b, x, h, _ => by cases h
  | (c, y) :: r, h, a, m, b, x, h1, h2 => by
    simp only [lpOkQ, Bool.and_eq_true] at h
    rcases List.mem_cons.1 h1 with e | h1
    · cases e
      rcases List.mem_cons.1 h2 with e | h2
      · cases e
        exact ⟨fun _ => rfl, fun hne => absurd rfl hne⟩
      · exact lpOk1_ok h.1 b x h2
    · rcases List.mem_cons.1 h2 with e | h2
      · cases e
        have := lpOk1_ok h.1 a m h1
        exact ⟨fun e => (this.1 e.symm).symm, fun hne p q hp hq => (this.2 (Ne.symm hne) q p hq hp).symm⟩
      · exact lpOkQ_ok h.2 a m b x h1 h2
def isVal : LM → Bool
  | .val _ => true
  | _ => false
theorem lpLabs_mem {a : Nat} {m : LM} : ∀ {lp : LP}, (a, m) ∈ lp → isVal m = false → (a, m) ∈ lpLabs lp
  | [], h, _ => by cases h
  | (b, x) :: r, h, hv => by
    rcases List.mem_cons.1 h with e | h
    · cases e
      cases m <;> first | (simp [isVal] at hv; done) | exact List.mem_cons_self ..
    · have ih := lpLabs_mem h hv
      cases x <;> first | exact ih | exact List.mem_cons_of_mem _ ih
theorem lpInc_ok {c : Nat} : ∀ {lp : LP} {b : Nat}, c ≤ b → lpInc c b lp = true → (∀ a m, (a, m) ∈ lp → isVal m = true → b ≤ a) ∧ (∀ a m, (a, m) ∈ lp → isVal m = false → a < c) ∧
    (∀ a m x, (a, m) ∈ lp → (a, x) ∈ lp → isVal m = true → isVal x = true → m = x)
  | [], b, _, _ => ⟨fun _ _ h => (by cases h), fun _ _ h => (by cases h), fun _ _ _ h => (by cases h)⟩
  | (a0, m0) :: r, b, hcb, h => by
    have other : isVal m0 = false → Nat.blt a0 c = true → lpInc c b r = true → (∀ a m, (a, m) ∈ (a0, m0) :: r → isVal m = true → b ≤ a) ∧ (∀ a m, (a, m) ∈ (a0, m0) :: r → isVal m = false → a < c) ∧
        (∀ a m x, (a, m) ∈ (a0, m0) :: r → (a, x) ∈ (a0, m0) :: r → isVal m = true → isVal x = true → m = x) := by
      intro hv hb hr
      obtain ⟨i1, i2, i3⟩ := lpInc_ok hcb hr
      have hlt : a0 < c := by rwa [Nat.blt_eq] at hb
      refine ⟨fun a m hm hmv => ?_, fun a m hm hmv => ?_, fun a m x hm hx hmv hxv => ?_⟩
      · rcases List.mem_cons.1 hm with e | hm
        · cases e; rw [hv] at hmv; cases hmv
        · exact i1 a m hm hmv
      · rcases List.mem_cons.1 hm with e | hm
        · cases e; exact hlt
        · exact i2 a m hm hmv
      · rcases List.mem_cons.1 hm with e | hm
        · cases e; rw [hv] at hmv; cases hmv
        · rcases List.mem_cons.1 hx with e | hx
          · cases e; rw [hv] at hxv; cases hxv
          · exact i3 a m x hm hx hmv hxv
    cases m0 with
    | lab l =>
      simp only [lpInc] at h
      split at h
      · rename_i hb; exact other rfl hb h
      · cases h
    | nil =>
      simp only [lpInc] at h
      split at h
      · rename_i hb; exact other rfl hb h
      · cases h
    | val v =>
      simp only [lpInc] at h
      split at h
      · rename_i hb
        have hb := Nat.le_of_ble_eq_true hb
        obtain ⟨i1, i2, i3⟩ := lpInc_ok (c := c) (lp := r) (b := a0 + 1) (by omega) h
        refine ⟨fun a m hm hmv => ?_, fun a m hm hmv => ?_, fun a m x hm hx hmv hxv => ?_⟩
        · rcases List.mem_cons.1 hm with e | hm
          · cases e; exact hb
          · have := i1 a m hm hmv; omega
        · rcases List.mem_cons.1 hm with e | hm
          · cases e; cases hmv
          · exact i2 a m hm hmv
        · rcases List.mem_cons.1 hm with e | hm
          · cases e
            rcases List.mem_cons.1 hx with e | hx
            · cases e; rfl
            · have := i1 _ _ hx hxv; omega
          · rcases List.mem_cons.1 hx with e | hx
            · cases e
              have := i1 _ _ hm hmv; omega
            · exact i3 a m x hm hx hmv hxv
      · cases h
theorem lpOk_ok {lp : LP} (h : lpOk lp = true) : ∀ a m b x, (a, m) ∈ lp → (b, x) ∈ lp → (a = b → m = x) ∧ (a ≠ b → ∀ p q, m = .lab p → x = .lab q → p ≠ q) := by
  unfold lpOk at h
  split at h
  · rename_i hi
    split at h
    · rename_i hq
      obtain ⟨i1, i2, i3⟩ := lpInc_ok (Nat.le_refl _) hi
      intro a m b x hm hx
      cases hmv : isVal m with
      | true =>
        cases hxv : isVal x with
        | true =>
          refine ⟨fun e => ?_, fun _ p q hp hq => ?_⟩
          · subst e
            exact i3 a m x hm hx hmv hxv
          · subst hp; cases hmv
        | false =>
          refine ⟨fun e => ?_, fun _ p q hp hq => ?_⟩
          · subst e
            have h1 := i1 a m hm hmv
            have h2 := i2 a x hx hxv
            omega
          · subst hp; cases hmv
      | false =>
        cases hxv : isVal x with
        | true =>
          refine ⟨fun e => ?_, fun _ p q hp hq => ?_⟩
          · subst e
            have h1 := i1 a x hx hxv
            have h2 := i2 a m hm hmv
            omega
          · subst hq; cases hxv
        | false => exact lpOkQ_ok hq a m b x (lpLabs_mem hm hmv) (lpLabs_mem hx hxv)
    · exact lpOkQ_ok h
  · exact lpOkQ_ok h
theorem lpGet_of_mem : ∀ {lp : LP} {a : Nat} {m : LM}, (a, m) ∈ lp → ∃ m', lpGet lp a = some m'
  | [], a, m, h => by cases h
  | (b, x) :: r, a, m, h => by
    simp only [lpGet]
    split
    · exact ⟨_, rfl⟩
    · rename_i hb
      rcases List.mem_cons.1 h with e | h
      · cases e
        rw [Nat.beq_refl] at hb
        cases hb
      · exact lpGet_of_mem h
theorem maps_all {lp : LP} (h : lpOk lp = true) (n0 : Nat) : ∀ p ∈ lp, Maps ρ β (labOf ρ β n0 lp) p := by
  intro p hp
  obtain ⟨a, m⟩ := p
  obtain ⟨m', hm'⟩ := lpGet_of_mem hp
  have e : m = m' := (lpOk_ok h a m a m' hp (lpGet_mem hm')).1 rfl
  subst e
  unfold Maps labOf
  cases m with
  | lab l' => simp only [hm', and_self]
  | nil => simp only [hm']
  | val c => simp only [hm']
theorem lpFix_cons {n0 b : Nat} {x : LM} {r : LP} (h : lpFix n0 ((b, x) :: r) = true) : lpFix n0 r = true ∧ (b < n0 → x = .lab b) := by
  simp only [lpFix] at h
  split at h
  · rename_i hb
    refine ⟨h, fun hlt => ?_⟩
    have : Nat.blt b n0 = true := by simpa using hlt
    rw [this] at hb
    cases hb
  · split at h
    · split at h
      · rename_i hb
        exact ⟨h, fun _ => by rw [Nat.eq_of_beq_eq_true hb]⟩
      · cases h
    · cases h
theorem lpFix_mem {n0 : Nat} : ∀ {lp : LP}, lpFix n0 lp = true → ∀ a m, (a, m) ∈ lp → a < n0 → m = .lab a
  | [], _, a, m, h, _ => by cases h
  | (b, x) :: r, hf, a, m, h, ha => by
    have h2 := lpFix_cons hf
    rcases List.mem_cons.1 h with e | h
    · cases e; exact h2.2 ha
    · exact lpFix_mem h2.1 a m h ha
theorem labOf_fix {lp : LP} {n0 : Nat} (h : lpFix n0 lp = true) : β.agree n0 (labOf ρ β n0 lp) := by
  intro l hl
  unfold labOf
  simp only
  cases hg : lpGet lp l with
  | none => simp only [if_pos hl, and_self]
  | some m =>
    have := lpFix_mem h _ _ (lpGet_mem hg) hl
    subst this
    exact ⟨rfl, rfl⟩
/-- What has to hold of numbers and tables. -/
structure Eqs (ρ ρ' : Env) (ps : Pairs) (ts : TPairs) : Prop where
  ps : ∀ p ∈ ps, p.1.den ρ = p.2.den ρ'
  ts : ∀ p ∈ ts, TEqP ρ ρ' p
/-- What heap blocks, listed, are. -/
structure SatL (ρ : Env) (β : Lab) (n : Nat) (h : List (Nat × Ent)) (w : World) : Prop where
  blk : ∀ p ∈ h, p.1 < n ∧ p.2.blk.below n ∧ (p.2.blk.hb β → β.b p.1 < w.heap.size) ∧ p.2.blk.sat ρ β (β.b p.1) w
  inj : ∀ p ∈ h, ∀ p' ∈ h, p.1 ≠ p'.1 → (p.2.wr || p'.2.wr) = true → p.2.blk.hb β → p'.2.blk.hb β → β.b p.1 ≠ β.b p'.1
/-- What a heap held against another comes to. -/
theorem heapL_ok {n0 : Nat} {s : S} {nx : Nat} {lp : LP} {h : List (Nat × Ent)} {q : Mt} (hq : heapM s.heap nx lp h = some q) (hok : lpOk (lp ++ q.lp) = true) (hqm : MOk ρ ρ' β (labOf ρ β n0 (lp ++ q.lp)) q)
    {C : Ctx} {w : World} {m : Nat} (hsh : SatH ρ β m s.heap.get w) (hown : ∀ l x, s.heap.get l = some x → x.wr = true → x.blk.hb β → C.W.heap.size ≤ β.b l ∨ C.S (β.b l)) :
    SatL ρ' (labOf ρ β n0 (lp ++ q.lp)) nx h w ∧ ∀ p ∈ h, p.2.wr = true → p.2.blk.hb (labOf ρ β n0 (lp ++ q.lp)) → C.W.heap.size ≤ (labOf ρ β n0 (lp ++ q.lp)).b p.1 ∨ C.S ((labOf ρ β n0 (lp ++ q.lp)).b p.1) := by
  have hmaps := maps_all (ρ := ρ) (β := β) hok n0
  have h2 := heapM_ok hq hqm (fun p hp => hmaps p (List.mem_append_left _ hp))
  refine ⟨⟨fun p hp => ?_, fun p hp p' hp' hne hw hb hb' => ?_⟩, fun p hp hw hb => ?_⟩
  · obtain ⟨l, x⟩ := p
    obtain ⟨hl, hb, hor⟩ := h2 l x hp
    rcases hor with ⟨l', y, hlm, hy, _, hhb, hsat⟩ | ⟨hnb, hsat, _⟩
    · obtain ⟨_, _, h5, h6⟩ := hsh.blk l' y hy
      refine ⟨hl, hb, fun hh => ?_, hsat w h6⟩
      rw [(hmaps _ hlm).1]
      exact h5 (hhb.1 hh)
    · exact ⟨hl, hb, fun hh => absurd hh hnb, hsat _ w⟩
  · obtain ⟨l, x⟩ := p
    obtain ⟨l', x'⟩ := p'
    rcases (h2 l x hp).2.2 with ⟨p1, y, hlm, hy, e, hhb, _⟩ | ⟨hnb, _⟩
    · rcases (h2 l' x' hp').2.2 with ⟨p2, y', hlm', hy', e', hhb', _⟩ | ⟨hnb, _⟩
      · have hpq := (lpOk_ok hok _ _ _ _ hlm hlm').2 hne p1 p2 rfl rfl
        rw [(hmaps _ hlm).1, (hmaps _ hlm').1]
        exact hsh.inj p1 p2 y y' hy hy' hpq (or_imp e e' hw) (hhb.1 hb) (hhb'.1 hb')
      · exact absurd hb' hnb
    · exact absurd hb hnb
  · obtain ⟨l, x⟩ := p
    rcases (h2 l x hp).2.2 with ⟨p1, y, hlm, hy, e, hhb, _⟩ | ⟨hnb, _⟩
    · rw [(hmaps _ hlm).1]
      exact hown p1 y hy (e hw) (hhb.1 hb)
    · exact absurd hb hnb
theorem matchS_ok {s : S} {t : Tm} {m : Mt} (h : matchS s t = some m) (he : Eqs ρ ρ' m.ps m.ts) {C : Ctx} (hf : Fix C.ρ0 ρ') (hn : C.n0 ≤ t.n0) {nt : Nat} {a : Act} {w : World} (hs : TS C ρ β nt s a w) : ∃ β', TS C ρ' β' nt t.toS a w := by
  unfold matchS at h
  split at h
  · rename_i p hp
    split at h
    · rename_i q hq
      split at h
      · rename_i hok
        cases h
        simp only [Bool.and_eq_true] at hok
        obtain ⟨hok, hfx, hle⟩ := hok
        refine ⟨labOf ρ β t.n0 ((p.lp ++ idLp t.n0) ++ q.lp), ?_⟩
        have hmaps := maps_all (ρ := ρ) (β := β) hok t.n0
        have hall : MOk ρ ρ' β (labOf ρ β t.n0 ((p.lp ++ idLp t.n0) ++ q.lp)) (p.app q) := by
          refine ⟨he.ps, he.ts, fun z hz => ?_⟩
          rcases List.mem_append.1 hz with hz | hz
          · exact hmaps z (List.mem_append_left _ (List.mem_append_left _ hz))
          · exact hmaps z (List.mem_append_right _ hz)
        obtain ⟨hpm, hqm⟩ := MOk.app_iff hall
        have h1 := slotsM_ok hp hpm
        have h2 := heapL_ok (n0 := t.n0) hq hok hqm (C := C) hs.sat.sh hs.own
        refine ⟨⟨⟨fun n v hv => ?_, hs.sat.sa.defers⟩, hs.sat.sz, ⟨fun l x hx => h2.1.blk _ (putSets_mem hx), fun l l' x x' hx hx' hne hw hb hb' => h2.1.inj _ (putSets_mem hx) _ (putSets_mem hx') hne hw hb hb'⟩⟩, hs.frm, fun l x hx hw hb => h2.2 _ (putSets_mem hx) hw hb, hf, fun l hl => ?_, Nat.le_trans hn (Nat.le_of_ble_eq_true hle)⟩
        · obtain ⟨hb, y, hy, hd⟩ := h1 n v (slOf_mem hv)
          exact ⟨hb, by rw [(hs.sat.sa.slot n y hy).2, hd]⟩
        · have h3 := labOf_fix (ρ := ρ) (β := β) hfx l (Nat.lt_of_lt_of_le hl hn)
          exact ⟨h3.1.trans (hs.lab l hl).1, h3.2.trans (hs.lab l hl).2⟩
      · cases h
    · cases h
  · cases h
end

/-! ### a function's end -/
/-- What a function hands back, and the blocks behind it. -/
structure Res where
  vs : List V1
  heap : List (Nat × Ent)
  nx : Nat
  n0 : Nat
def REnd (C : Ctx) (R : Res) (e : Ending) (w' : World) : Prop :=
  ∃ β', Frm C.S C.W w' ∧ SatL C.ρ0 β' R.nx R.heap w' ∧ C.β0.agree C.n0 β' ∧ (∀ p ∈ R.heap, p.2.wr = true → p.2.blk.hb β' → C.W.heap.size ≤ β'.b p.1 ∨ C.S (β'.b p.1)) ∧ (svOfList R.vs).below R.nx ∧ e = .returned ((svOfList R.vs).den C.ρ0 β')

/-- At a body's end; the calls that are put off are Δ. -/
def bodyPostE (P : Program) (fn : Func) (Δ : List Deferred) (R : Ending → World → Prop) : Exit → Act → World → Prop
  | .normal, a, w | .ret, a, w => a.defers = Δ ∧ ∃ v, (∀ w', CellsKept w w' → (results fn a.tmps).run P w' = .ok v w') ∧ R (.returned v) w
  | .panic chain, a, w => a.defers = Δ ∧ R (.panicked chain) w
  | .outgrown, _, w => R .outgrown w
  | _, _, _ => False
theorem bodyPostE_nil {P : Program} {fn : Func} {R : Ending → World → Prop} {e : Exit} {a : Act} {w : World} (h : bodyPostE P fn [] R e a w) : bodyPost P fn R e a w := by
  cases e with
  | normal => exact ⟨h.1, h.2.imp fun v hv => ⟨hv.1 w (CellsKept.refl w), hv.2⟩⟩
  | ret => exact ⟨h.1, h.2.imp fun v hv => ⟨hv.1 w (CellsKept.refl w), hv.2⟩⟩
  | _ => exact h
def EndAt (P : Program) (fn : Func) (C : Ctx) : Option Res → Exit → Act → World → Prop
  | none => bodyPostE P fn C.Δ.ds fun e w' => e = .returned (.bool true) ∧ Frm C.S C.W w'
  | some R => bodyPostE P fn C.Δ.ds (REnd C R)
def retE (ty : Tys) (fn : Func) (s : S) : Option E := match resOf ty s fn.results.toList with
  | some [.one (.bool e)] => some e
  | _ => none
theorem ret_TS {P : Program} {ty : Tys} (hty : TysOk P ty) {fn : Func} {C : Ctx} {ρ : Env} {β : Lab} {nt : Nat} {s : S} {a : Act} {w : World} (hs : TS C ρ β nt s a w) {e : E} (he : retE ty fn s = some e) (h : e.den ρ ≠ 0) {x : Exit} (hx : x = .ret ∨ x = .normal) : EndAt P fn C none x a w := by
  unfold retE at he
  split at he
  · rename_i e' hr
    cases he
    have this : ∀ w', CellsKept w w' → _ := fun w' hw => (results_kept (cf := mkCfg ty fun _ => none) hty hs.sat hr hw).1
    have hv : (svOfList [V1.one (CV.bool e)]).den ρ β = .bool true := by simp [svOfList, SV.den, V1.den, CV.den, h]
    rw [hv] at this
    rcases hx with rfl | rfl <;> exact ⟨hs.sat.sa.defers, _, this, rfl, hs.frm⟩
  · cases he
/-- Does it name numbers and tables below 100 alone? -/
def E.low : E → Bool
  | .lit _ => true
  | .var i => Nat.blt i 100
  | .tv q => Nat.blt q 100
  | .get t i _ => t.low && i.low
  | .upd t i _ v => t.low && (i.low && v.low)
  | .un _ a => a.low
  | .bin _ a b => a.low && b.low
  | .ite c a b => c.low && (a.low && b.low)
  | .app _ a b => a.low && b.low
theorem E.low_den {ρ ρ' : Env} (h : Fix ρ ρ') : ∀ {e : E}, e.low = true → e.den ρ' = e.den ρ ∧ e.tden ρ' = e.tden ρ ∧ e.t2den ρ' = e.t2den ρ := by
  intro e
  induction e with
  | lit n => intro _; exact ⟨rfl, rfl, rfl⟩
  | var i => intro hl; exact ⟨(h i (by simpa [E.low] using hl)).1, rfl, rfl⟩
  | tv q => intro hl; exact ⟨rfl, (h q (by simpa [E.low] using hl)).2, rfl⟩
  | get t i j ht hi =>
    intro hl
    simp only [E.low, Bool.and_eq_true] at hl
    obtain ⟨h1, h2, h3⟩ := ht hl.1
    obtain ⟨g1, g2, g3⟩ := hi hl.2
    exact ⟨by simp only [E.den, h2, g1], rfl, rfl⟩
  | upd t i j v ht hi hv =>
    intro hl
    simp only [E.low, Bool.and_eq_true] at hl
    obtain ⟨h1, h2, h3⟩ := ht hl.1
    obtain ⟨g1, g2, g3⟩ := hi hl.2.1
    obtain ⟨f1, f2, f3⟩ := hv hl.2.2
    exact ⟨rfl, by simp only [E.tden, h2, g1, f1], rfl⟩
  | un o a ha =>
    intro hl
    obtain ⟨h1, h2, h3⟩ := ha hl
    exact ⟨by simp only [E.den, h1], rfl, rfl⟩
  | bin o a b ha hb =>
    intro hl
    simp only [E.low, Bool.and_eq_true] at hl
    obtain ⟨h1, h2, h3⟩ := ha hl.1
    obtain ⟨g1, g2, g3⟩ := hb hl.2
    exact ⟨by simp only [E.den, h1, g1], rfl, rfl⟩
  | ite c a b hc ha hb =>
    intro hl
    simp only [E.low, Bool.and_eq_true] at hl
    obtain ⟨h1, h2, h3⟩ := hc hl.1
    obtain ⟨g1, g2, g3⟩ := ha hl.2.1
    obtain ⟨f1, f2, f3⟩ := hb hl.2.2
    exact ⟨by simp only [E.den, h1, g1, f1], by simp only [E.tden, h1, g2, f2], rfl⟩
  | app f a b ha hb =>
    intro hl
    simp only [E.low, Bool.and_eq_true] at hl
    obtain ⟨h1, h2, h3⟩ := ha hl.1
    obtain ⟨g1, g2, g3⟩ := hb hl.2
    exact ⟨by simp only [E.den, h1, h2, h3, g1, g2, g3], by simp only [E.tden, h1, h2, h3, g1, g2, g3], by simp only [E.t2den, h1, h2, h3, g1, g2, g3]⟩
def v1sM (nx : Nat) : List V1 → List V1 → Option Mt
  | [], [] => some Mt.none_
  | x :: r, y :: r' => match y.bel nx with
    | true => (match v1M x y, v1sM nx r r' with | some p, some q => some (p.app q) | _, _ => none)
    | false => none
  | _, _ => none
def matchR (s : S) (vs : List V1) (R : Res) : Option Mt := match v1sM R.nx vs R.vs with
  | some p => (match heapM s.heap R.nx (p.lp ++ idLp R.n0) R.heap with
    | some q => (match lpOk ((p.lp ++ idLp R.n0) ++ q.lp) && (lpFix R.n0 ((p.lp ++ idLp R.n0) ++ q.lp) && Nat.ble R.n0 R.nx) with | true => some (p.app q) | false => none)
    | none => none)
  | none => none
/-- What a function hands back, held against what it should. -/
def retM (ty : Tys) (fn : Func) (s : S) (R : Res) : Option Mt := match resOf ty s fn.results.toList with
  | some vs => (match matchR s vs R with
    | some m => (match m.ps.all (fun p => p.2.low) && m.ts.all (fun p => p.2.1.low) with | true => some m | false => none)
    | none => none)
  | none => none
section
variable {ρ ρ' : Env} {β β' : Lab}
theorem v1M_ok {x x' : V1} {m : Mt} (h : v1M x x' = some m) (he : MOk ρ ρ' β β' m) : x.den ρ β = x'.den ρ' β' := svM_ok (x := .v x) (x' := .v x') h he
theorem v1sM_ok {nx : Nat} : ∀ {l l' : List V1} {m : Mt}, v1sM nx l l' = some m → MOk ρ ρ' β β' m → l.map (V1.den ρ β) = l'.map (V1.den ρ' β') ∧ ∀ x ∈ l', V1.below nx x
  | [], [], m, h, he => ⟨rfl, fun x hx => (by cases hx)⟩
  | x :: r, y :: r', m, h, he => by
    simp only [v1sM] at h
    split at h
    · rename_i hb
      split at h
      · rename_i p q hp hq
        cases h
        obtain ⟨h1, h2⟩ := MOk.app_iff he
        obtain ⟨i1, i2⟩ := v1sM_ok hq h2
        refine ⟨by simp only [List.map_cons, v1M_ok hp h1, i1], fun z hz => ?_⟩
        rcases List.mem_cons.1 hz with rfl | hz
        · exact SV.bel_ok (x := .v z) hb
        · exact i2 z hz
      · cases h
    · cases h
  | [], _ :: _, m, h, he => by simp [v1sM] at h
  | _ :: _, [], m, h, he => by simp [v1sM] at h
theorem svOfList_map {l l' : List V1} (h : l.map (V1.den ρ β) = l'.map (V1.den ρ' β')) : (svOfList l).den ρ β = (svOfList l').den ρ' β' := by
  simp only [svOfList_den, h]
theorem retM_ok {P : Program} {ty : Tys} (hty : TysOk P ty) {fn : Func} {C : Ctx} {R : Res} {nt : Nat} {s : S} {a : Act} {w : World} (hs : TS C ρ β nt s a w) {m : Mt} (h : retM ty fn s R = some m) (he : Eqs ρ ρ m.ps m.ts) (hn : C.n0 ≤ R.n0) {x : Exit} (hx : x = .ret ∨ x = .normal) : EndAt P fn C (some R) x a w := by
  unfold retM at h
  split at h
  · rename_i vs hr
    split at h
    · rename_i m' hm
      split at h
      · rename_i hlow
        cases h
        simp only [Bool.and_eq_true, List.all_eq_true] at hlow
        unfold matchR at hm
        split at hm
        · rename_i p hp
          split at hm
          · rename_i q hq
            split at hm
            · rename_i hok
              cases hm
              simp only [Bool.and_eq_true] at hok
              obtain ⟨hok, hfx, hle⟩ := hok
              have hmaps := maps_all (ρ := ρ) (β := β) hok R.n0
              have hall : MOk ρ C.ρ0 β (labOf ρ β R.n0 ((p.lp ++ idLp R.n0) ++ q.lp)) (p.app q) := by
                refine ⟨fun z hz => ?_, fun z hz => ?_, fun z hz => ?_⟩
                · rw [he.ps z hz, (E.low_den hs.fix (hlow.1 z hz)).1]
                · have h1 := he.ts z hz
                  have h2 := (E.low_den hs.fix (hlow.2 z hz)).2.1
                  unfold TEqP at h1 ⊢
                  rw [← h2]
                  exact h1
                · rcases List.mem_append.1 hz with hz | hz
                  · exact hmaps z (List.mem_append_left _ (List.mem_append_left _ hz))
                  · exact hmaps z (List.mem_append_right _ hz)
              obtain ⟨hpm, hqm⟩ := MOk.app_iff hall
              have h1 := v1sM_ok hp hpm
              have h2 := heapL_ok (n0 := R.n0) hq hok hqm (C := C) hs.sat.sh hs.own
              have h3 : ∀ w', CellsKept w w' → _ := fun w' hw => (results_kept (cf := mkCfg ty fun _ => none) hty hs.sat hr hw).1
              rw [svOfList_map h1.1] at h3
              have key : REnd C R (.returned ((svOfList R.vs).den C.ρ0 (labOf ρ β R.n0 ((p.lp ++ idLp R.n0) ++ q.lp)))) w := by
                refine ⟨_, hs.frm, h2.1, fun l hl => ?_, h2.2, svOfList_below h1.2, rfl⟩
                have h4 := labOf_fix (ρ := ρ) (β := β) hfx l (Nat.lt_of_lt_of_le hl hn)
                exact ⟨h4.1.trans (hs.lab l hl).1, h4.2.trans (hs.lab l hl).2⟩
              rcases hx with rfl | rfl <;> exact ⟨hs.sat.sa.defers, _, h3, key⟩
            · cases hm
          · cases hm
        · cases hm
      · cases h
    · cases h
  · cases h
end
/-- The beginning of a law. -/
def Ctx.law (W : World) (β : Lab) (ρ : Env) : Ctx := ⟨W, fun _ => False, 0, β, ρ, ⟨[], none⟩⟩
end
end Go.Sx
/-
  SX: LOOPS, WHAT IS LEFT TO SHOW: the run of a part, as tests and equations.
-/
namespace Go.Sx
set_option linter.unusedSimpArgs false
set_option linter.unusedVariables false
set_option linter.unusedSectionVars false
noncomputable section
set_option linter.unusedVariables false

inductive What where
  | next (F : List Fact) (ps : Pairs) (ts : TPairs) | out (i : Nat) (F : List Fact) (ps : Pairs) (ts : TPairs) | done (e : E) | fin (ps : Pairs) (ts : TPairs)
abbrev Ob := List (E × Bool) × What
/-- Where a part should come to: a template, what is known there, counts that stay or go up to a bound; other templates that will do. -/
structure Tgt where
  t : Tm
  F : List Fact
  c : List (Nat × Option Int)
  m : List (Tm × List Fact)
abbrev Tgt.alts (g : Tgt) : List (Tm × List Fact) := (g.t, g.F) :: g.m
/-- A number that is told, and not the one that should be. -/
def rngIn (j : Nat) : List Fact → Option (Int × Int)
  | [] => none
  | .rng (.var i) (some a, some b) :: r => (match Nat.beq i j with | true => some (a, b) | false => rngIn j r)
  | _ :: r => rngIn j r
def litsNe (k : Known) (F : List Fact) : Pairs → Bool
  | [] => false
  | (a, .lit n) :: r => (match a with
    | .lit m => !(ile m n && ile n m) || litsNe k F r
    | e => (match norm k e with | .lit m => !(ile m n && ile n m) || litsNe k F r | _ => litsNe k F r))
  | (a, .var j) :: r => (match rngIn j F with
    | some (lo, hi) => (match ieq lo hi with
      | true => (match norm k a with | .lit m => !(ieq lo m) || litsNe k F r | _ => litsNe k F r)
      | false => litsNe k F r)
    | none => litsNe k F r)
  | _ :: r => litsNe k F r
/-- Of the pairs, two numbers that are told and not the same. -/
def litLit : Pairs → Bool
  | [] => false
  | (.lit m, .lit n) :: r => (match ieq m n with | true => litLit r | false => true)
  | _ :: r => litLit r
/-- Numbers that are told, of slots; templates that part from these are passed over (a hint). -/
def keyCV (k : Known) : CV → Option Int
  | .int _ e => (match norm k e with | .lit n => some n | _ => none)
  | _ => none
def svCells : SV → List CV
  | .v (.one c) => [c]
  | .v (.agg cs) => cs
  | _ => []
def optK {R : Type} (o : Option Int) (f : Option Int → R) : R := match o with | none => f none | some n => intK n fun n => f (some n)
def keysK {R : Type} (k : Known) : List CV → (List (Option Int) → R) → R
  | [], f => f []
  | c :: r, f => optK (keyCV k c) fun a => keysK k r fun b => f (a :: b)
def slotKeysK {R : Type} (k : Known) (s : Sl) : List (Nat × SV) → (List (List (Option Int)) → R) → R
  | [], f => f []
  | (n, _) :: r, f => keysK k (match s.get n with | some x => svCells x | none => []) fun a => slotKeysK k s r fun b => f (a :: b)
def neKey : List (Option Int) → List CV → Bool
  | some m :: r, .int _ (.lit n) :: q => (match ieq m n with | true => neKey r q | false => true)
  | _ :: r, _ :: q => neKey r q
  | _, _ => false
def neKeys : List (List (Option Int)) → List (Nat × SV) → Bool
  | a :: r, (_, v) :: q => (match neKey a (svCells v) with | true => true | false => neKeys r q)
  | _, _ => false
def neCells : List CV → List CV → Bool
  | .int _ (.lit m) :: r, .int _ (.lit n) :: q => (match ieq m n with | true => neCells r q | false => true)
  | _ :: r, _ :: q => neCells r q
  | _, _ => false
def neHeap (h : T Ent) : List (Nat × Ent) → Bool
  | [] => false
  | (l, ⟨_, .cells cs _⟩) :: r => (match h.get l with
    | some ⟨_, .cells ds _⟩ => (match neCells ds cs with | true => true | false => neHeap h r)
    | _ => neHeap h r)
  | _ :: r => neHeap h r
def siftQ (key : List (List (Option Int))) (h : T Ent) : List (Tm × List Fact) → List (Tm × List Fact)
  | [] => []
  | p :: r => (match neKeys key p.1.slots with
    | true => siftQ key h r
    | false => (match neHeap h p.1.heap with | true => siftQ key h r | false => p :: siftQ key h r))
theorem siftQ_mem {key : List (List (Option Int))} {h : T Ent} : ∀ {l : List (Tm × List Fact)} {p}, p ∈ siftQ key h l → p ∈ l
  | [], p, hp => by cases hp
  | q :: r, p, hp => by
    unfold siftQ at hp
    split at hp
    · exact List.mem_cons_of_mem _ (siftQ_mem hp)
    · split at hp
      · exact List.mem_cons_of_mem _ (siftQ_mem hp)
      · rcases List.mem_cons.1 hp with rfl | hp
        · exact List.mem_cons_self ..
        · exact List.mem_cons_of_mem _ (siftQ_mem hp)
theorem optK_eq {R : Type} (o : Option Int) (f : Option Int → R) : optK o f = f o := by cases o <;> simp only [optK, intK_eq]
theorem keysK_eq {R : Type} (k : Known) : ∀ (l : List CV) (f : List (Option Int) → R), keysK k l f = f (l.map (keyCV k))
  | [], f => rfl
  | c :: r, f => by simp only [keysK, optK_eq, keysK_eq k r, List.map_cons]
theorem slotKeysK_ex {R : Type} (k : Known) (s : Sl) : ∀ (l : List (Nat × SV)), ∃ a, ∀ (f : List (List (Option Int)) → R), slotKeysK k s l f = f a
  | [] => ⟨[], fun f => rfl⟩
  | (n, v) :: r => by
    obtain ⟨a, ha⟩ := slotKeysK_ex (R := R) k s r
    exact ⟨_, fun f => by rw [slotKeysK, keysK_eq, ha]⟩
/-- The first template that fits. -/
def pickB (k : Known) (s : S) : List (Tm × List Fact) → Option (List Fact × Mt)
  | [] => none
  | [(t, F)] => (match matchS s t with | some m => some (F, m) | none => none)
  | (t, F) :: r => match slotsM s.slots t.nx t.slots with
    | some p => (match litsNe k F p.ps with
      | true => pickB k s r
      | false => (match matchS s t with
        | some m => (match litLit m.ps with | true => pickB k s r | false => some (F, m))
        | none => pickB k s r))
    | none => pickB k s r
def pickA (k : Known) (s : S) (l : List (Tm × List Fact)) : Option (List Fact × Mt) := match l with
  | a :: b :: c :: d :: e :: f :: g :: h => slotKeysK k s.slots a.1.slots fun key => pickB k s (siftQ key s.heap (a :: b :: c :: d :: e :: f :: g :: h))
  | l => pickB k s l
def nextOf : Option (List Fact × Mt) → Option What
  | some (F, m) => some (.next F m.ps m.ts)
  | none => none
def outOf (i : Nat) : Option (List Fact × Mt) → Option What
  | some (F, m) => some (.out i F m.ps m.ts)
  | none => none
def finOf : Option Mt → Option What
  | some m => some (.fin m.ps m.ts)
  | none => none
def doneOf : Option E → Option What
  | some e => some (.done e)
  | none => none
/-- At a function's end. -/
def endOf (ty : Tys) (fn : Func) (R : Option Res) (s : S) : Option What := match R with
  | none => doneOf (retE ty fn s)
  | some R => finOf (retM ty fn s R)
def tgtOf : List (Nat × Tgt) → Nat → Option Tgt
  | [], _ => none
  | (b, g) :: r, id => match Nat.beq id b with | true => some g | false => tgtOf r id
def whatOf (k : Known) (ty : Tys) (fn : Func) (R : Option Res) (N : Option Tgt) (X : List (Nat × Tgt)) (x : XK) (s : S) : Option What :=
  match x with
  | .nrm => (match N with | some g => nextOf (pickA k s ((g.t, g.F) :: g.m)) | none => endOf ty fn R s)
  | .ret => endOf ty fn R s
  | .ext id => (match tgtOf X id with | some g => outOf id (pickA k s ((g.t, g.F) :: g.m)) | none => none)
/-- The tests of a path. -/
def Path (ρ : Env) (ts : List (E × Bool)) : Prop := ∀ p ∈ ts, (p.1.den ρ ≠ 0 ↔ p.2 = true)
/-- An environment, one number of it another. -/
def Env.put (ρ : Env) (i : Nat) (x : Int) : Env := ⟨fun j => if j = i then x else ρ.v j, ρ.t⟩
theorem put_v (ρ : Env) (i j : Nat) (x : Int) : (ρ.put i x).v j = if j = i then x else ρ.v j := rfl
theorem rng_iff {ρ : Env} {e : E} {a b : Int} : Fact.holds ρ (.rng e (some a, some b)) ↔ a ≤ e.den ρ ∧ e.den ρ ≤ b :=
  ⟨fun h => ⟨h.1 a rfl, h.2 b rfl⟩, fun h => ⟨fun m hm => by cases hm; exact h.1, fun m hm => by cases hm; exact h.2⟩⟩
theorem tr_iff {ρ : Env} {e : E} {b : Bool} : Fact.holds ρ (.tr e b) ↔ (e.den ρ ≠ 0 ↔ b = true) := Iff.rfl
theorem wrap_u64 (z : Int) : IntKind.u64.wrap z = z % 18446744073709551616 := by
  obtain ⟨t, ht⟩ := wrap_congr .u64 z
  have h1 : (0 : Int) ≤ IntKind.u64.wrap z := (wrap_range .u64 z).1
  have h2 : IntKind.u64.wrap z ≤ (18446744073709551615 : Int) := (wrap_range .u64 z).2
  have hk : ((kmod .u64 : Nat) : Int) = 18446744073709551616 := rfl
  rw [hk] at ht
  omega
theorem wrap_i64 {z : Int} (h : -9223372036854775808 ≤ z ∧ z ≤ 9223372036854775807) : IntKind.i64.wrap z = z := wrap_in (by simpa [kmin, kmax] using h)
theorem lt_iff {ρ : Env} {a b : E} {t : Bool} : ((E.bin .lt a b).den ρ ≠ 0 ↔ t = true) ↔ (a.den ρ < b.den ρ ↔ t = true) := by
  simp only [E.den, BO.den]; by_cases h : a.den ρ < b.den ρ <;> simp [h]
theorem eq_iff {ρ : Env} {a b : E} {t : Bool} : ((E.bin .eq a b).den ρ ≠ 0 ↔ t = true) ↔ (a.den ρ = b.den ρ ↔ t = true) := by
  simp only [E.den, BO.den]; by_cases h : a.den ρ = b.den ρ <;> simp [h]
/-! ### a law with one loop -/
def bodyOf (fn : Func) : Code := fn.body.getD .skip
def loopBody (l : List Code) (i : Nat) : Code := match l[i]? with
  | some (.block _ (.loop c)) => c
  | _ => .skip
theorem cut_at {l : List Code} {i : Nat} {c : Code} (h : l[i]? = some c) : l = l.take i ++ (c :: l.drop (i + 1)) := by
  obtain ⟨hlt, he⟩ := List.getElem?_eq_some_iff.1 h
  rw [← he, ← List.drop_eq_getElem_cons hlt, List.take_append_drop]
def cntLt1 (ρ ρ' : Env) (c : Nat) : Option Int → Prop
  | none => ρ'.v c = ρ.v c
  | some B => (B - ρ'.v c).toNat < (B - ρ.v c).toNat
def cntLt (ρ ρ' : Env) (l : List (Nat × Option Int)) : Prop := ∀ p ∈ l, cntLt1 ρ ρ' p.1 p.2
/-- An environment that will do. -/
def Tgt.ok (ρ : Env) (g : Tgt) (F : List Fact) (ρ' : Env) : Prop := Fix ρ ρ' ∧ (∀ f ∈ F, Fact.holds ρ' f) ∧ cntLt ρ ρ' g.c
theorem pickB_mem {k : Known} {s : S} {F : List Fact} {m : Mt} : ∀ {l : List (Tm × List Fact)}, pickB k s l = some (F, m) → ∃ t, (t, F) ∈ l ∧ matchS s t = some m
  | [], h => by cases h
  | [(t, F')], h => by
    simp only [pickB] at h
    split at h
    · rename_i m' hm
      cases h
      exact ⟨t, List.mem_cons_self .., hm⟩
    · cases h
  | (t, F') :: q :: r, h => by
    have go : pickB k s (q :: r) = some (F, m) → ∃ t', (t', F) ∈ (t, F') :: q :: r ∧ matchS s t' = some m := fun h => by
      obtain ⟨t', h1, h2⟩ := pickB_mem h
      exact ⟨t', List.mem_cons_of_mem _ h1, h2⟩
    simp only [pickB] at h
    split at h
    · split at h
      · exact go h
      · split at h
        · rename_i m' hm
          split at h
          · exact go h
          · cases h
            exact ⟨t, List.mem_cons_self .., hm⟩
        · exact go h
    · exact go h
/-- What is left to show, in the numbers of the path. -/
inductive Rsd where
  | eqn (a b : E) | teq (x y : E) (n : Option (E × Nat)) | fact (f : Fact) | done (e : E) | bad
def Rsd.holds (ρ : Env) : Rsd → Prop
  | .eqn a b => a.den ρ = b.den ρ
  | .teq x y n => TEqP ρ ρ (x, y, n)
  | .fact f => Fact.holds ρ f
  | .done e => e.den ρ ≠ 0
  | .bad => False
/-- What a path leaves: its tests, what is left to show. -/
abbrev Lft := List (E × Bool) × List Rsd
/-- What a part's obligations ask. -/
def ObsOk (ρ : Env) (obs : List Lft) : Prop := ∀ ob ∈ obs, Path ρ ob.1 → ∀ r ∈ ob.2, r.holds ρ
theorem pickA_mem {k : Known} {s : S} {F : List Fact} {m : Mt} {l : List (Tm × List Fact)} (h : pickA k s l = some (F, m)) : ∃ t, (t, F) ∈ l ∧ matchS s t = some m := by
  unfold pickA at h
  split at h
  · rename_i a b c d e f g r
    obtain ⟨key, hk⟩ := slotKeysK_ex (R := Option (List Fact × Mt)) k s.slots a.1.slots
    rw [hk] at h
    obtain ⟨t, h1, h2⟩ := pickB_mem h
    exact ⟨t, siftQ_mem h1, h2⟩
  · exact pickB_mem h
end
end Go.Sx
