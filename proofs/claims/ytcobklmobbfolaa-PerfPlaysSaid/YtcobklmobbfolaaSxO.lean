/-
  SX: STATES OF SEVERAL WAYS MADE ONE: that what is made of them stands for each.
-/
import Derived.Test.YtcobklmobbfolaaSxY
namespace Go.Sx
noncomputable section
set_option linter.unusedVariables false

/-- c stands for a where the test holds, for b where it does not. -/
structure IteV {α : Type} (ρ : Env) (t : E) (D : α → Lab → Value) (B : Nat → α → Prop) (a b c : α) : Prop where
  yes : t.den ρ ≠ 0 → ∀ β, D c β = D a β
  no : t.den ρ = 0 → ∀ β, D c β = D b β
  ba : ∀ n, B n a → B n c
  bb : ∀ n, B n b → B n c
theorem cvIte_ok {ρ : Env} {t : E} {a b c : CV} (h : cvIte t a b = some c) : IteV ρ t (fun c β => CV.den ρ β c) CV.below a b c := by
  have key : ∀ x y : E, (t.den ρ ≠ 0 → (mkIte t x y).den ρ = x.den ρ) ∧ (t.den ρ = 0 → (mkIte t x y).den ρ = y.den ρ) := by
    intro x y
    rw [mkIte_den]
    exact ⟨fun h => if_neg h, fun h => if_pos h⟩
  unfold cvIte at h
  split at h
  · split at h
    · rename_i k x k' y hk
      cases h
      have := keq_eq hk
      subst this
      exact ⟨fun ht β => by simp only [CV.den, (key _ _).1 ht], fun ht β => by simp only [CV.den, (key _ _).2 ht], fun _ _ => trivial, fun _ _ => trivial⟩
    · cases h
  · rename_i x y
    cases h
    exact ⟨fun ht β => by simp only [CV.den, (key _ _).1 ht], fun ht β => by simp only [CV.den, (key _ _).2 ht], fun _ _ => trivial, fun _ _ => trivial⟩
  · split at h
    · rename_i hb
      simp only [Bool.and_eq_true] at hb
      have h1 := Nat.eq_of_beq_eq_true hb.1
      have h2 := Nat.eq_of_beq_eq_true hb.2
      subst h1; subst h2
      cases h
      exact ⟨fun _ _ => rfl, fun _ _ => rfl, fun _ h => h, fun _ h => h⟩
    · cases h
  · cases h; exact ⟨fun _ _ => rfl, fun _ _ => rfl, fun _ h => h, fun _ h => h⟩
  · cases h; exact ⟨fun _ _ => rfl, fun _ _ => rfl, fun _ h => h, fun _ h => h⟩
  · cases h; exact ⟨fun _ _ => rfl, fun _ _ => rfl, fun _ h => h, fun _ h => h⟩
  · split at h
    · rename_i l o n c l' o' n' c' hb
      simp only [Bool.and_eq_true] at hb
      have h1 := Nat.eq_of_beq_eq_true hb.1
      have h2 := Nat.eq_of_beq_eq_true hb.2
      subst h1; subst h2
      cases h
      exact ⟨fun ht β => by simp only [CV.den, (key _ _).1 ht], fun ht β => by simp only [CV.den, (key _ _).2 ht], fun _ h => h, fun _ h => h⟩
    · cases h
  · split at h
    · rename_i l z r n c l' z' r' n' c' hb
      simp only [Bool.and_eq_true] at hb
      have h1 := Nat.eq_of_beq_eq_true hb.1
      have h2 := Nat.eq_of_beq_eq_true hb.2
      subst h1; subst h2
      cases h
      exact ⟨fun ht β => by simp only [CV.den, (key _ _).1 ht], fun ht β => by simp only [CV.den, (key _ _).2 ht], fun _ h => h, fun _ h => h⟩
    · cases h
  · split at h
    · rename_i l z r j l' z' r' j' hb
      simp only [Bool.and_eq_true] at hb
      have h1 := Nat.eq_of_beq_eq_true hb.1
      have h2 := Nat.eq_of_beq_eq_true hb.2.1
      have h3 := Nat.eq_of_beq_eq_true hb.2.2
      subst h1; subst h2; subst h3
      cases h
      exact ⟨fun ht β => by simp only [CV.den, (key _ _).1 ht], fun ht β => by simp only [CV.den, (key _ _).2 ht], fun _ h => h, fun _ h => h⟩
    · cases h
  · cases h
theorem cvsIte_ok {ρ : Env} {t : E} : ∀ {a b c : List CV}, cvsIte t a b = some c → (t.den ρ ≠ 0 → ∀ β, c.map (CV.den ρ β) = a.map (CV.den ρ β)) ∧ (t.den ρ = 0 → ∀ β, c.map (CV.den ρ β) = b.map (CV.den ρ β)) ∧
    (∀ n, (∀ x ∈ a, CV.below n x) → ∀ x ∈ c, CV.below n x) ∧ (∀ n, (∀ x ∈ b, CV.below n x) → ∀ x ∈ c, CV.below n x)
  | [], [], c, h => by cases h; exact ⟨fun _ _ => rfl, fun _ _ => rfl, fun _ h => h, fun _ h => h⟩
  | a :: r, b :: r', c, h => by
    simp only [cvsIte] at h
    split at h
    · rename_i x xs hx hxs
      cases h
      have h1 := cvIte_ok (ρ := ρ) hx
      obtain ⟨i1, i2, i3, i4⟩ := cvsIte_ok (ρ := ρ) hxs
      refine ⟨fun ht β => by rw [List.map_cons, List.map_cons, h1.yes ht β, i1 ht β], fun ht β => by rw [List.map_cons, List.map_cons, h1.no ht β, i2 ht β], fun n hn y hy => ?_, fun n hn y hy => ?_⟩
      · rcases List.mem_cons.1 hy with rfl | hy
        · exact h1.ba n (hn _ (List.mem_cons_self ..))
        · exact i3 n (fun z hz => hn z (List.mem_cons_of_mem _ hz)) y hy
      · rcases List.mem_cons.1 hy with rfl | hy
        · exact h1.bb n (hn _ (List.mem_cons_self ..))
        · exact i4 n (fun z hz => hn z (List.mem_cons_of_mem _ hz)) y hy
    · cases h
  | [], _ :: _, c, h => by simp [cvsIte] at h
  | _ :: _, [], c, h => by simp [cvsIte] at h
theorem svIte_ok {ρ : Env} {t : E} {a b c : SV} (h : svIte t a b = some c) : IteV ρ t (fun c β => SV.den ρ β c) SV.below a b c := by
  unfold svIte at h
  split at h
  · rename_i x y
    split at h
    · rename_i z hz
      cases h
      unfold v1Ite at hz
      split at hz
      · split at hz
        · rename_i c' hc
          cases hz
          have := cvIte_ok (ρ := ρ) hc
          exact ⟨fun ht β => this.yes ht β, fun ht β => this.no ht β, fun n h => this.ba n h, fun n h => this.bb n h⟩
        · cases hz
      · split at hz
        · rename_i c' hc
          cases hz
          obtain ⟨i1, i2, i3, i4⟩ := cvsIte_ok (ρ := ρ) hc
          exact ⟨fun ht β => by simp only [SV.den, V1.den, i1 ht β], fun ht β => by simp only [SV.den, V1.den, i2 ht β], fun n h => i3 n h, fun n h => i4 n h⟩
        · cases hz
      · cases hz
    · cases h
  · cases h
/-- An entry that stands for another. -/
structure EntEq (ρ : Env) (e x : Ent) : Prop where
  wr : x.wr = e.wr
  below : ∀ n, e.blk.below n → x.blk.below n
  sat : ∀ β b w, e.blk.sat ρ β b w → x.blk.sat ρ β b w
theorem entIte_ok {ρ : Env} {t : E} {a b x : Ent} (h : entIte t a b = some x) : (t.den ρ ≠ 0 → EntEq ρ a x) ∧ (t.den ρ = 0 → EntEq ρ b x) := by
  unfold entIte at h
  split at h
  · rename_i wr ca ty wr' cb ty'
    split at h
    · rename_i hb
      simp only [Bool.and_eq_true] at hb
      have e1 := Nat.eq_of_beq_eq_true hb.1
      have e2 : wr = wr' := by
        have := hb.2
        rw [eqvB_eq] at this
        exact eq_of_beq this
      subst e1; subst e2
      split at h
      · rename_i c hc
        cases h
        obtain ⟨i1, i2, i3, i4⟩ := cvsIte_ok (ρ := ρ) hc
        exact ⟨fun ht => ⟨rfl, fun n h => i3 n h, fun β b w h => by simp only [Blk.sat] at h ⊢; rw [i1 ht β]; exact h⟩,
          fun ht => ⟨rfl, fun n h => i4 n h, fun β b w h => by simp only [Blk.sat] at h ⊢; rw [i2 ht β]; exact h⟩⟩
      · cases h
    · cases h
  · cases h
theorem Sets.find_pair {l : Nat} {x : Ent} : ∀ {s : Sets}, s.find l = some x → (l, x) ∈ s
  | [], h => by cases h
  | (l', y) :: r, h => by
    unfold Sets.find at h
    split at h
    · rename_i z hz
      cases h
      exact List.mem_cons_of_mem _ (Sets.find_pair hz)
    · split at h
      · rename_i hb
        cases h
        rw [Nat.eq_of_beq_eq_true hb]
        exact List.mem_cons_self ..
      · cases h
/-- One way's state, and what stands for it. -/
theorem half {ρ : Env} {β β' : Lab} {nt : Nat} {s0 s1 : S} {a' : Act} {w w' : World} (hs : SatH ρ β s0.nx s0.heap.get w) (hg : Goes ρ β nt s0 w β' s1 a' w') {sl : Sl} {sets : Sets} {nx : Nat}
    (hsl : ∀ n v, sl.get n = some v → ∃ v1, s1.slots.get n = some v1 ∧ (∀ β, v.den ρ β = v1.den ρ β) ∧ ∀ n, v1.below n → v.below n)
    (hsets : ∀ p ∈ sets, (∃ e, s1.heap.get p.1 = some e ∧ EntEq ρ e p.2) ∧ (p.1 < s0.nx → ∃ x0, s0.heap.get p.1 = some x0 ∧ x0.wr = true))
    (hcov : ∀ l ∈ s1.log, l < s0.nx → l ∈ sets.labels) (hnx : s1.nx ≤ nx) : Goes ρ β nt s0 w β' ⟨sl, putSets s0.heap sets, nx, sets.labels ++ s0.log⟩ a' w' := by
  obtain ⟨t, st, hlog, hsub⟩ := hg.step
  -- what is in the new memory is, but for its looks, in the old way's
  have hset : ∀ l x, (Heap.set s0.heap.get sets) l = some x → ∃ y, (Heap.set s0.heap.get t) l = some y ∧ EntEq ρ y x := by
    intro l x hx
    by_cases hm : l ∈ sets.labels
    · rw [Heap.set_of_mem hm] at hx
      obtain ⟨⟨e, he, heq⟩, _⟩ := hsets _ (Sets.find_pair hx)
      exact ⟨e, hsub _ _ he, heq⟩
    · rw [Heap.set_of_not_mem hm] at hx
      have hln := (hs.blk l x hx).1
      have hnt : l ∉ t.labels := by
        intro ht
        exact hm (hcov l ((hlog l).2 (.inl ht)) hln)
      exact ⟨x, by rw [Heap.set_of_not_mem hnt]; exact hx, ⟨rfl, fun _ h => h, fun _ _ _ h => h⟩⟩
  have hsat : SatH ρ β' nx (Heap.set s0.heap.get sets) w' := by
    refine ⟨fun l x hl => ?_, fun l l' x x' hl hl' hne hw => ?_⟩
    · obtain ⟨y, hy, heq⟩ := hset l x hl
      obtain ⟨h1, h2, h3, h4⟩ := st.sat.blk l y hy
      exact ⟨Nat.lt_of_lt_of_le h1 hnx, heq.below _ (Blk.below_mono hnx h2), h3, heq.sat _ _ _ h4⟩
    · obtain ⟨y, hy, heq⟩ := hset l x hl
      obtain ⟨y', hy', heq'⟩ := hset l' x' hl'
      exact st.sat.inj l l' y y' hy hy' hne (by rw [← heq.wr, ← heq'.wr]; exact hw)
  refine ⟨⟨⟨fun n v hv => ?_, hg.sat.sa.defers⟩, hg.sat.sz, hsat.sub fun l x hx => putSets_get _ _ _ _ hx⟩, sets, ⟨Nat.le_trans st.le hnx, st.agree, hsat, ?_, fun l hl hn => ?_, fun l hl hn => ?_⟩, fun l => ?_, fun l x hx => putSets_get _ _ _ _ hx⟩
  · obtain ⟨v1, h1, h2, h3⟩ := hsl n v hv
    obtain ⟨h4, h5⟩ := hg.sat.sa.slot n v1 h1
    exact ⟨SV.below_mono hnx (h3 _ h4), by rw [h5, h2]⟩
  · refine st.frm.mono fun k _ hk => ?_
    obtain ⟨l, hl, hn, e⟩ := hk
    exact ⟨l, hcov l ((hlog l).2 (.inl hl)) hn, hn, e⟩
  · obtain ⟨p, hp, rfl⟩ := List.mem_map.1 hl
    exact (hsets p hp).2 hn
  · obtain ⟨p, hp, rfl⟩ := List.mem_map.1 hl
    obtain ⟨⟨e, he, _⟩, _⟩ := hsets p hp
    have h1 := hsub _ _ he
    have ht : p.1 ∈ t.labels := by
      by_cases ht : p.1 ∈ t.labels
      · exact ht
      · rw [Heap.set_of_not_mem ht] at h1
        have := (hs.blk _ _ h1).1
        omega
    have := st.new _ ht hn
    exact ⟨this.1, Nat.lt_of_lt_of_le this.2 hnx⟩
  · simp only [List.mem_append]
theorem slIteK_ok {R : Type} {t : E} {s1 s2 : Sl} : ∀ (lv : List Nat) (K : Sl → R), ∃ sl, slIteK t s1 s2 lv K = K sl ∧ ∀ n v, sl.get n = some v → ∃ v1 v2, s1.get n = some v1 ∧ s2.get n = some v2 ∧ svIte t v1 v2 = some v
  | [], K => ⟨.nil, rfl, fun n v h => by rw [Sl.get_nil] at h; cases h⟩
  | m :: r, K => by
    simp only [slIteK]
    obtain ⟨sl, h1, h2⟩ := slIteK_ok (t := t) (s1 := s1) (s2 := s2) r (slIte1 t s1 s2 m K)
    rw [h1]
    unfold slIte1
    split
    · rename_i v1 v2 hv1 hv2
      split
      · rename_i x hx
        rw [SV.deepK_eq]
        refine ⟨_, rfl, fun n v hv => ?_⟩
        rcases Sl.get_put sl m n x v hv with ⟨rfl, rfl⟩ | ⟨_, h⟩
        · exact ⟨v1, v2, hv1, hv2, hx⟩
        · exact h2 n v h
      · exact ⟨sl, rfl, h2⟩
    · exact ⟨sl, rfl, h2⟩
theorem memN_iff {l : Nat} : ∀ {r : List Nat}, memN l r = true → l ∈ r
  | [], h => by cases h
  | x :: r, h => by
    unfold memN at h
    split at h
    · rename_i hb; rw [Nat.eq_of_beq_eq_true hb]; exact List.mem_cons_self ..
    · exact List.mem_cons_of_mem _ (memN_iff h)
def SetOk (t : E) (nx0 : Nat) (h0 h1 h2 : T Ent) (p : Nat × Ent) : Prop :=
  (p.1 < nx0 → ∃ x0, h0.get p.1 = some x0 ∧ x0.wr = true) ∧ ∃ a b, h1.get p.1 = some a ∧ h2.get p.1 = some b ∧ entIte t a b = some p.2
theorem setsIteK_ok {R : Type} {t : E} {nx0 : Nat} {h0 h1 h2 : T Ent} {g1 g2 : List Nat} : ∀ (l : List Nat) (acc : Sets) (fail : R) (K : Sets → R), (∀ p ∈ acc, SetOk t nx0 h0 h1 h2 p) →
    setsIteK t nx0 h0 h1 h2 g1 g2 l acc fail K = fail ∨ ∃ sets, setsIteK t nx0 h0 h1 h2 g1 g2 l acc fail K = K sets ∧ (∀ p ∈ sets, SetOk t nx0 h0 h1 h2 p) ∧ (∀ x ∈ acc.labels, x ∈ sets.labels) ∧ ∀ x ∈ l, x < nx0 → x ∈ sets.labels
  | [], acc, fail, K, hacc => .inr ⟨acc, rfl, hacc, fun _ h => h, fun _ h => by cases h⟩
  | l :: r, acc, fail, K, hacc => by
    have put : ∀ (a b x : Ent), (l < nx0 → ∃ x0, h0.get l = some x0 ∧ x0.wr = true) → h1.get l = some a → h2.get l = some b → entIte t a b = some x →
        setsIteK t nx0 h0 h1 h2 g1 g2 r ((l, x) :: acc) fail K = fail ∨ ∃ sets, setsIteK t nx0 h0 h1 h2 g1 g2 r ((l, x) :: acc) fail K = K sets ∧ (∀ p ∈ sets, SetOk t nx0 h0 h1 h2 p) ∧ (∀ x ∈ acc.labels, x ∈ sets.labels) ∧ ∀ x ∈ l :: r, x < nx0 → x ∈ sets.labels := by
      intro a b x hold ha hb hx
      rcases setsIteK_ok r ((l, x) :: acc) fail K (fun p hp => by
        rcases List.mem_cons.1 hp with rfl | hp
        · exact ⟨hold, a, b, ha, hb, hx⟩
        · exact hacc p hp) with h | ⟨sets, h, i1, i2, i3⟩
      · exact .inl h
      · refine .inr ⟨sets, h, i1, fun y hy => i2 y (List.mem_cons_of_mem _ hy), fun y hy hn => ?_⟩
        rcases List.mem_cons.1 hy with rfl | hy
        · exact i2 _ (List.mem_cons_self ..)
        · exact i3 y hy hn
    have skip : (l < nx0 → l ∈ acc.labels) → setsIteK t nx0 h0 h1 h2 g1 g2 r acc fail K = fail ∨ ∃ sets, setsIteK t nx0 h0 h1 h2 g1 g2 r acc fail K = K sets ∧ (∀ p ∈ sets, SetOk t nx0 h0 h1 h2 p) ∧ (∀ x ∈ acc.labels, x ∈ sets.labels) ∧ ∀ x ∈ l :: r, x < nx0 → x ∈ sets.labels := by
      intro hin
      rcases setsIteK_ok r acc fail K hacc with h | ⟨sets, h, i1, i2, i3⟩
      · exact .inl h
      · refine .inr ⟨sets, h, i1, i2, fun y hy hn => ?_⟩
        rcases List.mem_cons.1 hy with rfl | hy
        · exact i2 _ (hin hn)
        · exact i3 y hy hn
    cases hm : memN l acc.labels with
    | true => simp only [setsIteK, hm]; exact skip fun _ => memN_iff hm
    | false =>
      cases hlt : Nat.blt l nx0 with
      | true =>
        simp only [setsIteK, hm, hlt]
        split
        · rename_i b0 hb0
          split
          · rename_i a b ha hb
            split
            · rename_i x hx
              rw [entK_eq]
              exact put a b x (fun _ => ⟨_, hb0, rfl⟩) ha hb hx
            · exact .inl rfl
          · exact .inl rfl
        · exact .inl rfl
      | false =>
        simp only [setsIteK, hm, hlt]
        have hge : ¬ l < nx0 := by
          intro h
          have : Nat.blt l nx0 = true := by rw [Nat.blt_eq]; exact h
          rw [this] at hlt
          cases hlt
        split
        · rename_i a b ha hb
          split
          · rename_i x hx
            rw [entK_eq]
            exact put a b x (fun h => absurd h hge) ha hb hx
          · exact skip fun h => absurd h hge
        · exact skip fun h => absurd h hge
/-- A state that stands for two. -/
def Two (s0 : S) (t : E) (a b m : S) : Prop := ∀ (ρ : Env) (β β' : Lab) (nt : Nat) (a' : Act) (w w' : World), SatH ρ β s0.nx s0.heap.get w →
  (t.den ρ ≠ 0 → Goes ρ β nt s0 w β' a a' w' → Goes ρ β nt s0 w β' m a' w') ∧ (t.den ρ = 0 → Goes ρ β nt s0 w β' b a' w' → Goes ρ β nt s0 w β' m a' w')
theorem maxK_ok {R : Type} (a b : Nat) (K : Nat → R) : ∃ n, maxK a b K = K n ∧ a ≤ n ∧ b ≤ n := by
  unfold maxK
  split
  · rename_i h; exact ⟨b, natK_eq _ _, Nat.le_of_ble_eq_true h, Nat.le_refl _⟩
  · rename_i h
    refine ⟨a, natK_eq _ _, Nat.le_refl _, ?_⟩
    rcases Nat.le_total a b with h' | h'
    · rw [Nat.ble_eq_true_of_le h'] at h; cases h
    · exact h'
theorem stIteK_ok {R : Type} (lv : List Nat) (s0 : S) (t : E) (a b : S) (fail : R) (K : S → R) : stIteK lv s0 t a b fail K = fail ∨ ∃ m, stIteK lv s0 t a b fail K = K m ∧ Two s0 t a b m := by
  unfold stIteK
  rcases setsIteK_ok (t := t) (nx0 := s0.nx) (h0 := s0.heap) (h1 := a.heap) (h2 := b.heap) (g1 := a.log) (g2 := b.log) (a.log ++ b.log) [] fail _ (fun _ h => by cases h) with h | ⟨sets, h, i1, _, i3⟩
  · exact .inl h
  · rw [h]
    obtain ⟨sl, h2, h3⟩ := slIteK_ok (t := t) (s1 := a.slots) (s2 := b.slots) lv fun sl => putSetsK s0.heap sets fun heap => logK sets s0.log fun log => maxK a.nx b.nx fun nx => K ⟨sl, heap, nx, log⟩
    rw [h2, putSetsK_eq, logK_eq]
    obtain ⟨nx, h4, h5, h6⟩ := maxK_ok a.nx b.nx fun nx => K ⟨sl, putSets s0.heap sets, nx, sets.labels ++ s0.log⟩
    refine .inr ⟨_, h4, fun ρ β β' nt a' w w' hs => ⟨fun ht hg => ?_, fun ht hg => ?_⟩⟩
    · refine half hs hg (fun n v hv => ?_) (fun p hp => ?_) (fun l hl hn => i3 l (List.mem_append_left _ hl) hn) h5
      · obtain ⟨v1, v2, e1, e2, e3⟩ := h3 n v hv
        have := svIte_ok (ρ := ρ) e3
        exact ⟨v1, e1, this.yes ht, this.ba⟩
      · obtain ⟨h7, x, y, e1, e2, e3⟩ := i1 p hp
        exact ⟨⟨x, e1, (entIte_ok e3).1 ht⟩, h7⟩
    · refine half hs hg (fun n v hv => ?_) (fun p hp => ?_) (fun l hl hn => i3 l (List.mem_append_right _ hl) hn) h6
      · obtain ⟨v1, v2, e1, e2, e3⟩ := h3 n v hv
        have := svIte_ok (ρ := ρ) e3
        exact ⟨v2, e2, this.no ht, this.bb⟩
      · obtain ⟨h7, x, y, e1, e2, e3⟩ := i1 p hp
        exact ⟨⟨y, e2, (entIte_ok e3).2 ht⟩, h7⟩
theorem exclE_ok {ρ : Env} {t x : E} (h : exclE t x = true) (hx : x.den ρ ≠ 0) : t.den ρ = 0 := by
  unfold exclE at h
  split at h
  · rename_i a n
    split at h
    · rename_i b m
      split at h
      · cases h
      · rename_i hne
        have hne := ieq_ne hne
        have hs := E.same_eq h
        subst hs
        have hb : a.den ρ = m := by
          by_cases hb : a.den ρ = m
          · exact hb
          · exfalso; simp [E.den, BO.den, hb] at hx
        simp [E.den, BO.den, hb, Ne.symm hne]
    · cases h
  · cases h
theorem splitW_ok {ρ : Env} {t : E} : ∀ {l p q : List Way}, splitW t l = some (p, q) → ∀ x ∈ l, (∀ y ∈ x.1, (y.1.den ρ ≠ 0 ↔ y.2 = true)) → ∃ x', x'.2 = x.2 ∧ (∀ y ∈ x'.1, (y.1.den ρ ≠ 0 ↔ y.2 = true)) ∧ ((t.den ρ ≠ 0 ∧ x' ∈ p) ∨ (t.den ρ = 0 ∧ x' ∈ q))
  | [], p, q, h, x, hx, _ => by cases hx
  | ([], s) :: r, p, q, h, x, hx, _ => by simp [splitW] at h
  | ((e, b) :: ts, s) :: r, p, q, h, x, hx, ht => by
    simp only [splitW] at h
    split at h
    · rename_i p' q' hs hr
      have hs := E.same_eq hs
      subst hs
      rcases List.mem_cons.1 hx with rfl | hx
      · have h1 := ht _ (List.mem_cons_self ..)
        refine ⟨(ts, s), rfl, fun y hy => ht y (List.mem_cons_of_mem _ hy), ?_⟩
        cases b with
        | true => cases h; exact .inl ⟨h1.2 rfl, List.mem_cons_self ..⟩
        | false =>
          cases h
          refine .inr ⟨?_, List.mem_cons_self ..⟩
          by_cases h0 : e.den ρ = 0
          · exact h0
          · exact absurd (h1.1 h0) (by simp)
      · obtain ⟨x', e1, e2, e3⟩ := splitW_ok hr x hx ht
        refine ⟨x', e1, e2, ?_⟩
        cases b with
        | true => cases h; exact e3.imp (fun h => ⟨h.1, List.mem_cons_of_mem _ h.2⟩) id
        | false => cases h; exact e3.imp id fun h => ⟨h.1, List.mem_cons_of_mem _ h.2⟩
    · rename_i p' q' hs hr
      cases b with
      | false => cases h
      | true =>
        simp only at h
        split at h
        · rename_i hex
          cases h
          rcases List.mem_cons.1 hx with rfl | hx
          · have h1 := ht _ (List.mem_cons_self ..)
            exact ⟨_, rfl, ht, .inr ⟨exclE_ok hex (h1.2 rfl), List.mem_cons_self ..⟩⟩
          · obtain ⟨x', e1, e2, e3⟩ := splitW_ok hr x hx ht
            exact ⟨x', e1, e2, e3.imp id fun h => ⟨h.1, List.mem_cons_of_mem _ h.2⟩⟩
        · cases h
    · cases h
/-- A state that stands for that of each way that is gone. -/
def Each (s0 : S) (l : List Way) (m : S) : Prop := ∀ (ρ : Env) (β β' : Lab) (nt : Nat) (a' : Act) (w w' : World), SatH ρ β s0.nx s0.heap.get w →
  ∀ x ∈ l, (∀ y ∈ x.1, (y.1.den ρ ≠ 0 ↔ y.2 = true)) → Goes ρ β nt s0 w β' x.2 a' w' → Goes ρ β nt s0 w β' m a' w'
theorem mergeK_ok {R : Type} (lv : List Nat) (s0 : S) : ∀ (n : Nat) (l : List Way) (fail : R) (K : S → R), mergeK lv s0 n l fail K = fail ∨ ∃ m, mergeK lv s0 n l fail K = K m ∧ Each s0 l m
  | 0, l, fail, K => .inl rfl
  | n + 1, l, fail, K => by
    unfold mergeK
    split
    · exact .inl rfl
    · rename_i ts s
      refine .inr ⟨s, rfl, fun ρ β β' nt a' w w' hs x hx _ hg => ?_⟩
      rw [List.mem_singleton.1 hx] at hg
      exact hg
    · exact .inl rfl
    · rename_i t b ts s y r
      split
      · exact .inl rfl
      · rename_i q hsp
        rcases mergeK_ok lv s0 n q fail K with h | ⟨m, h, hm⟩
        · exact .inl h
        · refine .inr ⟨m, h, fun ρ β β' nt a' w w' hs x hx ht hg => ?_⟩
          obtain ⟨x', e1, e2, e3⟩ := splitW_ok hsp x hx ht
          rcases e3 with ⟨_, e3⟩ | ⟨_, e3⟩
          · cases e3
          · exact hm ρ β β' nt a' w w' hs x' e3 e2 (by rw [e1]; exact hg)
      · rename_i p h1 hsp
        rcases mergeK_ok lv s0 n p fail K with h | ⟨m, h, hm⟩
        · exact .inl h
        · refine .inr ⟨m, h, fun ρ β β' nt a' w w' hs x hx ht hg => ?_⟩
          obtain ⟨x', e1, e2, e3⟩ := splitW_ok hsp x hx ht
          rcases e3 with ⟨_, e3⟩ | ⟨_, e3⟩
          · exact hm ρ β β' nt a' w w' hs x' e3 e2 (by rw [e1]; exact hg)
          · cases e3
      · rename_i o p q h1 h2 hsp
        rcases mergeK_ok lv s0 n p fail fun a => mergeK lv s0 n q fail fun c => stIteK lv s0 t a c fail K with h | ⟨a, h, ha⟩
        · exact .inl h
        · rw [h]
          rcases mergeK_ok lv s0 n q fail fun c => stIteK lv s0 t a c fail K with h | ⟨c, h, hc⟩
          · exact .inl h
          · rw [h]
            rcases stIteK_ok lv s0 t a c fail K with h | ⟨m, h, hm⟩
            · exact .inl h
            · refine .inr ⟨m, h, fun ρ β β' nt a' w w' hs x hx ht hg => ?_⟩
              obtain ⟨x', e1, e2, e3⟩ := splitW_ok hsp x hx ht
              have h2 := hm ρ β β' nt a' w w' hs
              rcases e3 with ⟨h0, e3⟩ | ⟨h0, e3⟩
              · exact h2.1 h0 (ha ρ β β' nt a' w w' hs x' e3 e2 (by rw [e1]; exact hg))
              · exact h2.2 h0 (hc ρ β β' nt a' w w' hs x' e3 e2 (by rw [e1]; exact hg))
theorem xkEq_eq {x y : XK} (h : xkEq x y = true) : x = y := by
  cases x <;> cases y <;> simp only [xkEq, Bool.false_eq_true] at h <;> first | rfl | (rw [Nat.eq_of_beq_eq_true h])
theorem newTs_ok {ρ : Env} {k0 k : Known} (h : Known.holds ρ k) : ∀ y ∈ newTs k0 k, (y.1.den ρ ≠ 0 ↔ y.2 = true) := by
  intro y hy
  unfold newTs at hy
  exact h.tr y (List.mem_of_mem_take (List.mem_reverse.1 hy))
theorem waysOf_ok {k0 : Known} {x : XK} : ∀ {outs : Outs} {ws : List Way}, waysOf k0 x outs = some ws → ∀ o ∈ outs, o.2.1 = x ∧ (newTs k0 o.1, o.2.2) ∈ ws
  | [], ws, h, o, ho => by cases ho
  | (k, y, s) :: r, ws, h, o, ho => by
    simp only [waysOf] at h
    split at h
    · rename_i l hx hl
      cases h
      rcases List.mem_cons.1 ho with rfl | ho
      · exact ⟨(xkEq_eq hx).symm, List.mem_cons_self ..⟩
      · have := waysOf_ok hl o ho
        exact ⟨this.1, List.mem_cons_of_mem _ this.2⟩
    · cases h
theorem mergeOuts_ok (lv : List Nat) (k0 : Known) (s0 : S) (outs : Outs) : mergeOuts lv k0 s0 outs = some outs ∨ ∃ x m, mergeOuts lv k0 s0 outs = some [(k0, x, m)] ∧ ∀ o ∈ outs, o.2.1 = x ∧ ∀ (ρ : Env), Known.holds ρ o.1 → ∀ (β β' : Lab) (nt : Nat) (a' : Act) (w w' : World), SatH ρ β s0.nx s0.heap.get w →
    Goes ρ β nt s0 w β' o.2.2 a' w' → Goes ρ β nt s0 w β' m a' w' := by
  unfold mergeOuts
  split
  · rename_i k x s y r
    split
    · rename_i ws hws
      rcases mergeK_ok lv s0 40 ws (some ((k, x, s) :: y :: r)) fun m => some [(k0, x, m)] with h | ⟨m, h, hm⟩
      · exact .inl h
      · refine .inr ⟨x, m, h, fun o ho => ?_⟩
        obtain ⟨h1, h2⟩ := waysOf_ok hws o ho
        exact ⟨h1, fun ρ hk β β' nt a' w w' hs hg => hm ρ β β' nt a' w w' hs _ h2 (newTs_ok hk) hg⟩
    · exact .inl rfl
  · exact .inl rfl
end
end Go.Sx
