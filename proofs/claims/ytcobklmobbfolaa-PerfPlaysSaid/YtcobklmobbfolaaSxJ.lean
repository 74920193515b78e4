/-
  SX, PART 17: DRAWN REGIONS, SOUND: whatever the order, the same state.
-/
import Derived.Test.YtcobklmobbfolaaSxI
namespace Go.Sx
noncomputable section

/-- What is known of the run of a drawn region, and of the state before it. -/
structure DCtx where
  P : Program
  ρ : Env
  ops : List Oper
  ds : List DE
  s : S
  nt : Nat
  β0 : Lab
  a0 : Act
  w0 : World
namespace DCtx
def nxa (C : DCtx) (i : Nat) : Nat := lastNx C.s.nx (C.ds.take i)
def live (C : DCtx) (D : Nat → Bool) (l : Nat) : Prop := l < C.s.nx ∨ ∃ j, j < C.ds.length ∧ D j = true ∧ C.nxa j ≤ l ∧ l < C.nxa (j + 1)
def sl (C : DCtx) (D : Nat → Bool) : Nat → Option SV := foldD D fS C.ds 0 C.s.slots.get
def hp (C : DCtx) (D : Nat → Bool) : Nat → Option Ent := foldD D fH C.ds 0 C.s.heap.get
def blocks (C : DCtx) : Nat → Prop := fun k => ∃ d, d ∈ C.ds ∧ ∃ l, l ∈ d.e.sets.labels ∧ l < C.s.nx ∧ C.β0.b l = k
structure Ok (C : DCtx) : Prop where
  s0 : SatS C.ρ C.β0 C.nt C.s C.a0 C.w0
  ops : C.ds.map (·.o) = C.ops
  de : ∀ i d, C.ds[i]? = some d → DEok C.P C.ρ C.ops C.s.heap (C.ds.take i) (slotsAfter C.s.slots (C.ds.take i)) (C.nxa i) d
  pairs : ∀ i j a b, i < j → C.ds[i]? = some a → C.ds[j]? = some b → tb b.bef i = true ∨ (POk C.ops.toArray a b ∧ POk C.ops.toArray b a)
  own : ∀ d ∈ C.ds, ∀ l ∈ d.e.sets.labels, l < C.s.nx → ∃ x, C.s.heap.get l = some x ∧ x.wr = true
  mono : ∀ d ∈ C.ds, d.n0 ≤ d.e.nx
  edges : ∀ i o, C.ops[i]? = some o → ∀ e ∈ o.after.toList, Region.binds .any e = true → e.on < i
  dst : ∀ o ∈ C.ops, ∀ t, o.dst = some t → t < C.nt
/-- When the operations that D names have been run. -/
structure Inv (C : DCtx) (D : Nat → Bool) (β : Lab) (a : Act) (w : World) : Prop where
  agree : C.β0.agree C.s.nx β
  down : ∀ i d, C.ds[i]? = some d → D i = true → ∀ j, tb d.bef j = true → D j = true
  slot : ∀ t v, C.sl D t = some v → v.allL (C.live D) ∧ a.tmps[t]? = some (v.den C.ρ β)
  sz : C.nt ≤ a.tmps.size
  defers : a.defers = []
  blk : ∀ l x, C.hp D l = some x → C.live D l ∧ x.blk.allL (C.live D) ∧ β.b l < w.heap.size ∧ x.blk.sat C.ρ β (β.b l) w
  inj : ∀ l l' x x', C.hp D l = some x → C.hp D l' = some x' → l ≠ l' → (x.wr || x'.wr) = true → β.b l ≠ β.b l'
  new : ∀ l x, C.hp D l = some x → C.s.nx ≤ l → C.w0.heap.size ≤ β.b l
  frm : Frm C.blocks C.w0 w
  bel : ∀ i d, C.ds[i]? = some d → D i = true → d.e.res.below d.e.nx ∧ ∀ l x, Sets.find l d.e.sets = some x → l < d.e.nx ∧ x.blk.below d.e.nx
variable {C : DCtx} (hC : C.Ok)

theorem nxa_zero (C : DCtx) : C.nxa 0 = C.s.nx := by simp [nxa, lastNx]
theorem nxa_succ (C : DCtx) {i : Nat} {d : DE} (h : C.ds[i]? = some d) : C.nxa (i + 1) = d.e.nx := by
  unfold nxa
  have hlt := (List.getElem?_eq_some_iff.1 h).1
  have he := (List.getElem?_eq_some_iff.1 h).2
  rw [List.take_succ_eq_append_getElem hlt, he, lastNx_append]
include hC in
theorem n0_eq {i : Nat} {d : DE} (h : C.ds[i]? = some d) : d.n0 = C.nxa i := (hC.de i d h).n0
include hC in
theorem nxa_step (i : Nat) : C.nxa i ≤ C.nxa (i + 1) := by
  cases h : C.ds[i]? with
  | some d =>
    rw [← n0_eq hC h, nxa_succ C h]
    exact hC.mono d (List.mem_of_getElem? h)
  | none =>
    have hle := List.getElem?_eq_none_iff.1 h
    unfold nxa
    rw [List.take_of_length_le (by omega), List.take_of_length_le (by omega)]
    exact Nat.le_refl _
include hC in
theorem nxa_mono {i j : Nat} (h : i ≤ j) : C.nxa i ≤ C.nxa j := by
  induction j with
  | zero => rw [show i = 0 by omega]; exact Nat.le_refl _
  | succ j ih =>
    rcases Nat.lt_or_ge i (j + 1) with h' | h'
    · exact Nat.le_trans (ih (by omega)) (nxa_step hC j)
    · rw [show i = j + 1 by omega]; exact Nat.le_refl _
theorem part (C : DCtx) : ∀ (j l : Nat), C.s.nx ≤ l → l < C.nxa j → ∃ i, i < j ∧ C.nxa i ≤ l ∧ l < C.nxa (i + 1)
  | 0, l, h1, h2 => by rw [nxa_zero] at h2; omega
  | j + 1, l, h1, h2 => by
    rcases Nat.lt_or_ge l (C.nxa j) with h | h
    · obtain ⟨i, hi, h3⟩ := part C j l h1 h
      exact ⟨i, by omega, h3⟩
    · exact ⟨j, by omega, h, h2⟩
/-- D, and i besides. -/
def plus (D : Nat → Bool) (i : Nat) : Nat → Bool := fun j => if j = i then true else D j
theorem plus_of {D : Nat → Bool} {i j : Nat} (h : D j = true) : plus D i j = true := by unfold plus; split <;> simp_all
theorem plus_self (D : Nat → Bool) (i : Nat) : plus D i i = true := by simp [plus]
theorem plus_ne {D : Nat → Bool} {i j : Nat} (h : j ≠ i) : plus D i j = D j := by simp [plus, h]
theorem live_mono {D D' : Nat → Bool} (h : ∀ j, D j = true → D' j = true) {l : Nat} (hl : C.live D l) : C.live D' l := by
  rcases hl with hl | ⟨j, h1, h2, h3⟩
  · exact .inl hl
  · exact .inr ⟨j, h1, h j h2, h3⟩

section step
variable {D : Nat → Bool} {β : Lab} {a : Act} {w : World} (hI : C.Inv D β a w) {i : Nat} {d : DE} (hd : C.ds[i]? = some d) (hDi : D i = false) (hdep : ∀ e ∈ d.o.after.toList, Region.binds .any e = true → D e.on = true)
include hC hd in
theorem ops_get : C.ops[i]? = some d.o := by rw [← hC.ops, List.getElem?_map, hd]; rfl
include hC hI hd hdep in
theorem befD {j : Nat} (h : tb d.bef j = true) : D j = true := by
  have hde := hC.de i d hd
  rw [hde.bef] at h
  obtain ⟨e, he, hb, h | h⟩ := befOf_ok h
  · rw [h]; exact hdep e he hb
  · have hlt := hC.edges i d.o (ops_get hC hd) e he hb
    have hDe := hdep e he hb
    have hlen : e.on < C.ds.length := by have := (List.getElem?_eq_some_iff.1 hd).1; omega
    have hde' : C.ds[e.on]? = some C.ds[e.on] := List.getElem?_eq_getElem hlen
    have hg : ((C.ds.take i).map (·.bef)).getD e.on 0 = C.ds[e.on].bef := by
      simp [List.getD, hlt, hde']
    rw [hg] at h
    exact hI.down _ _ hde' hDe j h
include hC hI hd hDi hdep in
/-- An operation that has been run though i does not wait for it, or that has not been run though it stands ahead: it and i keep clear. -/
theorem clash {j : Nat} {b : DE} (hb : C.ds[j]? = some b) (hne : j ≠ i) (h : ¬ (D j = true ∧ j < i ∧ tb d.bef j = true)) (h' : D j = true ∨ j < i) : POk C.ops.toArray d b ∧ POk C.ops.toArray b d := by
  rcases Nat.lt_trichotomy j i with hlt | heq | hgt
  · rcases hC.pairs j i b d hlt hb hd with ht | hp
    · exact absurd ⟨befD hC hI hd hdep ht, hlt, ht⟩ h
    · exact ⟨hp.2, hp.1⟩
  · exact absurd heq hne
  · rcases hC.pairs i j d b hgt hd hb with ht | hp
    · have hDj : D j = true := by
        rcases h' with h' | h'
        · exact h'
        · omega
      have := hI.down j b hb hDj i ht
      rw [hDi] at this; cases this
    · exact hp
include hC hI hd hDi hdep in
theorem read_slot {t : Nat} {v : SV} (h : d.rs.get t = some v) : v.below d.n0 ∧ a.tmps[t]? = some (v.den C.ρ β) := by
  have hde := hC.de i d hd
  rw [hde.rs] at h
  rcases restrict_get h with ⟨hrd, h⟩ | h
  · have h1 := slotsAfter_get (i := 0) h
    rw [foldD_take] at h1
    simp only [Bool.and_true] at h1
    have differ : ∀ j b, C.ds[j]? = some b → D j ≠ decide (j < i) → t ∉ plabels (fS b) := by
      intro j b hb hne hm
      have hji : j ≠ i := by rintro rfl; simp [hDi] at hne
      have hp := clash hC hI hd hDi hdep hb hji (by
        rintro ⟨h1, h2, _⟩
        simp [h1, h2] at hne) (by
        by_cases hlt : j < i
        · exact .inr hlt
        · left; simpa [hlt] using hne)
      exact hp.2.rd t (fS_mem.1 hm) hrd
    have h2 : C.sl D t = some v := by
      unfold sl
      rw [foldD_congr (D' := fun j => decide (j < i)) rfl (fun j b hb hne => differ j b hb (by simpa using hne))]
      exact h1
    refine ⟨?_, (hI.slot t v h2).2⟩
    rw [n0_eq hC hd]
    rcases foldD_cases h1 with h0 | ⟨j, b, hb, hlt, hm, hf⟩
    · have := (hC.s0.sa.slot t v h0).1
      exact SV.below_mono (by have := nxa_mono hC (Nat.zero_le i); rwa [nxa_zero] at this) this
    · simp only [Nat.zero_add, decide_eq_true_eq] at hlt
      have hDj : D j = true := by
        cases hDj : D j
        · exact absurd hm (differ j b hb (by simp [hDj, hlt]))
        · rfl
      rw [fS_find hf]
      have := (hI.bel j b hb hDj).1
      rw [← nxa_succ C hb] at this
      exact SV.below_mono (nxa_mono hC hlt) this
  · simp [Sl.get_nil] at h
include hC hI hd hDi hdep in
theorem view_sub {l : Nat} {x : Ent} (h : d.hv.get l = some x) : C.hp D l = some x ∧ l < d.n0 ∧ x.blk.below d.n0 := by
  have hde := hC.de i d hd
  have h0 := h
  have h := hde.hv l x h
  have h1 := viewOf_get h
  rw [foldD_take] at h1
  have h2 : C.hp D l = some x := by
    unfold hp
    rw [foldD_congr (D' := fun j => decide (j < i) && tb d.bef j) rfl]
    · exact h1
    · intro j b hb hne hm
      simp only [Nat.zero_add] at hne
      by_cases hji : j = i
      · subst hji; simp [hDi] at hne
      · by_cases hbit : j < i ∧ tb d.bef j = true
        · have := befD hC hI hd hdep hbit.2
          simp [hbit.1, hbit.2, this] at hne
        · have hDj : D j = true := by
            have : (decide (j < i) && tb d.bef j) = false := by simpa using hbit
            rw [this] at hne
            simpa using hne
          have hp := clash hC hI hd hDi hdep hb hji (fun hh => hbit ⟨hh.2.1, hh.2.2⟩) (.inl hDj)
          have := hp.2.dom l hm
          rw [h0] at this; cases this
  refine ⟨h2, ?_⟩
  rw [n0_eq hC hd]
  have hle0 : C.s.nx ≤ C.nxa i := by have := nxa_mono hC (Nat.zero_le i); rwa [nxa_zero] at this
  rcases foldD_cases h1 with h3 | ⟨j, b, hb, hlt, hm, hf⟩
  · have := hC.s0.sh.blk l x h3
    exact ⟨by omega, Blk.below_mono hle0 this.2.1⟩
  · simp only [Nat.zero_add, Bool.and_eq_true, decide_eq_true_eq] at hlt
    have hDj := befD hC hI hd hdep hlt.2
    have := (hI.bel j b hb hDj).2 l x (by rw [Sets.find_eq]; exact hf)
    rw [← nxa_succ C hb] at this
    have hm : C.nxa (j + 1) ≤ C.nxa i := nxa_mono hC hlt.1
    exact ⟨by omega, Blk.below_mono hm this.2⟩
include hC hI hd hDi hdep in
theorem view_sat : SatH C.ρ β d.n0 d.hv.get w := by
  refine ⟨fun l x h => ?_, fun l l' x x' h h' hne hw => ?_⟩
  · obtain ⟨h1, h2, h3⟩ := view_sub hC hI hd hDi hdep h
    have := hI.blk l x h1
    exact ⟨h2, h3, this.2.2⟩
  · exact hI.inj l l' x x' (view_sub hC hI hd hDi hdep h).1 (view_sub hC hI hd hDi hdep h').1 hne hw
include hC hI hd hDi hdep in
theorem read_ev : SatA C.ρ β d.n0 d.rs.get a := ⟨fun _ _ h => read_slot hC hI hd hDi hdep h, hI.defers⟩
/-- The labels of the block from lo to hi by one, the others by the other. -/
def merge (β β' : Lab) (lo hi : Nat) : Lab := ⟨fun l => if lo ≤ l ∧ l < hi then β'.b l else β.b l, fun l => if lo ≤ l ∧ l < hi then β'.o l else β.o l⟩
theorem merge_out {β β' : Lab} {lo hi l : Nat} (h : Out lo hi l) : (merge β β' lo hi).b l = β.b l ∧ (merge β β' lo hi).o l = β.o l := by
  simp only [merge, Out] at *
  rw [if_neg h, if_neg h]
  exact ⟨rfl, rfl⟩
theorem merge_lt {β β' : Lab} {lo hi l : Nat} (ha : β.agree lo β') (h : l < hi) : (merge β β' lo hi).b l = β'.b l ∧ (merge β β' lo hi).o l = β'.o l := by
  by_cases hl : lo ≤ l
  · simp only [merge, hl, h, and_self, if_true]
  · have := ha l (by omega)
    have hn : ¬ (lo ≤ l ∧ l < hi) := by omega
    simp only [merge, if_neg hn, this, and_self]
include hC hd hDi in
theorem live_out {l : Nat} (h : C.live D l) : Out d.n0 d.e.nx l := by
  rintro ⟨h1, h2⟩
  rw [n0_eq hC hd] at h1
  rw [← nxa_succ C hd] at h2
  have h0 : C.s.nx ≤ C.nxa i := by have := nxa_mono hC (Nat.zero_le i); rwa [nxa_zero] at this
  rcases h with h | ⟨j, hj, hDj, h3, h4⟩
  · omega
  · rcases Nat.lt_trichotomy j i with hlt | heq | hgt
    · have : C.nxa (j + 1) ≤ C.nxa i := nxa_mono hC hlt
      omega
    · subst heq; rw [hDi] at hDj; cases hDj
    · have : C.nxa (i + 1) ≤ C.nxa j := nxa_mono hC hgt
      omega
include hC hd in
/-- A label below i's last that lies in no block of one that i keeps clear of is live. -/
theorem live_of {l : Nat} (h : l < d.e.nx) (hout : ∀ j b, C.ds[j]? = some b → j < i → D j = false → Out b.n0 b.e.nx l) : C.live (plus D i) l := by
  by_cases h0 : l < C.s.nx
  · exact .inl h0
  · rw [← nxa_succ C hd] at h
    obtain ⟨j, hj, h1, h2⟩ := part C (i + 1) l (by omega) h
    have hlen : i < C.ds.length := (List.getElem?_eq_some_iff.1 hd).1
    refine .inr ⟨j, by omega, ?_, h1, h2⟩
    by_cases hji : j = i
    · rw [hji]; exact plus_self D i
    · rw [plus_ne hji]
      cases hDj : D j
      · exfalso
        have hb : C.ds[j]? = some C.ds[j] := List.getElem?_eq_getElem (by omega)
        refine hout j _ hb (by omega) hDj ⟨?_, ?_⟩
        · rw [n0_eq hC hb]; exact h1
        · rw [← nxa_succ C hb]; exact h2
      · rfl
include hC hI hd hDi hdep in
theorem res_live (hb : d.e.res.below d.e.nx) : d.e.res.allL (C.live (plus D i)) := by
  have h2 : d.e.res.allL fun l => ∀ q : { q : Nat × DE // C.ds[q.1]? = some q.2 ∧ q.1 < i ∧ D q.1 = false }, Out q.1.2.n0 q.1.2.e.nx l := by
    refine SV.allL_forall fun q => ?_
    obtain ⟨⟨j, b⟩, h1, h2, h3⟩ := q
    exact (clash hC hI hd hDi hdep h1 (by simp only at h2; omega) (by rintro ⟨h4, _⟩; simp only at h3; rw [h3] at h4; cases h4) (.inr h2)).1.res
  have h3 : d.e.res.allL fun l => ∀ q : Bool, (match q with | true => l < d.e.nx | false => ∀ q : { q : Nat × DE // C.ds[q.1]? = some q.2 ∧ q.1 < i ∧ D q.1 = false }, Out q.1.2.n0 q.1.2.e.nx l : Prop) := by
    refine SV.allL_forall fun q => ?_
    cases q
    · exact h2
    · exact SV.below_iff.1 hb
  refine SV.allL_mono (fun l hl => ?_) h3
  exact live_of hC hd (hl true) fun j b h1 h4 h5 => hl false ⟨(j, b), h1, h4, h5⟩
include hC hI hd hDi hdep in
theorem blk_live {l : Nat} {x : Ent} (hx : (l, x) ∈ d.e.sets) (hb : x.blk.below d.e.nx) : x.blk.allL (C.live (plus D i)) := by
  have h2 : x.blk.allL fun l => ∀ q : { q : Nat × DE // C.ds[q.1]? = some q.2 ∧ q.1 < i ∧ D q.1 = false }, Out q.1.2.n0 q.1.2.e.nx l := by
    refine Blk.allL_forall fun q => ?_
    obtain ⟨⟨j, b⟩, h1, h2, h3⟩ := q
    exact (clash hC hI hd hDi hdep h1 (by simp only at h2; omega) (by rintro ⟨h4, _⟩; simp only at h3; rw [h3] at h4; cases h4) (.inr h2)).1.sets _ hx
  have h3 : x.blk.allL fun l => ∀ q : Bool, (match q with | true => l < d.e.nx | false => ∀ q : { q : Nat × DE // C.ds[q.1]? = some q.2 ∧ q.1 < i ∧ D q.1 = false }, Out q.1.2.n0 q.1.2.e.nx l : Prop) := by
    refine Blk.allL_forall fun q => ?_
    cases q
    · exact h2
    · exact Blk.below_iff.1 hb
  refine Blk.allL_mono (fun l hl => ?_) h3
  exact live_of hC hd (hl true) fun j b h1 h4 h5 => hl false ⟨(j, b), h1, h4, h5⟩
theorem find_mem {l : Nat} {x : Ent} : ∀ {s : Sets}, pfind l s = some x → (l, x) ∈ s
  | [], h => by cases h
  | (l', y) :: r, h => by
    simp only [pfind] at h
    split at h
    · rename_i z hz
      cases h
      exact List.mem_cons_of_mem _ (find_mem hz)
    · split at h
      · rename_i hb
        cases h
        rw [Nat.eq_of_beq_eq_true hb]
        exact List.mem_cons_self ..
      · cases h
include hC hI hd hDi hdep in
theorem step {β' : Lab} {w' : World} (st : Step C.ρ β d.n0 d.hv.get w d.e.sets β' d.e.nx w') (hres : d.e.res.below d.e.nx) :
    C.Inv (plus D i) (merge β β' d.n0 d.e.nx) (a.put d.o.dst (d.e.res.den C.ρ β')) w' := by
  have hlen : i < C.ds.length := (List.getElem?_eq_some_iff.1 hd).1
  have hle0 : C.s.nx ≤ d.n0 := by rw [n0_eq hC hd]; have := nxa_mono hC (Nat.zero_le i); rwa [nxa_zero] at this
  have old : ∀ l, C.live D l → (merge β β' d.n0 d.e.nx).b l = β.b l ∧ (merge β β' d.n0 d.e.nx).o l = β.o l := fun l hl => merge_out (live_out hC hd hDi hl)
  have young : ∀ l, l < d.e.nx → (merge β β' d.n0 d.e.nx).b l = β'.b l ∧ (merge β β' d.n0 d.e.nx).o l = β'.o l := fun l hl => merge_lt st.agree hl
  have only : ∀ {α : Type} (f : DE → List (Nat × α)) (g : Nat → Option α) (l : Nat), l ∉ plabels (f d) → foldD (plus D i) f C.ds 0 g l = foldD D f C.ds 0 g l := by
    intro α f g l hl
    refine foldD_congr rfl fun j b hb hne => ?_
    simp only [Nat.zero_add] at hne
    by_cases hji : j = i
    · subst hji; rw [hd] at hb; cases hb; exact hl
    · rw [plus_ne hji] at hne; exact absurd rfl hne
  have later : ∀ j b, i < j → C.ds[j]? = some b → plus D i j = true → POk C.ops.toArray d b ∧ POk C.ops.toArray b d := by
    intro j b hij hb hDj
    rw [plus_ne (by omega)] at hDj
    exact clash hC hI hd hDi hdep hb (by omega) (by rintro ⟨_, h, _⟩; omega) (.inl hDj)
  have hslot : ∀ t, d.o.dst = some t → C.sl (plus D i) t = some d.e.res := by
    intro t ht
    unfold sl
    rw [foldD_last (m := i) hd (by simpa using plus_self D i) (fS_mem.2 ht) (fun j b hij hb hDj => fun hm => (later j b hij hb (by simpa using hDj)).1.ds t ht (fS_mem.1 hm))]
    simp [fS, ht, pfind]
  have hheap : ∀ l, l ∈ d.e.sets.labels → C.hp (plus D i) l = pfind l d.e.sets := by
    intro l hl
    unfold hp
    exact foldD_last (m := i) (f := fH) hd (by simpa using plus_self D i) hl (fun j b hij hb hDj => fun hm => (later j b hij hb (by simpa using hDj)).1.lab l hl hm)
  have hnot : ∀ l, l ∉ d.e.sets.labels → C.hp (plus D i) l = C.hp D l := fun l hl => only fH _ l hl
  have hin : ∀ l x, l ∈ d.e.sets.labels → pfind l d.e.sets = some x → l < d.e.nx ∧ x.blk.below d.e.nx ∧ β'.b l < w'.heap.size ∧ x.blk.sat C.ρ β' (β'.b l) w' := by
    intro l x hl hx
    exact st.sat.blk l x (by rw [Heap.set_of_mem hl, Sets.find_eq]; exact hx)
  have hown : ∀ l, l ∈ d.e.sets.labels → l < d.n0 → ∃ y, C.hp D l = some y ∧ y.wr = true := by
    intro l hl hn
    obtain ⟨y, hy, hw⟩ := st.own l hl hn
    exact ⟨y, (view_sub hC hI hd hDi hdep hy).1, hw⟩
  have hkeep : ∀ l x, C.hp D l = some x → l ∉ d.e.sets.labels → w'.heap[β.b l]? = w.heap[β.b l]? := by
    intro l x hx hl
    refine st.frm.old _ (hI.blk l x hx).2.2.1 ?_
    rintro ⟨l', hl', hn, he⟩
    obtain ⟨y, hy, hw⟩ := hown l' hl' hn
    exact hI.inj l' l y x hy hx (fun e => hl (e ▸ hl')) (by rw [hw]; rfl) he
  have liveD : ∀ l, C.live D l → C.live (plus D i) l := fun l hl => live_mono (fun j hj => plus_of hj) hl
  have labLive : ∀ l, l ∈ d.e.sets.labels → l < d.e.nx → C.live (plus D i) l := by
    intro l hl hlt
    by_cases hn : l < d.n0
    · obtain ⟨y, hy, _⟩ := hown l hl hn
      exact liveD l (hI.blk l y hy).1
    · have h1 : C.nxa i ≤ l := by rw [← n0_eq hC hd]; omega
      have h2 : l < C.nxa (i + 1) := by rw [nxa_succ C hd]; exact hlt
      exact .inr ⟨i, hlen, plus_self D i, h1, h2⟩
  refine ⟨fun l hl => ?_, fun j b hb hDj q hq => ?_, fun t v ht => ?_, ?_, ?_, fun l x hx => ?_, fun l l' x x' hx hx' hne hw => ?_, fun l x hx hl => ?_, ?_, fun j b hb hDj => ?_⟩
  · have := old l (.inl hl)
    rw [this.1, this.2]
    exact hI.agree l hl
  · by_cases hji : j = i
    · subst hji
      rw [hd] at hb; cases hb
      exact plus_of (befD hC hI hd hdep hq)
    · rw [plus_ne hji] at hDj
      exact plus_of (hI.down j b hb hDj q hq)
  · by_cases hm : d.o.dst = some t
    · rw [hslot t hm] at ht
      cases ht
      refine ⟨res_live hC hI hd hDi hdep hres, ?_⟩
      rw [SV.den_allL (p := (· < d.e.nx)) (fun l hl => young l hl) (SV.below_iff.1 hres), hm]
      have : t < a.tmps.size := Nat.lt_of_lt_of_le (hC.dst d.o (List.mem_of_getElem? (ops_get hC hd)) t hm) hI.sz
      simp [Act.put, this]
    · have h0 : C.sl (plus D i) t = C.sl D t := only fS _ t (fun h => hm (fS_mem.1 h))
      rw [h0] at ht
      obtain ⟨h1, h2⟩ := hI.slot t v ht
      refine ⟨SV.allL_mono liveD h1, ?_⟩
      rw [SV.den_allL old h1, ← h2]
      cases hdst : d.o.dst with
      | none => rfl
      | some t' =>
        simp only [Act.put]
        exact Array.getElem?_setIfInBounds_ne (fun e => hm (by rw [hdst, e]))
  · cases hdst : d.o.dst with
    | none => exact hI.sz
    | some t => simp only [Act.put, Array.size_setIfInBounds]; exact hI.sz
  · cases hdst : d.o.dst <;> exact hI.defers
  · by_cases hm : l ∈ d.e.sets.labels
    · rw [hheap l hm] at hx
      obtain ⟨h1, h2, h3, h4⟩ := hin l x hm hx
      refine ⟨labLive l hm h1, blk_live hC hI hd hDi hdep (find_mem hx) h2, by rw [(young l h1).1]; exact h3, ?_⟩
      rw [(young l h1).1]
      exact Blk.sat_allL (p := (· < d.e.nx)) (fun l hl => young l hl) (Blk.below_iff.1 h2) rfl h4
    · rw [hnot l hm] at hx
      obtain ⟨h1, h2, h3, h4⟩ := hI.blk l x hx
      refine ⟨liveD l h1, Blk.allL_mono liveD h2, by rw [(old l h1).1]; exact Nat.lt_of_lt_of_le h3 st.frm.size, ?_⟩
      rw [(old l h1).1]
      exact Blk.sat_allL old h2 (hkeep l x hx hm) h4
  · have one : ∀ l l' x x', C.hp (plus D i) l = some x → C.hp D l' = some x' → l ≠ l' → l ∈ d.e.sets.labels → l' ∉ d.e.sets.labels → (merge β β' d.n0 d.e.nx).b l ≠ (merge β β' d.n0 d.e.nx).b l' := by
      intro l l' x x' hx hx' hne hm hm'
      rw [hheap l hm] at hx
      have h1 := (hin l x hm hx).1
      have h2 := hI.blk l' x' hx'
      rw [(old l' h2.1).1]
      by_cases hn : l < d.n0
      · obtain ⟨y, hy, hyw⟩ := hown l hm hn
        rw [(old l (hI.blk l y hy).1).1]
        exact hI.inj l l' y x' hy hx' hne (by rw [hyw]; rfl)
      · rw [(young l h1).1]
        have := (st.new l hm (by omega)).1
        omega
    by_cases hm : l ∈ d.e.sets.labels <;> by_cases hm' : l' ∈ d.e.sets.labels
    · have e1 := hx; have e2 := hx'
      rw [hheap l hm] at e1
      rw [hheap l' hm'] at e2
      rw [(young l (hin l x hm e1).1).1, (young l' (hin l' x' hm' e2).1).1]
      exact st.sat.inj l l' x x' (by rw [Heap.set_of_mem hm, Sets.find_eq]; exact e1) (by rw [Heap.set_of_mem hm', Sets.find_eq]; exact e2) hne hw
    · rw [hnot l' hm'] at hx'
      exact one l l' x x' hx hx' hne hm hm'
    · rw [hnot l hm] at hx
      exact (one l' l x' x hx' hx (Ne.symm hne) hm' hm).symm
    · rw [hnot l hm] at hx
      rw [hnot l' hm'] at hx'
      rw [(old l (hI.blk l x hx).1).1, (old l' (hI.blk l' x' hx').1).1]
      exact hI.inj l l' x x' hx hx' hne hw
  · by_cases hm : l ∈ d.e.sets.labels
    · rw [hheap l hm] at hx
      have h1 := (hin l x hm hx).1
      by_cases hn : l < d.n0
      · obtain ⟨y, hy, _⟩ := hown l hm hn
        rw [(old l (hI.blk l y hy).1).1]
        exact hI.new l y hy hl
      · rw [(young l h1).1]
        have := (st.new l hm (by omega)).1
        have := hI.frm.size
        omega
    · rw [hnot l hm] at hx
      rw [(old l (hI.blk l x hx).1).1]
      exact hI.new l x hx hl
  · refine Frm.trans hI.frm st.frm fun k hk => ?_
    rintro ⟨l, hl, hn, he⟩
    by_cases h0 : l < C.s.nx
    · exact ⟨d, List.mem_of_getElem? hd, l, hl, h0, by rw [← (hI.agree l h0).1]; exact he⟩
    · obtain ⟨y, hy, _⟩ := hown l hl hn
      have := hI.new l y hy (by omega)
      omega
  · by_cases hji : j = i
    · subst hji
      rw [hd] at hb; cases hb
      refine ⟨hres, fun l x hx => ?_⟩
      have := hin l x (Sets.find_mem hx) (by rw [← Sets.find_eq]; exact hx)
      exact ⟨this.1, this.2.1⟩
    · rw [plus_ne hji] at hDj
      exact hI.bel j b hb hDj
end step
end DCtx
end
end Go.Sx
