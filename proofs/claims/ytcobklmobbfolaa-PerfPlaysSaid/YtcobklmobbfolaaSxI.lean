/-
  SX, PART 16: DRAWN REGIONS, SOUND: small laws.
-/
import Derived.Test.YtcobklmobbfolaaSxH
namespace Go.Sx
noncomputable section

section maps
variable {α δ : Type}
theorem foldD_mono {D : Nat → Bool} {f : δ → List (Nat × α)} {l : Nat} {x : α} : ∀ {ds : List δ} {i : Nat} {g g' : Nat → Option α}, (∀ y, g l = some y → g' l = some y) → foldD D f ds i g l = some x → foldD D f ds i g' l = some x
  | [], _, _, _, h, hx => h _ hx
  | d :: r, i, g, g', h, hx => by
    simp only [foldD] at hx ⊢
    refine foldD_mono (fun y hy => ?_) hx
    split
    · rename_i hD
      rw [if_pos hD] at hy
      unfold pset at hy ⊢
      split at hy
      · exact hy
      · exact h y hy
    · rename_i hD
      rw [if_neg hD] at hy
      exact h y hy
theorem foldD_cases {D : Nat → Bool} {f : δ → List (Nat × α)} {l : Nat} {x : α} : ∀ {ds : List δ} {i : Nat} {g : Nat → Option α}, foldD D f ds i g l = some x →
    g l = some x ∨ ∃ j d, ds[j]? = some d ∧ D (i + j) = true ∧ l ∈ plabels (f d) ∧ pfind l (f d) = some x
  | [], _, _, h => .inl h
  | d :: r, i, g, h => by
    simp only [foldD] at h
    rcases foldD_cases h with h | ⟨j, d', h1, h2, h3, h4⟩
    · by_cases hD : D i = true
      · rw [if_pos hD] at h
        by_cases hm : l ∈ plabels (f d)
        · rw [pset_mem hm] at h
          exact .inr ⟨0, d, rfl, by simpa using hD, hm, h⟩
        · rw [pset_not_mem hm] at h
          exact .inl h
      · rw [if_neg hD] at h
        exact .inl h
    · exact .inr ⟨j + 1, d', by simpa using h1, by rw [show i + (j + 1) = i + 1 + j by omega]; exact h2, h3, h4⟩
theorem foldD_take {f : δ → List (Nat × α)} (D : Nat → Bool) (ds : List δ) (i : Nat) (g : Nat → Option α) (l : Nat) : foldD D f (ds.take i) 0 g l = foldD (fun j => decide (j < i) && D j) f ds 0 g l := by
  have h := foldD_append (fun j => decide (j < i) && D j) f (ds.take i) (ds.drop i) 0 g
  rw [List.take_append_drop] at h
  rw [h]
  have h1 : foldD (fun j => decide (j < i) && D j) f (ds.drop i) (0 + (ds.take i).length) (foldD (fun j => decide (j < i) && D j) f (ds.take i) 0 g) l = foldD (fun j => decide (j < i) && D j) f (ds.take i) 0 g l := by
    have none_ : ∀ (r : List δ) (m : Nat) (g : Nat → Option α), (∀ j, j < r.length → i ≤ m + j) → foldD (fun j => decide (j < i) && D j) f r m g = g := by
      intro r
      induction r with
      | nil => intro m g _; rfl
      | cons d r ih =>
        intro m g hm
        have h0 := hm 0 (by simp)
        simp only [foldD]
        rw [if_neg (by simp; intro; omega)]
        exact ih _ _ fun j hj => by have := hm (j + 1) (by simpa using hj); omega
    rw [none_]
    intro j hj
    simp only [List.length_take, List.length_drop] at hj ⊢
    omega
  rw [h1]
  refine foldD_congr rfl fun j d hj hne => ?_
  exfalso
  have hlt : j < i := by
    have := (List.getElem?_eq_some_iff.1 hj).1
    simp only [List.length_take] at this
    omega
  simp [hlt] at hne
theorem pfind_append (l : Nat) : ∀ (s s' : List (Nat × α)), pfind l (s ++ s') = match pfind l s' with | some x => some x | none => pfind l s
  | [], s' => by simp only [List.nil_append, pfind]; cases pfind l s' <;> rfl
  | (l', x) :: r, s' => by
    simp only [List.cons_append, pfind, pfind_append l r s']
    cases pfind l s' <;> rfl
theorem pset_append (g : Nat → Option α) (s s' : List (Nat × α)) : pset g (s ++ s') = pset (pset g s) s' := by
  funext l
  simp only [pset, pfind_append]
  cases pfind l s' <;> rfl
end maps

def fS (d : DE) : List (Nat × SV) := match d.o.dst with | some t => [(t, d.e.res)] | none => []
def fH (d : DE) : List (Nat × Ent) := d.e.sets
theorem fS_mem {d : DE} {t : Nat} : t ∈ plabels (fS d) ↔ d.o.dst = some t := by
  unfold fS plabels
  cases d.o.dst with
  | none => simp
  | some t' => simp [eq_comm]
theorem fS_find {d : DE} {t : Nat} {v : SV} (h : pfind t (fS d) = some v) : v = d.e.res := by
  unfold fS at h
  cases hd : d.o.dst with
  | none => rw [hd] at h; cases h
  | some t' =>
    rw [hd] at h
    simp only [pfind] at h
    split at h
    · cases h; rfl
    · cases h
theorem putSlot_get {slots : Sl} {d : DE} {t : Nat} {v : SV} (h : (putSlot slots d.o.dst d.e.res).get t = some v) : pset slots.get (fS d) t = some v := by
  unfold putSlot at h
  unfold fS pset
  cases hd : d.o.dst with
  | none => rw [hd] at h; simpa [pfind] using h
  | some t' =>
    rw [hd] at h
    rcases Sl.get_put slots t' t _ v h with ⟨rfl, rfl⟩ | ⟨hne, h⟩
    · simp [pfind]
    · have hb : Nat.beq t t' = false := by
        cases hb : Nat.beq t t'
        · rfl
        · exact absurd (Nat.eq_of_beq_eq_true hb) hne
      simp [pfind, hb, h]
theorem slotsAfter_get {t : Nat} {v : SV} : ∀ {ds : List DE} {slots : Sl} {i : Nat}, (slotsAfter slots ds).get t = some v → foldD (fun _ => true) fS ds i slots.get t = some v
  | [], _, _, h => h
  | d :: r, slots, i, h => by
    simp only [foldD, if_true]
    refine foldD_mono (fun y hy => putSlot_get hy) (slotsAfter_get (ds := r) (slots := putSlot slots d.o.dst d.e.res) (i := i + 1) h)
theorem viewOf_get {bef l : Nat} {x : Ent} : ∀ {ds : List DE} {i : Nat} {h : T Ent}, (viewOf bef ds i h).get l = some x → foldD (tb bef) fH ds i h.get l = some x
  | [], _, _, hx => hx
  | d :: r, i, h, hx => by
    simp only [viewOf] at hx
    simp only [foldD]
    refine foldD_mono (fun y hy => ?_) (viewOf_get hx)
    by_cases hb : tb bef i = true
    · rw [if_pos hb] at hy ⊢
      have := putSets_get _ _ _ _ hy
      rw [Heap.set_eq] at this
      exact this
    · rw [if_neg hb] at hy ⊢
      exact hy
theorem putAll_get {l : Nat} {x : Ent} : ∀ {ds : List DE} {i : Nat} {h : T Ent}, (putAll h ds).get l = some x → foldD (fun _ => true) fH ds i h.get l = some x
  | [], _, _, hx => hx
  | d :: r, i, h, hx => by
    simp only [putAll] at hx
    simp only [foldD, if_true]
    refine foldD_mono (fun y hy => ?_) (putAll_get hx)
    have := putSets_get _ _ _ _ hy
    rw [Heap.set_eq] at this
    exact this
theorem restrict_get {slots : Sl} {t : Nat} {v : SV} : ∀ {rd : List Tmp} {t0 : Sl}, (restrict slots rd t0).get t = some v → (t ∈ rd ∧ slots.get t = some v) ∨ t0.get t = some v
  | [], t0, h => .inr h
  | x :: r, t0, h => by
    simp only [restrict] at h
    rcases restrict_get h with ⟨h1, h2⟩ | h
    · exact .inl ⟨List.mem_cons_of_mem _ h1, h2⟩
    · split at h
      · rename_i v' hv'
        rcases Sl.get_put t0 x t v' v h with ⟨rfl, rfl⟩ | ⟨_, h⟩
        · exact .inl ⟨List.mem_cons_self .., hv'⟩
        · exact .inr h
      · exact .inr h
theorem tb_eq (m i : Nat) : tb m i = m.testBit i := by
  unfold tb
  rw [Nat.testBit_eq_decide_div_mod_eq]
  show Nat.beq (m / 2 ^ i % 2) 1 = _
  cases hb : Nat.beq (m / 2 ^ i % 2) 1
  · simp only [Bool.false_eq, decide_eq_false_iff_not]
    intro h; rw [h] at hb; cases hb
  · simp only [Bool.true_eq, decide_eq_true_eq]
    exact Nat.eq_of_beq_eq_true hb
theorem befOf_ok {all : List Nat} {j : Nat} : ∀ {es : List Edge}, tb (befOf all es) j = true → ∃ e ∈ es, Region.binds .any e = true ∧ (j = e.on ∨ tb (all.getD e.on 0) j = true)
  | [], h => by rw [tb_eq] at h; simp [befOf] at h
  | e :: r, h => by
    simp only [befOf] at h
    split at h
    · rename_i hb
      rw [tb_eq] at h
      have h' : (Nat.testBit (2 ^ e.on) j = true ∨ Nat.testBit (all.getD e.on 0) j = true) ∨ Nat.testBit (befOf all r) j = true := by
        have : Nat.testBit ((2 ^ e.on ||| all.getD e.on 0) ||| befOf all r) j = true := h
        simpa [Nat.testBit_or, Bool.or_eq_true] using this
      rcases h' with (h | h) | h
      · rw [Nat.testBit_two_pow] at h
        exact ⟨e, List.mem_cons_self .., hb, .inl (by simpa [eq_comm] using h)⟩
      · exact ⟨e, List.mem_cons_self .., hb, .inr (by rw [tb_eq]; exact h)⟩
      · rw [← tb_eq] at h
        obtain ⟨e', h1, h2, h3⟩ := befOf_ok h
        exact ⟨e', List.mem_cons_of_mem _ h1, h2, h3⟩
    · obtain ⟨e', h1, h2, h3⟩ := befOf_ok h
      exact ⟨e', List.mem_cons_of_mem _ h1, h2, h3⟩

/-- What two operations keep. -/
structure POk (all : Array Oper) (a b : DE) : Prop where
  rd : ∀ t, a.o.dst = some t → t ∉ b.o.looksAt all
  ds : ∀ t, a.o.dst = some t → b.o.dst ≠ some t
  lab : ∀ l, l ∈ a.e.sets.labels → l ∉ b.e.sets.labels
  dom : ∀ l, l ∈ a.e.sets.labels → b.hv.get l = none
  res : a.e.res.allL (Out b.n0 b.e.nx)
  sets : ∀ x ∈ a.e.sets, x.2.blk.allL (Out b.n0 b.e.nx)
theorem dstNot_ok {d : Option Tmp} {l : List Tmp} (h : dstNot d l = true) : ∀ t, d = some t → t ∉ l := by
  intro t ht hm
  rw [ht] at h
  simp [dstNot] at h
  exact h hm
theorem clear_ok {h : T Ent} {s : Sets} (hc : clear h s = true) : ∀ l, l ∈ s.labels → h.get l = none := by
  intro l hl
  obtain ⟨x, hx, rfl⟩ := List.mem_map.1 hl
  simpa using List.all_eq_true.1 hc x hx
theorem avoid_ok {d : DE} {lo hi : Nat} (h : d.avoid lo hi = true) : d.e.res.allL (Out lo hi) ∧ ∀ x ∈ d.e.sets, x.2.blk.allL (Out lo hi) := by
  unfold DE.avoid at h
  simp only [Bool.and_eq_true, List.all_eq_true] at h
  exact ⟨SV.avoid_ok h.1, fun x hx => Blk.avoid_ok (h.2 x hx)⟩
theorem pairOk_ok {all : Array Oper} {a b : DE} (h : pairOk all a b = true) : POk all a b ∧ POk all b a := by
  unfold pairOk at h
  simp only [Bool.and_eq_true] at h
  obtain ⟨h1, h2, h3, h4, h5, h6, h7, h8⟩ := h
  have hd : ∀ t, a.o.dst = some t → b.o.dst ≠ some t := by
    intro t ha hb
    rw [ha, hb] at h3
    simp at h3
  have hl : ∀ l, l ∈ a.e.sets.labels → l ∉ b.e.sets.labels := by
    intro l ha hb
    obtain ⟨x, hx, rfl⟩ := List.mem_map.1 ha
    obtain ⟨y, hy, he⟩ := List.mem_map.1 hb
    have := List.all_eq_true.1 (List.all_eq_true.1 h4 x hx) y hy
    rw [he] at this
    simp at this
  have a7 := avoid_ok h7
  have a8 := avoid_ok h8
  exact ⟨⟨dstNot_ok h1, hd, hl, clear_ok h5, a7.1, a7.2⟩, ⟨dstNot_ok h2, fun t hb ha => hd t ha hb, fun l hb ha => hl l ha hb, clear_ok h6, a8.1, a8.2⟩⟩
theorem pairsOk_ok {all : Array Oper} : ∀ {ds : List DE} {m : Nat}, pairsOk all ds m = true → ∀ i j a b, i < j → ds[i]? = some a → ds[j]? = some b → tb b.bef (m + i) = true ∨ (POk all a b ∧ POk all b a)
  | [], m, _, i, j, a, b, _, hi, _ => by simp at hi
  | d :: r, m, h, i, j, a, b, hij, hi, hj => by
    simp only [pairsOk, Bool.and_eq_true] at h
    cases j with
    | zero => omega
    | succ j =>
      simp only [List.getElem?_cons_succ] at hj
      cases i with
      | zero =>
        simp only [List.getElem?_cons_zero, Option.some.injEq] at hi
        subst hi
        have := List.all_eq_true.1 h.1 b (List.mem_of_getElem? hj)
        simp only [Bool.or_eq_true] at this
        rcases this with h' | h'
        · exact .inl h'
        · exact .inr (pairOk_ok h')
      | succ i =>
        simp only [List.getElem?_cons_succ] at hi
        have := pairsOk_ok h.2 i j a b (by omega) hi hj
        rwa [show m + 1 + i = m + (i + 1) by omega] at this
theorem edgesOk_ok : ∀ {ops : List Oper} {m : Nat}, edgesOk ops m = true → ∀ i o, ops[i]? = some o → ∀ e ∈ o.after.toList, Region.binds .any e = true → e.on < m + i
  | [], m, _, i, o, hi => by simp at hi
  | d :: r, m, h, i, o, hi => by
    simp only [edgesOk, Bool.and_eq_true] at h
    intro e he hb
    cases i with
    | zero =>
      simp only [List.getElem?_cons_zero, Option.some.injEq] at hi
      subst hi
      have := List.all_eq_true.1 h.1 e he
      simp only [hb, Bool.not_true, Bool.false_or, Nat.blt_eq] at this
      omega
    | succ i =>
      simp only [List.getElem?_cons_succ] at hi
      have := edgesOk_ok h.2 i o hi e he hb
      omega
end
end Go.Sx
