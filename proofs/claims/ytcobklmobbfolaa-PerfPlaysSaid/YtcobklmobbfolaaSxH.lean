/-
  SX, PART 15: DRAWN REGIONS, SOUND: the facts of each operation, and the words for what is live.
-/
import Derived.Test.YtcobklmobbfolaaSxG
namespace Go.Sx
noncomputable section

/-! ### labels that a value names -/
def CV.allL (p : Nat → Prop) : CV → Prop
  | .ptr l _ => p l
  | .slc l _ _ _ => p l
  | .fn _ a b => (∀ x ∈ a, p x.1) ∧ (∀ x ∈ b, p x.1)
  | .opq i => p i
  | .tslc l _ _ _ _ => p l
  | .tptr l _ _ _ => p l
  | _ => True
def V1.allL (p : Nat → Prop) : V1 → Prop
  | .one c => c.allL p
  | .agg cs => ∀ c ∈ cs, CV.allL p c
def SV.allL (p : Nat → Prop) : SV → Prop
  | .v x => x.allL p
  | .tup xs => ∀ x ∈ xs, V1.allL p x
def Blk.allL (p : Nat → Prop) : Blk → Prop
  | .cells cs _ => ∀ c ∈ cs, CV.allL p c
  | .tab q _ _ _ => p q
theorem CV.below_iff {n : Nat} {c : CV} : c.below n ↔ c.allL (· < n) := by cases c <;> exact Iff.rfl
theorem V1.below_iff {n : Nat} {x : V1} : x.below n ↔ x.allL (· < n) := by
  cases x with
  | one c => exact CV.below_iff
  | agg cs => exact forall_congr' fun c => forall_congr' fun _ => CV.below_iff
theorem SV.below_iff {n : Nat} {x : SV} : x.below n ↔ x.allL (· < n) := by
  cases x with
  | v x => exact V1.below_iff
  | tup xs => exact forall_congr' fun c => forall_congr' fun _ => V1.below_iff
theorem Blk.below_iff {n : Nat} {x : Blk} : x.below n ↔ x.allL (· < n) := by
  cases x with
  | cells cs _ => exact forall_congr' fun c => forall_congr' fun _ => CV.below_iff
  | tab q _ _ _ => exact Iff.rfl
theorem CV.allL_mono {p q : Nat → Prop} {c : CV} (h : ∀ l, p l → q l) (hc : c.allL p) : c.allL q := by
  cases c <;> simp only [CV.allL] at hc ⊢ <;> first | exact h _ hc | exact ⟨fun x hx => h _ (hc.1 x hx), fun x hx => h _ (hc.2 x hx)⟩
theorem V1.allL_mono {p q : Nat → Prop} {c : V1} (h : ∀ l, p l → q l) (hc : c.allL p) : c.allL q := by
  cases c with
  | one c => exact CV.allL_mono h hc
  | agg cs => exact fun c hm => CV.allL_mono h (hc c hm)
theorem SV.allL_mono {p q : Nat → Prop} {c : SV} (h : ∀ l, p l → q l) (hc : c.allL p) : c.allL q := by
  cases c with
  | v c => exact V1.allL_mono h hc
  | tup cs => exact fun c hm => V1.allL_mono h (hc c hm)
theorem Blk.allL_mono {p q : Nat → Prop} {c : Blk} (h : ∀ l, p l → q l) (hc : c.allL p) : c.allL q := by
  cases c with
  | cells cs _ => exact fun c hm => CV.allL_mono h (hc c hm)
  | tab q _ _ _ => exact h _ hc
theorem CV.allL_and {p q : Nat → Prop} {c : CV} (h : c.allL p) (h' : c.allL q) : c.allL fun l => p l ∧ q l := by
  cases c <;> simp only [CV.allL] at h h' ⊢ <;> first | exact ⟨h, h'⟩ | exact ⟨fun x hx => ⟨h.1 x hx, h'.1 x hx⟩, fun x hx => ⟨h.2 x hx, h'.2 x hx⟩⟩
theorem CV.allL_forall {ι : Type} {p : ι → Nat → Prop} {c : CV} (h : ∀ i, c.allL (p i)) : c.allL fun l => ∀ i, p i l := by
  cases c <;> simp only [CV.allL] at h ⊢ <;> first | exact h | exact ⟨fun x hx i => (h i).1 x hx, fun x hx i => (h i).2 x hx⟩
theorem V1.allL_forall {ι : Type} {p : ι → Nat → Prop} {c : V1} (h : ∀ i, c.allL (p i)) : c.allL fun l => ∀ i, p i l := by
  cases c with
  | one c => exact CV.allL_forall h
  | agg cs => exact fun c hm => CV.allL_forall fun i => h i c hm
theorem SV.allL_forall {ι : Type} {p : ι → Nat → Prop} {c : SV} (h : ∀ i, c.allL (p i)) : c.allL fun l => ∀ i, p i l := by
  cases c with
  | v c => exact V1.allL_forall h
  | tup cs => exact fun c hm => V1.allL_forall fun i => h i c hm
theorem Blk.allL_forall {ι : Type} {p : ι → Nat → Prop} {c : Blk} (h : ∀ i, c.allL (p i)) : c.allL fun l => ∀ i, p i l := by
  cases c with
  | cells cs _ => exact fun c hm => CV.allL_forall fun i => h i c hm
  | tab q _ _ _ => exact h
theorem f_allL {β β' : Lab} {l : Nat} (h : β'.b l = β.b l ∧ β'.o l = β.o l) : β'.f l = β.f l := by unfold Lab.f; rw [h.2]
theorem CV.den_allL {p : Nat → Prop} {ρ : Env} {β β' : Lab} (h : ∀ l, p l → β'.b l = β.b l ∧ β'.o l = β.o l) {c : CV} (hc : c.allL p) : c.den ρ β' = c.den ρ β := by
  have pts : ∀ ps : List (Nat × Nat), (∀ x ∈ ps, p x.1) → ps.map β'.pt = ps.map β.pt := fun ps hp => List.map_congr_left fun x hx => by simp only [Lab.pt, (h x.1 (hp x hx)).1]
  cases c <;> simp only [CV.allL, CV.den] at hc ⊢ <;> first | rw [(h _ hc).1, f_allL (h _ hc)] | rw [(h _ hc).1] | rw [(h _ hc).2] | rw [pts _ hc.1, pts _ hc.2]
theorem V1.den_allL {p : Nat → Prop} {ρ : Env} {β β' : Lab} (h : ∀ l, p l → β'.b l = β.b l ∧ β'.o l = β.o l) {c : V1} (hc : c.allL p) : c.den ρ β' = c.den ρ β := by
  cases c with
  | one c => exact CV.den_allL h hc
  | agg cs => simp only [V1.den]; rw [List.map_congr_left fun c hm => CV.den_allL h (hc c hm)]
theorem SV.den_allL {p : Nat → Prop} {ρ : Env} {β β' : Lab} (h : ∀ l, p l → β'.b l = β.b l ∧ β'.o l = β.o l) {c : SV} (hc : c.allL p) : c.den ρ β' = c.den ρ β := by
  cases c with
  | v c => exact V1.den_allL h hc
  | tup cs => simp only [SV.den]; rw [List.map_congr_left fun c hm => V1.den_allL h (hc c hm)]
theorem Blk.sat_allL {p : Nat → Prop} {ρ : Env} {β β' : Lab} (h : ∀ l, p l → β'.b l = β.b l ∧ β'.o l = β.o l) {b : Nat} {w w' : World} {x : Blk} (hx : x.allL p) (hw : w'.heap[b]? = w.heap[b]?) (hs : x.sat ρ β b w) : x.sat ρ β' b w' := by
  cases x with
  | cells cs ty =>
    simp only [Blk.sat] at hs ⊢
    rw [hw, hs, List.map_congr_left fun c hm => CV.den_allL h (hx c hm)]
  | tab q t n ks =>
    intro i hi j k hk
    rw [f_allL (h q hx), ← hs i hi j k hk]
    simp only [World.cell?, hw]
def Out (lo hi l : Nat) : Prop := ¬ (lo ≤ l ∧ l < hi)
theorem out_of {lo hi l : Nat} (h : (!(Nat.ble lo l && Nat.blt l hi)) = true) : Out lo hi l := by
  rintro ⟨h1, h2⟩
  have e1 : Nat.ble lo l = true := Nat.ble_eq.mpr h1
  have e2 : Nat.blt l hi = true := by simpa [Nat.blt_eq] using h2
  rw [e1, e2] at h
  cases h
theorem CV.avoid_ok {lo hi : Nat} {c : CV} (h : c.avoid lo hi = true) : c.allL (Out lo hi) := by
  cases c <;> simp only [CV.avoid, CV.allL] at h ⊢ <;> first
    | exact out_of h
    | (simp only [Bool.and_eq_true, List.all_eq_true] at h; exact ⟨fun x hx => out_of (h.1 x hx), fun x hx => out_of (h.2 x hx)⟩)
theorem V1.avoid_ok {lo hi : Nat} {c : V1} (h : c.avoid lo hi = true) : c.allL (Out lo hi) := by
  cases c with
  | one c => exact CV.avoid_ok h
  | agg cs => exact fun c hm => CV.avoid_ok (List.all_eq_true.1 h c hm)
theorem SV.avoid_ok {lo hi : Nat} {c : SV} (h : c.avoid lo hi = true) : c.allL (Out lo hi) := by
  cases c with
  | v c => exact V1.avoid_ok h
  | tup cs => exact fun c hm => V1.avoid_ok (List.all_eq_true.1 h c hm)
theorem Blk.avoid_ok {lo hi : Nat} {c : Blk} (h : c.avoid lo hi = true) : c.allL (Out lo hi) := by
  cases c with
  | cells cs _ => exact fun c hm => CV.avoid_ok (List.all_eq_true.1 h c hm)
  | tab q _ _ _ => exact out_of h

theorem reach_sub : ∀ (n : Nat) (view : T Ent) (ls : List Nat) (acc : T Ent), (∀ l x, acc.get l = some x → view.get l = some x) → ∀ l x, (reach n view ls acc).get l = some x → view.get l = some x
  | 0, view, ls, acc, h, l, x, hx => h l x hx
  | n + 1, view, [], acc, h, l, x, hx => h l x hx
  | n + 1, view, m :: r, acc, h, l, x, hx => by
    unfold reach at hx
    split at hx
    · exact reach_sub n view r acc h l x hx
    · split at hx
      · rename_i y hy
        refine reach_sub n view _ _ (fun l' x' hl' => ?_) l x hx
        rcases T.get_put 40 acc m l' y x' hl' with ⟨rfl, rfl⟩ | ⟨_, e⟩
        · exact hy
        · exact h l' x' e
      · exact reach_sub n view r acc h l x hx
theorem leaf_sub {view : T Ent} : ∀ l x, (T.leaf : T Ent).get l = some x → view.get l = some x := fun l x h => by cases h
theorem only_sub (view : T Ent) (m : Nat) : ∀ l x, (only view m).get l = some x → view.get l = some x := by
  intro l x h
  unfold only at h
  split at h
  · rename_i y hy
    rcases T.get_put 40 .leaf m l y x h with ⟨rfl, rfl⟩ | ⟨_, e⟩
    · exact hy
    · cases e
  · cases h
theorem needs_sub (ev : Ev) (view : T Ent) (o : Op) : ∀ l x, (needs ev view o).get l = some x → view.get l = some x := by
  unfold needs
  split
  · split
    · exact only_sub _ _
    · split
      · exact only_sub _ _
      · exact leaf_sub
  · split
    · exact only_sub _ _
    · exact leaf_sub
  · split
    · exact reach_sub _ _ _ _ leaf_sub
    · exact reach_sub _ _ _ _ leaf_sub
  · exact leaf_sub
theorem hv_sub {ev : Ev} {view : T Ent} {o : Op} : ∀ l x, (match touches o with | true => needs ev view o | false => .leaf : T Ent).get l = some x → view.get l = some x := by
  split
  · exact needs_sub _ _ _
  · exact leaf_sub
/-! ### what the run says of each operation -/
section
variable {P : Program} {ty : Tys} (hty : TysOk P ty) {ρ : Env}
structure DEok (P : Program) (ρ : Env) (all : List Oper) (heap0 : T Ent) (prev : List DE) (slots : Sl) (nx : Nat) (d : DE) : Prop where
  bef : d.bef = befOf (prev.map (·.bef)) d.o.after.toList
  n0 : d.n0 = nx
  rs : d.rs = restrict slots (d.o.looksAt all.toArray) .nil
  hv : ∀ l x, d.hv.get l = some x → (viewOf d.bef prev 0 heap0).get l = some x
  guard : ∀ (β : Lab) (n : Nat) (a : Act), SatA ρ β n d.rs.get a → Region.wanted d.o (yielded all.toArray a.tmps) = d.want
  yes : d.want = true → OGood P ρ (evOf d.rs.get) d.hv.get d.n0 d.o d.e
  no : d.want = false → d.e = ⟨undefSV, [], d.n0⟩
def DChain (P : Program) (ρ : Env) (all : List Oper) (heap0 : T Ent) : List DE → Sl → Nat → List DE → Sl → Prop
  | _, slots, _, [], fin => fin = slots
  | prev, slots, nx, d :: r, fin => DEok P ρ all heap0 prev slots nx d ∧ DChain P ρ all heap0 (prev ++ [d]) (putSlot slots d.o.dst d.e.res) d.e.nx r fin
include hty in
theorem drawRun_ok {callF : CallF} (hc : CallOk P ρ callF) {fnm : FuncId → Option Func} (hfn : FnOk P fnm) (hdom : ∀ f args heap nx k l, callF f args heap nx k = some l → ∃ g, fnm f = some g ∧ g.body.isSome = true) {all : List Oper} {heap0 : T Ent} :
    ∀ (ops : List Oper) (prev : List DE) (k : Known) (slots : Sl) (nx : Nat) (l : List (Known × (List DE × Sl))), drawRun ty callF all heap0 ops prev k slots nx = some l →
      AltsOk ρ k l fun x => ∃ new, x.1 = prev ++ new ∧ new.map (·.o) = ops ∧ DChain P ρ all heap0 prev slots nx new x.2
  | [], prev, k, slots, nx, l, h => by
    simp only [drawRun] at h
    cases h
    exact AltsOk.single fun _ => ⟨[], by simp, rfl, rfl⟩
  | o :: r, prev, k, slots, nx, l, h => by
    simp only [drawRun, bindS_eq, natK_eq, restrictK_eq, tK_eq ent1K_eq, Known.whK_eq, Eff.deepK_eq, putSlotK_eq, listK_eq DE.plainK_eq] at h
    split at h
    · cases h
    · rename_i gs hgs
      refine (guard_ok hgs).bind h fun k' b ys hys => ?_
      split at hys
      · split at hys
        · cases hys
        · rename_i es hes
          refine (op_ok hty hc hfn hdom hes).bind hys fun k'' e zs hzs => ?_
          refine (drawRun_ok hc hfn hdom r _ k'' _ _ zs hzs).weaken fun x hx he hg => ?_
          obtain ⟨new, h1, h2, h3⟩ := hx
          refine ⟨_ :: new, by rw [h1, List.append_assoc]; rfl, by rw [List.map_cons, h2], ⟨rfl, rfl, rfl, ?_, ?_, ?_, ?_⟩, h3⟩
          · exact hv_sub
          · intro β n a hs; rw [hg β n a hs]
          · intro _; exact he
          · intro hh; cases hh
      · refine (drawRun_ok hc hfn hdom r _ k' _ _ ys hys).weaken fun x hx hg => ?_
        obtain ⟨new, h1, h2, h3⟩ := hx
        refine ⟨_ :: new, by rw [h1, List.append_assoc]; rfl, by rw [List.map_cons, h2], ⟨rfl, rfl, rfl, ?_, ?_, ?_, ?_⟩, h3⟩
        · exact hv_sub
        · intro β n a hs; rw [hg β n a hs]
        · intro hh; cases hh
        · intro _; rfl
end
def slotsAfter (slots : Sl) (ds : List DE) : Sl := ds.foldl (fun t d => putSlot t d.o.dst d.e.res) slots
theorem lastNx_append (nx : Nat) : ∀ (ds : List DE) (d : DE), lastNx nx (ds ++ [d]) = d.e.nx
  | [], _ => rfl
  | x :: r, d => lastNx_append x.e.nx r d
theorem DChain.get {P : Program} {ρ : Env} {all : List Oper} {heap0 : T Ent} : ∀ {ds prev : List DE} {slots : Sl} {nx : Nat} {fin : Sl}, DChain P ρ all heap0 prev slots nx ds fin →
    fin = slotsAfter slots ds ∧ ∀ i d, ds[i]? = some d → DEok P ρ all heap0 (prev ++ ds.take i) (slotsAfter slots (ds.take i)) (lastNx nx (ds.take i)) d
  | [], prev, slots, nx, fin, h => ⟨h, fun i d hd => by simp at hd⟩
  | d :: r, prev, slots, nx, fin, h => by
    obtain ⟨h1, h2⟩ := h
    have ih := h2.get
    refine ⟨ih.1, fun i d' hd => ?_⟩
    cases i with
    | zero =>
      simp only [List.getElem?_cons_zero, Option.some.injEq] at hd
      subst hd
      simpa [slotsAfter, lastNx] using h1
    | succ i =>
      simp only [List.getElem?_cons_succ] at hd
      have := ih.2 i d' hd
      simpa [slotsAfter, lastNx, List.append_assoc] using this
end
end Go.Sx
