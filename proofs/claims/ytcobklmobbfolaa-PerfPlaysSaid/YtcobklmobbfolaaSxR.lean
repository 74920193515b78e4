/-
  SX, PART 7: ALL OPERATIONS THAT LEAVE THE WORLD AS IT IS.
-/
import Derived.Test.YtcobklmobbfolaaSxQ
namespace Go.Sx
noncomputable section

/-- Alternatives: they cover what may be, add to what is known, and each is good where its facts hold. -/
def AltsOk {α : Type} (ρ : Env) (k : Known) (l : List (Known × α)) (Good : α → Prop) : Prop :=
  (Known.holds ρ k → ∃ x ∈ l, Known.holds ρ x.1) ∧ ∀ x ∈ l, Known.holds ρ x.1 → Known.holds ρ k ∧ Good x.2
theorem AltsOk.single {α : Type} {ρ : Env} {k : Known} {v : α} {Good : α → Prop} (h : Known.holds ρ k → Good v) : AltsOk ρ k [(k, v)] Good :=
  ⟨fun hk => ⟨_, List.mem_singleton.2 rfl, hk⟩, fun x hx hk => by rw [List.mem_singleton.1 hx] at hk ⊢; exact ⟨hk, h hk⟩⟩
theorem AltsOk.map {α α' : Type} {ρ : Env} {k : Known} {l : List (Known × α)} {Good : α → Prop} {Good' : α' → Prop} (h : AltsOk ρ k l Good) (g : α → α') (hg : ∀ x, Good x → Good' (g x)) :
    AltsOk ρ k (l.map fun x => (x.1, g x.2)) Good' := by
  refine ⟨fun hk => ?_, fun x hx hk => ?_⟩
  · obtain ⟨x, hx, hx'⟩ := h.1 hk
    exact ⟨_, List.mem_map.2 ⟨x, hx, rfl⟩, hx'⟩
  · obtain ⟨y, hy, rfl⟩ := List.mem_map.1 hx
    have := h.2 y hy hk
    exact ⟨this.1, hg _ this.2⟩

/-- map, where all have a value. -/
def mapO {α α' : Type} (g : α → Option α') : List (Known × α) → Option (List (Known × α'))
  | [] => some []
  | (k, x) :: r => match g x, mapO g r with | some y, some ys => some ((k, y) :: ys) | _, _ => none
theorem mapO_mem {α α' : Type} {g : α → Option α'} : ∀ {l : List (Known × α)} {l' : List (Known × α')}, mapO g l = some l' →
    (∀ x ∈ l, ∃ y, g x.2 = some y ∧ (x.1, y) ∈ l') ∧ ∀ y ∈ l', ∃ x, (y.1, x) ∈ l ∧ g x = some y.2
  | [], l', h => by
    cases h
    exact ⟨fun x hx => (by cases hx), fun y hy => (by cases hy)⟩
  | (k, x) :: r, l', h => by
    unfold mapO at h
    split at h
    · rename_i y ys hy hys
      cases h
      have ih := mapO_mem hys
      refine ⟨fun z hz => ?_, fun z hz => ?_⟩
      · rcases List.mem_cons.1 hz with rfl | hz
        · exact ⟨y, hy, List.mem_cons_self ..⟩
        · obtain ⟨y', h1, h2⟩ := ih.1 z hz
          exact ⟨y', h1, List.mem_cons_of_mem _ h2⟩
      · rcases List.mem_cons.1 hz with rfl | hz
        · exact ⟨x, List.mem_cons_self .., hy⟩
        · obtain ⟨x', h1, h2⟩ := ih.2 z hz
          exact ⟨x', List.mem_cons_of_mem _ h1, h2⟩
    · cases h
theorem AltsOk.mapO {α α' : Type} {ρ : Env} {k : Known} {l : List (Known × α)} {l' : List (Known × α')} {Good : α → Prop} {Good' : α' → Prop} (h : AltsOk ρ k l Good) {g : α → Option α'} (hm : mapO g l = some l')
    (hg : Known.holds ρ k → ∀ x y, g x = some y → Good x → Good' y) : AltsOk ρ k l' Good' := by
  have hm := mapO_mem hm
  refine ⟨fun hk => ?_, fun y hy hk => ?_⟩
  · obtain ⟨x, hx, hx'⟩ := h.1 hk
    obtain ⟨y, _, hy⟩ := hm.1 x hx
    exact ⟨_, hy, hx'⟩
  · obtain ⟨x, hx, hxy⟩ := hm.2 y hy
    have := h.2 _ hx hk
    exact ⟨this.1, hg this.1 _ _ hxy this.2⟩
theorem fork_alts {ρ : Env} {k : Known} {c : E} : AltsOk ρ k (fork k c) fun b => (c.den ρ ≠ 0 ↔ b = true) :=
  ⟨fun hk => fork_covers hk, fun _ hx hk => fork_sound hx hk⟩

/-! ### an index -/
def cover (k : Known) (i : E) (lo : Nat) : Nat → List (Known × Nat)
  | 0 => []
  | m + 1 =>
    natK lo fun lo => assumeK k (.bin .eq i (.lit (lo : Int))) true fun k' =>
    match bad k' with | true => cover k i (lo + 1) m | false => (k', lo) :: cover k i (lo + 1) m
theorem cover_mem {ρ : Env} {k : Known} {i : E} : ∀ (m lo : Nat), ∀ x ∈ cover k i lo m, Known.holds ρ x.1 → Known.holds ρ k ∧ i.den ρ = (x.2 : Int)
  | 0, _, x, hx => by cases hx
  | m + 1, lo, x, hx => by
    intro h
    unfold cover at hx
    simp only [natK_eq, assumeK_eq] at hx
    have rest := cover_mem (ρ := ρ) (k := k) (i := i) m (lo + 1)
    split at hx
    · exact rest x hx h
    · rcases List.mem_cons.1 hx with rfl | hx
      · have := assume_imp h
        simp only [E.den, BO.den] at this
        refine ⟨this.1, ?_⟩
        by_cases hh : i.den ρ = (lo : Int)
        · exact hh
        · simp [hh] at this
      · exact rest x hx h
theorem cover_covers {ρ : Env} {k : Known} (hk : Known.holds ρ k) {i : E} : ∀ (m lo : Nat), (lo : Int) ≤ i.den ρ → i.den ρ < (lo + m : Nat) → ∃ x ∈ cover k i lo m, Known.holds ρ x.1
  | 0, lo, h1, h2 => by omega
  | m + 1, lo, h1, h2 => by
    unfold cover
    simp only [natK_eq, assumeK_eq]
    by_cases hh : i.den ρ = (lo : Int)
    · have ha : Known.holds ρ (assume k (.bin .eq i (.lit (lo : Int))) true) := assume_holds hk (by simp [E.den, BO.den, hh])
      rw [bad_sound ha]
      exact ⟨_, List.mem_cons_self .., ha⟩
    · obtain ⟨x, hx, hx'⟩ := cover_covers hk (i := i) m (lo + 1) (by omega) (by omega)
      split
      · exact ⟨x, hx, hx'⟩
      · exact ⟨x, List.mem_cons_of_mem _ hx, hx'⟩
/-- Which number an index is: below a limit that is known to bound it. -/
def idxAlts (k : Known) (i n : E) : Option (List (Known × Nat)) :=
  match dec k (.bin .lt i n) with
  | some true =>
    match norm k i with
    | .lit j => if ile 0 j then some [(k, j.toNat)] else none
    | i' => match bnd k i' with
      | (some lo, some hi) => if ile 0 lo && ile (hi - lo) 64 then some (cover k i' lo.toNat (hi - lo + 1).toNat) else none
      | _ => none
  | _ => none
theorem idxAlts_ok {ρ : Env} {k : Known} {i n : E} {l : List (Known × Nat)} (h : idxAlts k i n = some l) : AltsOk ρ k l fun j => i.den ρ = (j : Int) ∧ (j : Int) < n.den ρ := by
  unfold idxAlts at h
  split at h
  · rename_i hd
    have lt : Known.holds ρ k → i.den ρ < n.den ρ := fun hk => by
      have := dec_sound hk hd
      simp only [E.den, BO.den] at this
      by_cases hh : i.den ρ < n.den ρ
      · exact hh
      · simp [hh] at this
    split at h
    · rename_i j hj
      split at h
      · rename_i h0
        cases h
        refine AltsOk.single fun hk => ?_
        have e := norm_den hk i
        rw [hj] at e
        simp only [E.den] at e
        have := ile_iff.1 h0
        have := lt hk
        constructor <;> omega
      · cases h
    · split at h
      · rename_i lo hi hb
        split at h
        · rename_i hc
          simp only [Bool.and_eq_true, ile_iff] at hc
          cases h
          refine ⟨fun hk => ?_, fun x hx hk => ?_⟩
          · have h1 := bnd_has hk (norm k i)
            rw [hb] at h1
            have h2 := h1.1 _ rfl; have h3 := h1.2 _ rfl
            exact cover_covers hk _ _ (by omega) (by omega)
          · have := cover_mem _ _ x hx hk
            rw [norm_den this.1] at this
            exact ⟨this.1, this.2, by have := lt this.1; omega⟩
        · cases h
      · cases h
  · cases h

/-! ### comparisons with nil -/
def nilEq (d : TD) (x y : V1) : Option Bool :=
  match d, x, y with
  | .ptr _, .one .nilp, .one .nilp => some true
  | .ptr _, .one (.ptr _ _), .one .nilp => some false
  | .ptr _, .one .nilp, .one (.ptr _ _) => some false
  | .slc _, .one .nils, .one .nils => some true
  | .slc _, .one (.slc _ _ _ _), .one .nils => some false
  | .slc _, .one .nils, .one (.slc _ _ _ _) => some false
  | .fnT, .one .nilf, .one .nilf => some true
  | .fnT, .one (.fn _ _ _), .one .nilf => some false
  | .fnT, .one .nilf, .one (.fn _ _ _) => some false
  | _, _, _ => none
theorem nilEq_ok {P : Program} {t : TypeId} {ti : TI} (ht : TIok P t ti) {x y : V1} {b : Bool} (h : nilEq ti.d x y = some b) (ρ : Env) (β : Lab) (d : Nat) (w : World) :
    (Op.equalIn (d + 1) t (x.den ρ β) (y.den ρ β)).run P w = .ok b w := by
  unfold nilEq at h
  split at h
  · rename_i hd; cases h; simp [V1.den, CV.den, Op.equalIn, run_underlying (ht.ptr hd)]
  · rename_i hd; cases h; simp [V1.den, CV.den, Op.equalIn, run_underlying (ht.ptr hd)]
  · rename_i hd; cases h; simp [V1.den, CV.den, Op.equalIn, run_underlying (ht.ptr hd)]
  · rename_i hd; cases h; simp [V1.den, CV.den, Op.equalIn, run_underlying (ht.slc hd)]
  · rename_i hd; cases h; simp [V1.den, CV.den, Op.equalIn, run_underlying (ht.slc hd)]
  · rename_i hd; cases h; simp [V1.den, CV.den, Op.equalIn, run_underlying (ht.slc hd)]
  · rename_i hd; cases h; obtain ⟨p, r, v, hu⟩ := ht.fnT hd; simp [V1.den, CV.den, Op.equalIn, run_underlying hu]
  · rename_i hd; cases h; obtain ⟨p, r, v, hu⟩ := ht.fnT hd; simp [V1.den, CV.den, Op.equalIn, run_underlying hu]
  · rename_i hd; cases h; obtain ⟨p, r, v, hu⟩ := ht.fnT hd; simp [V1.den, CV.den, Op.equalIn, run_underlying hu]
  · cases h
def eqGo (ti : TI) : V1 → V1 → Bool
  | .agg _, .agg _ => ti.eqo
  | .one (.bool _), .one (.bool _) => true
  | _, _ => false
def eqAny (ty : Tys) (t : TypeId) (x y : V1) : Option E :=
  match ty t with
  | none => none
  | some ti => match nilEq ti.d x y with
    | some b => some (.lit (if b then 1 else 0))
    | none => if eqGo ti x y then eqV ty 12 t x y else none
theorem eqAny_ok {P : Program} {ty : Tys} (hty : TysOk P ty) {ρ : Env} {β : Lab} {n : Nat} {t : TypeId} {x y : V1} {e : E} (h : eqAny ty t x y = some e) (hx : x.below n) (hy : y.below n) (op : BinOp) (X Y : Operand) (w : World) :
    (Op.equal t (x.den ρ β) (y.den ρ β)).run P w = .ok (decide (e.den ρ ≠ 0)) w ∧ (eqGuard op t X Y (x.den ρ β) (y.den ρ β)).run P w = .ok () w ∧
    (∀ k n, x.den ρ β ≠ .int k n) ∧ (∀ k n, x.den ρ β ≠ .float k n) ∧ (∀ k n m, x.den ρ β ≠ .complex k n m) ∧ (∀ s, x.den ρ β ≠ .string s) := by
  unfold eqAny at h
  split at h
  · cases h
  · rename_i ti hti
    have hti := hty _ _ hti
    split at h
    · rename_i b hb
      cases h
      refine ⟨?_, ?_, ?_⟩
      · rw [Op.equal, Op.maxDepth, nilEq_ok hti hb ρ β 9999 w]
        cases b <;> simp [E.den]
      · unfold nilEq at hb
        split at hb <;> first | (cases hb; done) | (cases op <;> rfl)
      · unfold nilEq at hb
        split at hb <;> first | (cases hb; done) | simp [V1.den, CV.den]
    · split at h
      · rename_i hc
        have he := eqV_ok hty ρ β 12 10000 (by omega) t x y e h hx hy w
        refine ⟨he, ?_⟩
        unfold eqGo at hc
        split at hc
        · have := (hti.eqo hc).2.1
          simp only [V1.den]
          exact ⟨run_eqGuard_agg w op t X Y _ _ this, by simp, by simp, by simp, by simp⟩
        · simp only [V1.den, CV.den]
          rw [eqGuard_at_bool]
          exact ⟨rfl, by simp, by simp, by simp, by simp⟩
        · cases hc
      · cases h
end
end Go.Sx
