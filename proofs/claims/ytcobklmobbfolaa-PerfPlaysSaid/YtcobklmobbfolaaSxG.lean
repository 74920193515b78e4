/-
  SX, PART 14: REGIONS THAT DRAW THEIR ORDER: the run in the order of the text, and the look that every other order comes to the same.
-/
import Derived.Test.YtcobklmobbfolaaSxZ
namespace Go.Sx
noncomputable section

/-! ### maps that are written again and again, some of the writes left out -/
section maps
variable {α : Type}
def pfind (l : Nat) : List (Nat × α) → Option α
  | [] => none
  | (l', x) :: r => match pfind l r with | some y => some y | none => if Nat.beq l l' then some x else none
def plabels (s : List (Nat × α)) : List Nat := s.map (·.1)
def pset (g : Nat → Option α) (s : List (Nat × α)) : Nat → Option α := fun l => match pfind l s with | some x => some x | none => g l
theorem pfind_none {l : Nat} : ∀ {s : List (Nat × α)}, l ∉ plabels s → pfind l s = none
  | [], _ => rfl
  | (l', x) :: r, h => by
    simp only [plabels, List.map_cons, List.mem_cons, not_or] at h
    have hb : Nat.beq l l' = false := by
      cases hb : Nat.beq l l'
      · rfl
      · exact absurd (Nat.eq_of_beq_eq_true hb) h.1
    simp only [pfind, pfind_none (s := r) h.2, hb]
    rfl
theorem pset_not_mem {g : Nat → Option α} {s : List (Nat × α)} {l : Nat} (h : l ∉ plabels s) : pset g s l = g l := by
  unfold pset; rw [pfind_none h]
theorem pfind_some {l : Nat} : ∀ {s : List (Nat × α)}, l ∈ plabels s → ∃ x, pfind l s = some x
  | [], h => by simp [plabels] at h
  | (l', x) :: r, h => by
    simp only [pfind]
    cases hr : pfind l r with
    | some y => exact ⟨y, rfl⟩
    | none =>
      simp only [plabels, List.map_cons, List.mem_cons] at h
      rcases h with rfl | h
      · exact ⟨x, by simp⟩
      · obtain ⟨y, hy⟩ := pfind_some (s := r) h
        rw [hr] at hy; cases hy
theorem pset_mem {g : Nat → Option α} {s : List (Nat × α)} {l : Nat} (h : l ∈ plabels s) : pset g s l = pfind l s := by
  obtain ⟨x, hx⟩ := pfind_some h
  unfold pset; rw [hx]
variable {δ : Type}
def foldD (D : Nat → Bool) (f : δ → List (Nat × α)) : List δ → Nat → (Nat → Option α) → (Nat → Option α)
  | [], _, g => g
  | d :: r, i, g => foldD D f r (i + 1) (if D i then pset g (f d) else g)
theorem foldD_congr {D D' : Nat → Bool} {f : δ → List (Nat × α)} {l : Nat} : ∀ {ds : List δ} {i : Nat} {g g' : Nat → Option α}, g l = g' l →
    (∀ j d, ds[j]? = some d → D (i + j) ≠ D' (i + j) → l ∉ plabels (f d)) → foldD D f ds i g l = foldD D' f ds i g' l
  | [], i, g, g', hg, _ => hg
  | d :: r, i, g, g', hg, h => by
    simp only [foldD]
    refine foldD_congr ?_ (fun j d' hj hne => h (j + 1) d' (by simpa using hj) (by rwa [show i + (j + 1) = i + 1 + j by omega]))
    have h0 := h 0 d rfl
    simp only [Nat.add_zero] at h0
    by_cases hD : D i = D' i
    · rw [← hD]
      split
      · unfold pset; rw [hg]
      · exact hg
    · have hl := h0 hD
      have e1 : (if D i then pset g (f d) else g) l = g l := by split; exact pset_not_mem hl; rfl
      have e2 : (if D' i then pset g' (f d) else g') l = g' l := by split; exact pset_not_mem hl; rfl
      rw [e1, e2, hg]
/-- The last write counts. -/
theorem foldD_last {D : Nat → Bool} {f : δ → List (Nat × α)} {l : Nat} : ∀ {ds : List δ} {i m : Nat} {g : Nat → Option α} {d : δ}, ds[m]? = some d → D (i + m) = true → l ∈ plabels (f d) →
    (∀ j d', m < j → ds[j]? = some d' → D (i + j) = true → l ∉ plabels (f d')) → foldD D f ds i g l = pfind l (f d)
  | [], i, m, g, d, hm, _, _, _ => by simp at hm
  | d0 :: r, i, 0, g, d, hm, hD, hl, h => by
    simp only [List.getElem?_cons_zero, Option.some.injEq] at hm
    subst hm
    simp only [Nat.add_zero] at hD
    simp only [foldD, hD, if_true]
    have : foldD D f r (i + 1) (pset g (f d0)) l = foldD (fun _ => false) f r (i + 1) (pset g (f d0)) l := by
      refine foldD_congr rfl fun j d' hj hne => ?_
      refine h (j + 1) d' (by omega) (by simpa using hj) ?_
      rw [show i + (j + 1) = i + 1 + j by omega]
      cases hh : D (i + 1 + j)
      · rw [hh] at hne; exact absurd rfl hne
      · rfl
    rw [this]
    have none_ : ∀ (r : List δ) (i : Nat) (g : Nat → Option α), foldD (fun _ => false) f r i g = g := by
      intro r
      induction r with
      | nil => intro i g; rfl
      | cons d r ih => intro i g; simp only [foldD, Bool.false_eq_true, if_false]; exact ih _ _
    rw [none_]
    exact pset_mem hl
  | d0 :: r, i, m + 1, g, d, hm, hD, hl, h => by
    simp only [foldD]
    exact foldD_last (m := m) (by simpa using hm) (by rwa [show i + 1 + m = i + (m + 1) by omega]) hl
      (fun j d' hj hd hDj => h (j + 1) d' (by omega) (by simpa using hd) (by rwa [show i + (j + 1) = i + 1 + j by omega]))
theorem foldD_append (D : Nat → Bool) (f : δ → List (Nat × α)) : ∀ (ds es : List δ) (i : Nat) (g : Nat → Option α), foldD D f (ds ++ es) i g = foldD D f es (i + ds.length) (foldD D f ds i g)
  | [], es, i, g => by simp [foldD]
  | d :: r, es, i, g => by
    simp only [List.cons_append, foldD, List.length_cons, foldD_append D f r es]
    rw [show i + 1 + r.length = i + (r.length + 1) by omega]
end maps
theorem Sets.find_eq (l : Nat) : ∀ s : Sets, s.find l = pfind l s
  | [] => rfl
  | (l', x) :: r => by simp only [Sets.find, pfind, Sets.find_eq l r]; cases pfind l r <;> rfl
theorem Heap.set_eq (h : Heap) (s : Sets) : h.set s = pset h s := by
  funext l; simp only [Heap.set, pset, Sets.find_eq]; cases pfind l s <;> rfl

/-! ### the run -/
structure DE where
  o : Oper
  bef : Nat
  want : Bool
  e : Eff
  n0 : Nat
  hv : T Ent
  rs : Sl
def tb (m i : Nat) : Bool := Nat.beq ((m / Nat.pow 2 i) % 2) 1
def befOf (all : List Nat) (es : List Edge) : Nat :=
  match es with
  | [] => 0
  | e :: r => if Region.binds .any e then Nat.lor (Nat.lor (Nat.pow 2 e.on) (all.getD e.on 0)) (befOf all r) else befOf all r
/-- The part of memory that can be come to from the labels. -/
def reach : Nat → T Ent → List Nat → T Ent → T Ent
  | 0, _, _, acc => acc
  | _, _, [], acc => acc
  | n + 1, view, l :: r, acc => match acc.get l with
    | some _ => reach n view r acc
    | none => match view.get l with
      | some x => reach n view (x.blk.labs ++ r) (T.put 40 acc l x)
      | none => reach n view r acc
def only (view : T Ent) (l : Nat) : T Ent := match view.get l with | some x => T.put 40 .leaf l x | none => .leaf
def labsOf (ev : Ev) (x : Operand) : List Nat := match ev x with | some v => v.labs | none => []
/-- The part of memory that an operation may look at. -/
def needs (ev : Ev) (view : T Ent) : Op → T Ent
  | .load _ a => match ev a with
    | some (.v (.one (.tptr l _ _ _))) => only view l
    | x => match asP x with | some (l, _) => only view l | none => .leaf
  | .store _ a _ => match asP (ev a) with | some (l, _) => only view l | none => .leaf
  | .call c => match c.callee with
    | .value f => reach 100000 view (labsOf ev f ++ c.args.toList.flatMap (labsOf ev)) .leaf
    | _ => reach 100000 view (c.args.toList.flatMap (labsOf ev)) .leaf
  | _ => .leaf
def touches : Op → Bool
  | .load .. | .store .. | .call .. => true
  | _ => false
/-- What those ahead have made of memory. -/
def viewOf (bef : Nat) : List DE → Nat → T Ent → T Ent
  | [], _, h => h
  | d :: r, i, h => viewOf bef r (i + 1) (if tb bef i then putSets h d.e.sets else h)
def restrict (slots : Sl) : List Tmp → Sl → Sl
  | [], t => t
  | x :: r, t => restrict slots r (match slots.get x with | some v => t.put x v | none => t)
section
variable {R : Type}
def tKI {α : Type} (_ : α → (α → R) → R) (t : T α) (k : T α → R) : R := k t
def tK {α : Type} (f : α → (α → R) → R) (t : T α) : (T α → R) → R :=
  T.rec (motive := fun _ => (T α → R) → R) (fun k => k .leaf) (fun _ v _ hl hr k => hl fun l => oK f v fun v => hr fun r => k (.node l v r)) t
theorem tK_eq {α : Type} {f : α → (α → R) → R} (hf : ∀ x k, f x k = k x) (t : T α) : ∀ k, tK f t k = k t := by
  induction t with
  | leaf => intro k; rfl
  | node l v r hl hr =>
    intro k
    have e : tK f (.node l v r) k = tK f l fun l => oK f v fun v => tK f r fun r => k (.node l v r) := rfl
    rw [e, hl, oK_eq hf, hr]
def restrictK (slots : Sl) (l : List Tmp) (t : Sl) (k : Sl → R) : R := match l with
  | [] => k t
  | x :: r => match slots.get x with
    | some v => restrictK slots r (t.put x v) k
    | none => restrictK slots r t k
theorem restrictK_eq (slots : Sl) : ∀ (l : List Tmp) (t : Sl) (k : Sl → R), restrictK slots l t k = k (restrict slots l t)
  | [], t, k => by simp only [restrictK, restrict]
  | x :: r, t, k => by
    simp only [restrictK, restrict]
    cases slots.get x <;> simp only [restrictK_eq slots r]
def ent1K (x : Ent) (k : Ent → R) : R := match x with | ⟨wr, b⟩ => k ⟨wr, b⟩
theorem ent1K_eq (x : Ent) (k : Ent → R) : ent1K x k = k x := by cases x; rfl
def DE.plainK (d : DE) (k : DE → R) : R := match d with | ⟨o, bef, want, e, n0, hv, rs⟩ => k ⟨o, bef, want, e, n0, hv, rs⟩
theorem DE.plainK_eq (d : DE) (k : DE → R) : d.plainK k = k d := by cases d; rfl
end
def drawRun (ty : Tys) (callF : CallF) (all : List Oper) (heap0 : T Ent) : List Oper → List DE → Known → Sl → Nat → Option (List (Known × (List DE × Sl)))
  | [], prev, k, slots, _ => some [(k, prev, slots)]
  | o :: r, prev, k, slots, nx =>
    natK (befOf (prev.map (·.bef)) o.after.toList) fun bef =>
    restrictK slots (o.looksAt all.toArray) .nil fun rs =>
    tK ent1K (match touches o.op with | true => needs (evOf rs.get) (viewOf bef prev 0 heap0) o.op | false => .leaf) fun hv =>
    match guardAlts all rs k o with
    | none => none
    | some gs => bindS (fun k b => k.whK fun k =>
        match b with
        | true =>
          (match opAlts ty callF (evOf rs.get) hv nx k o with
          | none => none
          | some es => bindS (fun k e => k.whK fun k => e.deepK fun e => putSlotK slots o.dst e.res fun slots => listK DE.plainK (prev ++ [⟨o, bef, true, e, nx, hv, rs⟩]) fun prev => drawRun ty callF all heap0 r prev k slots e.nx) es)
        | false => putSlotK slots o.dst undefSV fun slots => listK DE.plainK (prev ++ [⟨o, bef, false, ⟨undefSV, [], nx⟩, nx, hv, rs⟩]) fun prev => drawRun ty callF all heap0 r prev k slots nx) gs
def dstNot (d : Option Tmp) (l : List Tmp) : Bool := match d with | some t => !l.contains t | none => true
def CV.avoid (lo hi : Nat) : CV → Bool
  | .ptr l _ => !(Nat.ble lo l && Nat.blt l hi)
  | .slc l _ _ _ => !(Nat.ble lo l && Nat.blt l hi)
  | .fn _ a b => a.all (fun p => !(Nat.ble lo p.1 && Nat.blt p.1 hi)) && b.all (fun p => !(Nat.ble lo p.1 && Nat.blt p.1 hi))
  | .opq i => !(Nat.ble lo i && Nat.blt i hi)
  | .tslc l _ _ _ _ => !(Nat.ble lo l && Nat.blt l hi)
  | .tptr l _ _ _ => !(Nat.ble lo l && Nat.blt l hi)
  | _ => true
def V1.avoid (lo hi : Nat) : V1 → Bool
  | .one c => c.avoid lo hi
  | .agg cs => cs.all (CV.avoid lo hi)
def SV.avoid (lo hi : Nat) : SV → Bool
  | .v x => x.avoid lo hi
  | .tup xs => xs.all (V1.avoid lo hi)
def Blk.avoid (lo hi : Nat) : Blk → Bool
  | .cells cs _ => cs.all (CV.avoid lo hi)
  | .tab q _ _ _ => !(Nat.ble lo q && Nat.blt q hi)
def DE.avoid (d : DE) (lo hi : Nat) : Bool := d.e.res.avoid lo hi && d.e.sets.all fun x => x.2.blk.avoid lo hi
def clear (h : T Ent) (s : Sets) : Bool := s.all fun x => (h.get x.1).isNone
/-- Two operations of which neither waits for the other: do they keep clear of one another? -/
def pairOk (all : Array Oper) (a b : DE) : Bool :=
  dstNot a.o.dst (b.o.looksAt all) && (dstNot b.o.dst (a.o.looksAt all) && ((match a.o.dst, b.o.dst with | some x, some y => !Nat.beq x y | _, _ => true) &&
    (a.e.sets.all (fun x => b.e.sets.all fun y => !Nat.beq x.1 y.1) && (clear b.hv a.e.sets && (clear a.hv b.e.sets && (a.avoid b.n0 b.e.nx && b.avoid a.n0 a.e.nx))))))
def pairs1 (all : Array Oper) (i : Nat) (a : DE) (r : List DE) : Bool := r.all fun b => tb b.bef i || pairOk all a b
def pairsOk (all : Array Oper) : List DE → Nat → Bool
  | [], _ => true
  | a :: r, i => pairs1 all i a r && pairsOk all r (i + 1)
def ownOk (heap0 : T Ent) (nx0 : Nat) (d : DE) : Bool := d.e.sets.all fun x => Nat.ble nx0 x.1 || (match heap0.get x.1 with | some y => y.wr | none => false)
def edgesOk : List Oper → Nat → Bool
  | [], _ => true
  | o :: r, i => o.after.toList.all (fun e => !Region.binds .any e || Nat.blt e.on i) && edgesOk r (i + 1)
def putAll (heap : T Ent) : List DE → T Ent
  | [] => heap
  | d :: r => putAll (putSets heap d.e.sets) r
def logAll : List DE → List Nat
  | [] => []
  | d :: r => d.e.sets.labels ++ logAll r
def lastNx (nx : Nat) : List DE → Nat
  | [] => nx
  | d :: r => lastNx d.e.nx r
def drawOk (ops : List Oper) (s : S) (ds : List DE) : Bool := pairsOk ops.toArray ds 0 && ds.all (fun d => ownOk s.heap s.nx d && Nat.ble d.n0 d.e.nx)
def drawOps (ty : Tys) (callF : CallF) (nt : Nat) (ops : List Oper) (k : Known) (s : S) : Option (List (Known × S)) :=
  if edgesOk ops 0 && ops.all (dstOk nt) then
    match drawRun ty callF ops s.heap ops [] k s.slots s.nx with
    | some l => mapO (fun x => if drawOk ops s x.1 then some ⟨x.2, putAll s.heap x.1, lastNx s.nx x.1, logAll x.1 ++ s.log⟩ else none) l
    | none => none
  else none
end
end Go.Sx
