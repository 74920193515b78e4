/-
  SX, PART 3: DECIDING A TEST FROM WHAT IS KNOWN; TAKING A TEST'S OUTCOME INTO WHAT IS KNOWN.
-/
import Derived.Test.YthgpmdgbgoaldaaSxK
namespace Go.Sx
noncomputable section

def ltB (r s : Bd) : Option Bool :=
  match r.2, s.1 with
  | some h, some l => if ile l h then (match r.1, s.2 with | some l', some h' => if ile h' l' then some false else none | _, _ => none) else some true
  | _, _ => match r.1, s.2 with | some l', some h' => if ile h' l' then some false else none | _, _ => none
theorem ltB_sound {r s : Bd} {x y : Int} {b : Bool} (hr : r.has x) (hs : s.has y) (h : ltB r s = some b) : (x < y ↔ b = true) := by
  have no : (match r.1, s.2 with | some l', some h' => if ile h' l' then some false else none | _, _ => (none : Option Bool)) = some b → (x < y ↔ b = true) := by
    intro h
    split at h
    · rename_i l' h' h1 h2
      split at h
      · rename_i hc
        have := ile_iff.1 hc; have := hr.1 _ h1; have := hs.2 _ h2
        cases h; constructor
        · intro; omega
        · intro h; cases h
      · cases h
    · cases h
  unfold ltB at h
  split at h
  · rename_i a c h1 h2
    split at h
    · exact no h
    · rename_i hc
      have := ile_false (by simpa using hc); have := hr.2 _ h1; have := hs.1 _ h2
      cases h; constructor
      · intro; rfl
      · intro; omega
  · exact no h
def eqB (r s : Bd) : Option Bool :=
  match ltB r s with
  | some true => some false
  | _ => match ltB s r with | some true => some false | _ => none
theorem eqB_sound {r s : Bd} {x y : Int} {b : Bool} (hr : r.has x) (hs : s.has y) (h : eqB r s = some b) : (x = y ↔ b = true) := by
  unfold eqB at h
  split at h
  · rename_i h1
    have := (ltB_sound hr hs h1).2 rfl
    cases h; constructor
    · intro; omega
    · intro h; cases h
  · split at h
    · rename_i h1
      have := (ltB_sound hs hr h1).2 rfl
      cases h; constructor
      · intro; omega
      · intro h; cases h
    · cases h
def nzB (r : Bd) : Option Bool :=
  match eqB r (some 0, some 0) with
  | some false => some true
  | _ => match r with | (some lo, some hi) => if ieq lo 0 && ieq hi 0 then some false else none | _ => none
theorem nzB_sound {r : Bd} {x : Int} {b : Bool} (hr : r.has x) (h : nzB r = some b) : (x ≠ 0 ↔ b = true) := by
  unfold nzB at h
  split at h
  · rename_i h1
    have := eqB_sound (y := 0) hr ⟨fun m hm => (by cases hm; omega), fun m hm => (by cases hm; omega)⟩ h1
    cases h
    simp at this
    simp [this]
  · split at h
    · rename_i lo hi
      split at h
      · rename_i hc
        simp only [Bool.and_eq_true] at hc
        have h1 := ieq_eq hc.1; have h2 := ieq_eq hc.2
        have := hr.1 _ rfl; have := hr.2 _ rfl
        cases h
        simp
        omega
      · cases h
    · cases h

def decAtom (k : Known) (c : E) : Option Bool :=
  match c with
  | .lit n => some (!ieq n 0)
  | c =>
    match trOf c k with
    | some b => some b
    | none =>
      match c with
      | .bin .lt a b => ltB (bnd k a) (bnd k b)
      | .bin .eq a b => eqB (bnd k a) (bnd k b)
      | c => nzB (bnd k c)
theorem decAtom_sound {ρ : Env} {k : Known} (hk : Known.holds ρ k) {c : E} {b : Bool} (h : decAtom k c = some b) : (c.den ρ ≠ 0 ↔ b = true) := by
  unfold decAtom at h
  split at h
  · rename_i n
    cases h
    simp only [E.den]
    cases hn : ieq n 0
    · simp [ieq_ne hn]
    · simp [ieq_eq hn]
  · split at h
    · rename_i b' hb
      cases h
      exact trOf_den hk hb
    · split at h
      · rename_i a b' _ _
        have := ltB_sound (bnd_has hk a) (bnd_has hk b') h
        simp only [E.den, BO.den]
        rw [← this]
        by_cases hh : a.den ρ < b'.den ρ <;> simp [hh]
      · rename_i a b' _ _
        have := eqB_sound (bnd_has hk a) (bnd_has hk b') h
        simp only [E.den, BO.den]
        rw [← this]
        by_cases hh : a.den ρ = b'.den ρ <;> simp [hh]
      · exact nzB_sound (bnd_has hk _) h

def dec (k : Known) (c : E) : Option Bool :=
  match canon (norm k c) with
  | (a, p) => match decAtom k a with | some b => some (b == p) | none => none
theorem dec_sound {ρ : Env} {k : Known} (hk : Known.holds ρ k) {c : E} {b : Bool} (h : dec k c = some b) : (c.den ρ ≠ 0 ↔ b = true) := by
  unfold dec at h
  have hc := canon_den ρ (norm k c)
  rw [norm_den hk] at hc
  generalize canon (norm k c) = r at *
  obtain ⟨a, p⟩ := r
  simp only at h hc
  split at h
  · rename_i b' hb
    cases h
    have := decAtom_sound hk hb
    rw [hc, this]
    cases b' <;> cases p <;> simp
  · cases h

/-! ### what follows from a test -/
/-- Does a number of these bounds, brought into the kind with a result of those bounds, stay what it is? -/
def exact_ (q : IntKind) (real res : Bd) : Bool :=
  match real, res with
  | (some lo, some hi), (some a, some b) => !ile (lo + (kmod q : Int)) b && !ile a (hi - (kmod q : Int))
  | _, _ => false
theorem wrap_congr (q : IntKind) (x : Int) : ∃ t : Int, q.wrap x = x + t * (kmod q : Int) := by
  rw [← wrapF_eq]
  unfold wrapF
  simp only []
  have h := Int.mul_ediv_add_emod x (kmod q : Int)
  by_cases hc : ile (x % (kmod q : Int)) (kmax q) = true
  · rw [if_pos hc]
    refine ⟨-(x / (kmod q : Int)), ?_⟩
    rw [Int.neg_mul, Int.mul_comm (x / _)]
    omega
  · rw [if_neg hc]
    refine ⟨-(x / (kmod q : Int)) - 1, ?_⟩
    rw [Int.sub_mul, Int.neg_mul, Int.mul_comm (x / _)]
    omega
theorem exact_sound {q : IntKind} {real res : Bd} {x : Int} (h : exact_ q real res = true) (hr : real.has x) (hs : res.has (q.wrap x)) : q.wrap x = x := by
  unfold exact_ at h
  split at h
  · rename_i lo hi a b
    simp only [Bool.and_eq_true, Bool.not_eq_true'] at h
    have h1 := ile_false h.1; have h2 := ile_false h.2
    have h3 := hr.1 _ rfl; have h4 := hr.2 _ rfl; have h5 := hs.1 _ rfl; have h6 := hs.2 _ rfl
    obtain ⟨t, ht⟩ := wrap_congr q x
    have hp : (0 : Int) < (kmod q : Int) := by cases q <;> decide
    rcases Int.lt_trichotomy t 0 with h0 | h0 | h0
    · have : t * (kmod q : Int) ≤ -1 * (kmod q : Int) := Int.mul_le_mul_of_nonneg_right (by omega) (by omega)
      omega
    · rw [h0] at ht; omega
    · have : 1 * (kmod q : Int) ≤ t * (kmod q : Int) := Int.mul_le_mul_of_nonneg_right (by omega) (by omega)
      omega
  · cases h
def plusB (r : Bd) (n : Int) : Bd := (r.1.map (· + n), r.2.map (· + n))
theorem plusB_has {r : Bd} {x n : Int} (h : r.has x) : (plusB r n).has (x + n) := by
  obtain ⟨l, u⟩ := r
  refine ⟨fun m hm => ?_, fun m hm => ?_⟩
  · cases l <;> simp [plusB] at hm
    have := h.1 _ rfl; omega
  · cases u <;> simp [plusB] at hm
    have := h.2 _ rfl; omega
def factOf (e : E) (r : Bd) : Fact := .rng e r
theorem factOf_holds {ρ : Env} {e : E} {r : Bd} (h : r.has (e.den ρ)) : (factOf e r).holds ρ := h
/-- A range of an expression, handed down to what it is made of. -/
def push (k : Known) : E → Bd → List Fact
  | .lit _, _ => []
  | .un (.wrap q) y, r =>
    let r := r.meet (bnd k (.un (.wrap q) y))
    factOf (.un (.wrap q) y) r :: (if exact_ q (bnd k y) r then push k y r else [])
  | .bin (.add q) y (.lit m), r =>
    let r := r.meet (bnd k (.bin (.add q) y (.lit m)))
    factOf (.bin (.add q) y (.lit m)) r :: (if exact_ q (plusB (bnd k y) m) r then push k y (plusB r (-m)) else [])
  | .bin (.sub q) y (.lit m), r =>
    let r := r.meet (bnd k (.bin (.sub q) y (.lit m)))
    factOf (.bin (.sub q) y (.lit m)) r :: (if exact_ q (plusB (bnd k y) (-m)) r then push k y (plusB r m) else [])
  | e, r => [factOf e (r.meet (bnd k e))]
theorem push_holds {ρ : Env} {k : Known} (hk : Known.holds ρ k) (e : E) (r : Bd) : r.has (e.den ρ) → ∀ f ∈ push k e r, f.holds ρ := by
  fun_induction push k e r with
  | case1 => intro _ f hf; cases hf
  | case2 q y r r' ih =>
    intro h f hf
    have h' : r'.has ((E.un (.wrap q) y).den ρ) := Bd.meet_has h (bnd_has hk _)
    rcases List.mem_cons.1 hf with rfl | hf
    · exact factOf_holds h'
    · split at hf
      · rename_i hc
        have he := exact_sound hc (bnd_has hk y) (by simpa only [E.den, UO.den] using h')
        refine ih ?_ f hf
        simp only [E.den, UO.den] at h'
        rw [he] at h'
        exact h'
      · cases hf
  | case3 q y m r r' ih =>
    intro h f hf
    have h' : r'.has ((E.bin (.add q) y (.lit m)).den ρ) := Bd.meet_has h (bnd_has hk _)
    rcases List.mem_cons.1 hf with rfl | hf
    · exact factOf_holds h'
    · split at hf
      · rename_i hc
        have he := exact_sound hc (plusB_has (bnd_has hk y)) (by simpa only [E.den, BO.den] using h')
        refine ih ?_ f hf
        simp only [E.den, BO.den] at h'
        rw [he] at h'
        have := plusB_has (n := -m) h'
        rwa [show y.den ρ + m + -m = y.den ρ by omega] at this
      · cases hf
  | case4 q y m r r' ih =>
    intro h f hf
    have h' : r'.has ((E.bin (.sub q) y (.lit m)).den ρ) := Bd.meet_has h (bnd_has hk _)
    rcases List.mem_cons.1 hf with rfl | hf
    · exact factOf_holds h'
    · split at hf
      · rename_i hc
        have e1 : y.den ρ - m = y.den ρ + -m := by omega
        have he := exact_sound hc (plusB_has (bnd_has hk y)) (by simpa only [E.den, BO.den, e1] using h')
        refine ih ?_ f hf
        simp only [E.den, BO.den, e1] at h'
        rw [he] at h'
        have := plusB_has (n := m) h'
        rwa [show y.den ρ + -m + m = y.den ρ by omega] at this
      · cases hf
  | case5 e r =>
    intro h f hf
    rw [List.mem_singleton.1 hf]
    exact factOf_holds (Bd.meet_has h (bnd_has hk _))

def dropOne (x : Option Int) (n : Int) : Option Int := x.map (· + n)
/-- What an atom's outcome says of numbers. -/
def derive (k : Known) : E → Bool → List Fact
  | .bin .eq (.var i) (.var j), true => [.rep i j]
  | .bin .eq x (.lit n), true => push k x (some n, some n)
  | .bin .eq x (.lit n), false =>
    match bnd k x with
    | (some lo, hi) => if ieq lo n then push k x (some (n + 1), none) else (match hi with | some hi => if ieq hi n then push k x (none, some (n - 1)) else [] | none => [])
    | (none, some hi) => if ieq hi n then push k x (none, some (n - 1)) else []
    | _ => []
  | .bin .lt x (.lit n), true => push k x (none, some (n - 1))
  | .bin .lt x (.lit n), false => push k x (some n, none)
  | .bin .lt x y, true => push k x (none, dropOne (bnd k y).2 (-1)) ++ push k y (dropOne (bnd k x).1 1, none)
  | .bin .lt x y, false => push k y (none, (bnd k x).2) ++ push k x ((bnd k y).1, none)
  | .bin _ _ _, _ => []
  | e, false => [.rng e (some 0, some 0)]
  | e, true => push k e (match (bnd k e).1 with | some l => if ieq l 0 then some 1 else some l | none => none, none)
theorem derive_holds {ρ : Env} {k : Known} (hk : Known.holds ρ k) {e : E} {b : Bool} (h : e.den ρ ≠ 0 ↔ b = true) : ∀ f ∈ derive k e b, f.holds ρ := by
  intro f hf
  unfold derive at hf
  split at hf
  · rename_i i j
    rw [List.mem_singleton.1 hf]
    simp only [E.den, BO.den] at h
    show ρ.v i = ρ.v j
    by_cases hh : ρ.v i = ρ.v j
    · exact hh
    · simp [hh] at h
  · rename_i x n
    simp only [E.den, BO.den] at h
    have hx : x.den ρ = n := by
      by_cases hh : x.den ρ = n
      · exact hh
      · simp [hh] at h
    exact push_holds hk x _ ⟨fun m hm => (by cases hm; omega), fun m hm => (by cases hm; omega)⟩ f hf
  · rename_i x n
    simp only [E.den, BO.den] at h
    have hx : x.den ρ ≠ n := by
      intro hh
      simp [hh] at h
    have hb := bnd_has hk x
    have up : ∀ hi, (bnd k x).2 = some hi → ∀ f ∈ (if ieq hi n then push k x (none, some (n - 1)) else []), f.holds ρ := by
      intro hi hhi f hf
      split at hf
      · rename_i hc
        have h1 := ieq_eq hc; have h2 := hb.2 _ hhi
        exact push_holds hk x _ ⟨fun m hm => (by cases hm), fun m hm => (by cases hm; omega)⟩ f hf
      · cases hf
    split at hf
    · rename_i lo hi hlo
      split at hf
      · rename_i hc
        have h1 := ieq_eq hc; have h2 := hb.1 lo (by rw [hlo])
        exact push_holds hk x _ ⟨fun m hm => (by cases hm; omega), fun m hm => (by cases hm)⟩ f hf
      · split at hf
        · exact up _ (by rw [hlo]) f hf
        · cases hf
    · rename_i hi hlo
      exact up _ (by rw [hlo]) f hf
    · cases hf
  · rename_i x n
    simp only [E.den, BO.den] at h
    have hx : x.den ρ < n := by
      by_cases hh : x.den ρ < n
      · exact hh
      · simp [hh] at h
    exact push_holds hk x _ ⟨fun m hm => (by cases hm), fun m hm => (by cases hm; omega)⟩ f hf
  · rename_i x n
    simp only [E.den, BO.den] at h
    have hx : ¬ x.den ρ < n := by
      intro hh
      simp [hh] at h
    exact push_holds hk x _ ⟨fun m hm => (by cases hm; omega), fun m hm => (by cases hm)⟩ f hf
  · rename_i x y _
    simp only [E.den, BO.den] at h
    have hx : x.den ρ < y.den ρ := by
      by_cases hh : x.den ρ < y.den ρ
      · exact hh
      · simp [hh] at h
    have hbx := bnd_has hk x
    have hby := bnd_has hk y
    rcases List.mem_append.1 hf with hf | hf
    · refine push_holds hk x _ ⟨fun m hm => (by cases hm), fun m hm => ?_⟩ f hf
      cases hy : (bnd k y).2 <;> simp [dropOne, hy] at hm
      have := hby.2 _ hy; omega
    · refine push_holds hk y _ ⟨fun m hm => ?_, fun m hm => (by cases hm)⟩ f hf
      cases hy : (bnd k x).1 <;> simp [dropOne, hy] at hm
      have := hbx.1 _ hy; omega
  · rename_i x y _
    simp only [E.den, BO.den] at h
    have hx : ¬ x.den ρ < y.den ρ := by
      intro hh
      simp [hh] at h
    have hbx := bnd_has hk x
    have hby := bnd_has hk y
    rcases List.mem_append.1 hf with hf | hf
    · refine push_holds hk y _ ⟨fun m hm => (by cases hm), fun m hm => ?_⟩ f hf
      have := hbx.2 _ hm; omega
    · refine push_holds hk x _ ⟨fun m hm => ?_, fun m hm => (by cases hm)⟩ f hf
      have := hby.1 _ hm; omega
  · cases hf
  · rw [List.mem_singleton.1 hf]
    have h0 : e.den ρ = 0 := by
      by_cases hh : e.den ρ = 0
      · exact hh
      · simp [hh] at h
    exact ⟨fun m hm => (by cases hm; omega), fun m hm => (by cases hm; omega)⟩
  · have hh : e.den ρ ≠ 0 := h.2 rfl
    refine push_holds hk e _ ⟨fun m hm => ?_, fun m hm => (by cases hm)⟩ f hf
    have hb := bnd_has hk e
    simp only at hm
    split at hm
    · rename_i l hl
      have := hb.1 _ hl
      split at hm
      · rename_i hc; have := ieq_eq hc; cases hm; omega
      · cases hm; omega
    · cases hm

/-- The normal form of what is under the first operation. -/
def normIn (k : Known) : E → E
  | .bin o a b => mkBin o (norm k a) (norm k b)
  | .un o a => mkUn o (norm k a)
  | e => norm k e
theorem normIn_den {ρ : Env} {k : Known} (hk : Known.holds ρ k) (e : E) : (normIn k e).den ρ = e.den ρ := by
  unfold normIn
  split
  · simp only [mkBin_den, norm_den hk, E.den]
  · simp only [mkUn_den, norm_den hk, E.den]
  · exact norm_den hk _
/-- Does what is known speak against the test's outcome? -/
def badTr (k : Known) (e : E) (b : Bool) : Bool :=
  match canon e with
  | (.lit n, p) => ((!ieq n 0) == p) != b
  | (a, p) => (match trOf a k with | some v => (v == p) != b | none => false) ||
    (match a with
    | .bin .lt x y => match ltB (bnd k x) (bnd k y) with | some v => (v == p) != b | none => false
    | .bin .eq x y => match eqB (bnd k x) (bnd k y) with | some v => (v == p) != b | none => false
    | _ => false)
theorem badTr_sound {ρ : Env} {k : Known} (hk : Known.holds ρ k) {e : E} {b : Bool} (h : e.den ρ ≠ 0 ↔ b = true) : badTr k e b = false := by
  unfold badTr
  have hc := canon_den ρ e
  generalize canon e = r at *
  obtain ⟨a, p⟩ := r
  have key : ∀ v : Bool, (a.den ρ ≠ 0 ↔ v = true) → ((v == p) != b) = false := by
    intro v hv
    simp only at hc
    rw [h, hv] at hc
    clear hv h
    revert hc
    cases b <;> cases v <;> cases p <;> decide
  split
  · rename_i n p' he
    cases he
    refine key _ ?_
    simp only [E.den]
    cases h0 : ieq n 0
    · simp [ieq_ne h0]
    · simp [ieq_eq h0]
  · rename_i a' p' _ he
    cases he
    rw [Bool.or_eq_false_iff]
    constructor
    · split
      · rename_i v hv
        exact key v (trOf_den hk hv)
      · rfl
    · split
      · rename_i x y _
        split
        · rename_i v hv
          refine key v ?_
          rw [← ltB_sound (bnd_has hk x) (bnd_has hk y) hv]
          simp only [E.den, BO.den]
          by_cases h1 : x.den ρ < y.den ρ <;> simp [h1]
        · rfl
      · rename_i x y _
        split
        · rename_i v hv
          refine key v ?_
          rw [← eqB_sound (bnd_has hk x) (bnd_has hk y) hv]
          simp only [E.den, BO.den]
          by_cases h1 : x.den ρ = y.den ρ <;> simp [h1]
        · rfl
      · rfl
/-- Which variables an expression speaks of. -/
def E.mask : E → Nat
  | .lit _ => 0
  | .var i => Nat.pow 2 i
  | .un _ a => a.mask
  | .bin _ a b => Nat.lor a.mask b.mask
  | .ite c a b => Nat.lor c.mask (Nat.lor a.mask b.mask)
  | .get t i _ => Nat.lor t.mask i.mask
  | .upd t i _ v => Nat.lor t.mask (Nat.lor i.mask v.mask)
  | .tv q => Nat.pow 2 (Nat.add 1000 q)
  | .app _ _ _ => Nat.pow 2 999
def Fact.mask : Fact → Nat
  | .tr e _ => e.mask
  | .rng e _ => e.mask
  | .rep i j => Nat.lor (Nat.pow 2 i) (Nat.pow 2 j)
def maskAll : List Fact → Nat
  | [] => 0
  | f :: r => Nat.lor f.mask (maskAll r)
def emptyB (r : Bd) : Bool := match r with
  | (some lo, some hi) => match ile lo hi with | true => false | false => true
  | _ => false
theorem emptyB_sound {r : Bd} {n : Int} (h : r.has n) : emptyB r = false := by
  unfold emptyB
  split
  · rename_i lo hi
    have h1 := h.1 _ rfl; have h2 := h.2 _ rfl
    rw [ile_iff.2 (show lo ≤ hi by omega)]
  · rfl
/-- Are the bounds that are new empty? -/
def badRngs (k : Known) : List Fact → Bool
  | [] => false
  | .rng e _ :: r => match emptyB (bnd k (normIn k e)) with | true => true | false => match emptyB (rngOf e k) with | true => true | false => badRngs k r
  | _ :: r => badRngs k r
/-- Of the tests, those that speak of what the new facts speak of. -/
def badTests (k : Known) (m : Nat) : List (E × Bool) → Bool
  | [] => false
  | (e, b) :: r => match Nat.beq (Nat.land e.mask m) 0 with
    | true => badTests k m r
    | false => match badTr k (normIn k e) b with | true => true | false => badTests k m r
theorem badRngs_sound {ρ : Env} {k : Known} (hk : Known.holds ρ k) : ∀ l : List Fact, badRngs k l = false
  | [] => rfl
  | .rng e _ :: r => by
    unfold badRngs
    have h1 := bnd_has hk (normIn k e)
    rw [emptyB_sound h1, emptyB_sound (rngOf_has (e := e) hk)]
    exact badRngs_sound hk r
  | .tr _ _ :: r => by unfold badRngs; exact badRngs_sound hk r
  | .rep _ _ :: r => by unfold badRngs; exact badRngs_sound hk r
theorem badTests_sound {ρ : Env} {k : Known} (hk : Known.holds ρ k) (m : Nat) : ∀ l : List (E × Bool), (∀ p ∈ l, (p.1.den ρ ≠ 0 ↔ p.2 = true)) → badTests k m l = false
  | [], _ => rfl
  | (e, b) :: r, h => by
    unfold badTests
    have h1 : badTr k (normIn k e) b = false := badTr_sound hk (by rw [normIn_den hk]; exact h _ (List.mem_cons_self ..))
    rw [h1, badTests_sound hk m r fun p hp => h p (List.mem_cons_of_mem _ hp)]
    split <;> rfl
def Known.mark : Known → Bool → Known
  | ⟨vb, rp, ex, tr, _⟩, b => ⟨vb, rp, ex, tr, b⟩
/-- What is known behind a test. -/
def assume (k : Known) (c : E) (b : Bool) : Known :=
  match canon (norm k c) with
  | (a, p) =>
    let fs := derive k a (b == p)
    let k' := (k.add (.tr a (b == p))).adds fs
    k'.mark (k.no || (badRngs k' fs || badTests k' (Nat.lor a.mask (maskAll fs)) k'.tr))
def eqvB (a b : Bool) : Bool := match a with | true => b | false => (match b with | true => false | false => true)
theorem eqvB_eq (a b : Bool) : eqvB a b = (a == b) := by cases a <;> cases b <;> rfl
def orB (a b : Bool) : Bool := match a with | true => true | false => b
theorem orB_eq (a b : Bool) : orB a b = (a || b) := by cases a <;> rfl
def factK {R : Type} (f : Fact) (k : Fact → R) : R := match f with
  | .tr e b => E.deepK e fun e => boolK b fun b => k (.tr e b)
  | .rng e r => E.deepK e fun e => bdK r fun r => k (.rng e r)
  | .rep i j => natK i fun i => natK j fun j => k (.rep i j)
theorem factK_eq {R : Type} (f : Fact) (k : Fact → R) : factK f k = k f := by
  cases f <;> simp only [factK, E.deepK_eq, boolK_eq, bdK_eq, natK_eq]
/-- As 'assume', what is built handed on. -/
def assumeK {R : Type} (k : Known) (c : E) (b : Bool) (K : Known → R) : R :=
  match canon (norm k c) with
  | (a, p) => E.deepK a fun a => boolK (eqvB b p) fun q => listK factK (derive k a q) fun fs =>
    k.addK (.tr a q) fun k1 => k1.addsK fs fun k' =>
      boolK (orB k.no (orB (badRngs k' fs) (badTests k' (Nat.lor a.mask (maskAll fs)) k'.tr))) fun no => K (match k' with | ⟨vb, rp, ex, tr, _⟩ => ⟨vb, rp, ex, tr, no⟩)
theorem assumeK_eq {R : Type} (k : Known) (c : E) (b : Bool) (K : Known → R) : assumeK k c b K = K (assume k c b) := by
  unfold assumeK assume
  cases canon (norm k c)
  simp only [E.deepK_eq, boolK_eq, listK_eq factK_eq, Known.addK_eq, Known.addsK_eq, eqvB_eq, orB_eq]
  rfl
def bad (k : Known) : Bool := k.no
theorem mark_imp {ρ : Env} {k : Known} {b : Bool} (h : Known.holds ρ (k.mark b)) (hn : k.no = false) : Known.holds ρ k := by
  obtain ⟨vb, rp, ex, tr, no⟩ := k
  exact ⟨h.vb, h.rp, h.ex, h.tr, hn⟩
theorem add_no (k : Known) (f : Fact) : (k.add f).no = k.no := by
  obtain ⟨vb, rp, ex, tr, no⟩ := k
  unfold Known.add
  split <;> first | (cases ‹Known.mk _ _ _ _ _ = _›; rfl) | (cases ‹Known.mk _ _ _ _ _ = _›; split <;> rfl) | rfl
theorem adds_no : ∀ (l : List Fact) (k : Known), (k.adds l).no = k.no
  | [], _ => rfl
  | f :: r, k => (adds_no r (k.add f)).trans (add_no k f)
theorem assume_holds {ρ : Env} {k : Known} (hk : Known.holds ρ k) {c : E} {b : Bool} (h : c.den ρ ≠ 0 ↔ b = true) : Known.holds ρ (assume k c b) := by
  unfold assume
  have hc := canon_den ρ (norm k c)
  rw [norm_den hk] at hc
  generalize canon (norm k c) = r at *
  obtain ⟨a, p⟩ := r
  simp only at hc ⊢
  have ha : a.den ρ ≠ 0 ↔ (b == p) = true := by
    by_cases h1 : a.den ρ = 0 <;> by_cases h2 : c.den ρ = 0 <;> cases b <;> cases p <;> simp_all
  have hk' : Known.holds ρ ((k.add (.tr a (b == p))).adds (derive k a (b == p))) := Known.adds_holds (Known.add_iff.1 hk ha) fun f hf => derive_holds hk ha f hf
  generalize (k.add (.tr a (b == p))).adds (derive k a (b == p)) = k' at *
  rw [hk.no, badRngs_sound hk', badTests_sound hk' _ _ hk'.tr]
  obtain ⟨vb, rp, ex, tr, no⟩ := k'
  exact ⟨hk'.vb, hk'.rp, hk'.ex, hk'.tr, rfl⟩
theorem bad_sound {ρ : Env} {k : Known} (hk : Known.holds ρ k) : bad k = false := hk.no
theorem add_tr_holds {ρ : Env} {k : Known} {e : E} {b : Bool} (h : Known.holds ρ (k.add (.tr e b))) : e.den ρ ≠ 0 ↔ b = true := by
  obtain ⟨vb, rp, ex, tr, no⟩ := k
  exact h.tr (e, b) (List.mem_cons_self ..)
theorem assume_imp {ρ : Env} {k : Known} {c : E} {b : Bool} (h : Known.holds ρ (assume k c b)) : Known.holds ρ k ∧ (c.den ρ ≠ 0 ↔ b = true) := by
  have key : ∀ a p, canon (norm k c) = (a, p) → Known.holds ρ k ∧ (c.den ρ ≠ 0 ↔ b = true) := by
    intro a p he
    unfold assume at h
    rw [he] at h
    simp only at h
    have hno := h.no
    have hno' : k.no = false := by
      have : (k.no || (badRngs ((k.add (.tr a (b == p))).adds (derive k a (b == p))) (derive k a (b == p)) || badTests ((k.add (.tr a (b == p))).adds (derive k a (b == p))) (Nat.lor a.mask (maskAll (derive k a (b == p)))) ((k.add (.tr a (b == p))).adds (derive k a (b == p))).tr)) = false := by
        generalize (k.add (.tr a (b == p))).adds (derive k a (b == p)) = k' at *
        obtain ⟨vb, rp, ex, tr, no⟩ := k'
        exact hno
      exact (Bool.or_eq_false_iff.1 this).1
    have h1 := Known.adds_imp (mark_imp h (by rw [adds_no, add_no]; exact hno'))
    have hk := Known.add_iff.2 h1
    have ht := add_tr_holds h1
    have hc := canon_den ρ (norm k c)
    rw [he, norm_den hk] at hc
    refine ⟨hk, ?_⟩
    simp only at hc
    by_cases h1 : a.den ρ = 0 <;> by_cases h2 : c.den ρ = 0 <;> cases b <;> cases p <;> simp_all
  exact key _ _ rfl
end
end Go.Sx
