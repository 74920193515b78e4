/-
  SX, PART 3: DECIDING A TEST FROM WHAT IS KNOWN; TAKING A TEST'S OUTCOME INTO WHAT IS KNOWN.
-/
import Derived.Test.YtcobklmobbfolaaSxK
namespace Go.Sx

/-- A test without 'not': the atom, and whether it stands for itself (true) or for its contrary. -/
def canon : E → E × Bool
  | .un .not a => ((canon a).1, !(canon a).2)
  | .bin .eq (.lit n) (.lit m) => (.bin .eq (.lit n) (.lit m), true)
  | .bin .eq (.lit n) b => (.bin .eq b (.lit n), true)
  | .bin .lt (.lit n) (.lit m) => (.bin .lt (.lit n) (.lit m), true)
  | .bin .lt (.lit n) b => (.bin .lt b (.lit (n + 1)), false)
  | .bin .beq a (.lit n) => if ieq n 0 then ((canon a).1, !(canon a).2) else canon a
  | e => (e, true)
theorem canon_den (ρ : Env) : ∀ e : E, (e.den ρ ≠ 0) ↔ ((canon e).1.den ρ ≠ 0 ↔ (canon e).2 = true) := by
  intro e
  fun_induction canon e with
  | case1 a ih =>
    simp only [E.den, UO.den]
    by_cases h : a.den ρ = 0
    · have := (not_congr ih).1 (by simpa using h)
      cases hc : (canon a).2 <;> simp_all
    · have := ih.1 h
      cases hc : (canon a).2 <;> simp_all
  | case2 n m => simp
  | case3 n b h =>
    simp only [E.den, BO.den]
    by_cases h' : n = b.den ρ
    · simp [h']
    · simp [h', Ne.symm h']
  | case4 n m => simp
  | case5 n b h =>
    simp only [E.den, BO.den]
    by_cases h' : n < b.den ρ
    · have : ¬ b.den ρ < n + 1 := by omega
      simp [h', this]
    · have : b.den ρ < n + 1 := by omega
      simp [h', this]
  | case6 a n h ih =>
    have hn := ieq_eq h
    subst hn
    simp only [E.den, BO.den]
    by_cases h : a.den ρ = 0
    · have := (not_congr ih).1 (by simpa using h)
      cases hc : (canon a).2 <;> simp_all
    · have := ih.1 h
      cases hc : (canon a).2 <;> simp_all
  | case7 a n h ih =>
    have hn := ieq_ne (by simpa using h)
    simp only [E.den, BO.den]
    rw [← ih]
    by_cases h : a.den ρ = 0 <;> simp [h, hn]
  | case8 e => simp

def ltB (r s : Bd) : Option Bool :=
  match r.2, s.1 with
  | some h, some l => if ile l h then (match r.1, s.2 with | some l', some h' => if ile h' l' then some false else none | _, _ => none) else some true
  | _, _ => match r.1, s.2 with | some l', some h' => if ile h' l' then some false else none | _, _ => none
theorem ltB_sound {r s : Bd} {x y : Int} {b : Bool} (hr : r.has x) (hs : s.has y) (h : ltB r s = some b) : (x < y ↔ b = true) := by
  have no : (match r.1, s.2 with | some l', some h' => if ile h' l' then some false else none | _, _ => (none : Option Bool)) = some b → (x < y ↔ b = true) := by
    intro h
    split at h
    · rename_i l' h' h1 h2
      split at h
      · rename_i hc
        have := ile_iff.1 hc; have := hr.1 _ h1; have := hs.2 _ h2
        cases h; constructor
        · intro; omega
        · intro h; cases h
      · cases h
    · cases h
  unfold ltB at h
  split at h
  · rename_i a c h1 h2
    split at h
    · exact no h
    · rename_i hc
      have := ile_false (by simpa using hc); have := hr.2 _ h1; have := hs.1 _ h2
      cases h; constructor
      · intro; rfl
      · intro; omega
  · exact no h
def eqB (r s : Bd) : Option Bool :=
  match ltB r s with
  | some true => some false
  | _ => match ltB s r with | some true => some false | _ => none
theorem eqB_sound {r s : Bd} {x y : Int} {b : Bool} (hr : r.has x) (hs : s.has y) (h : eqB r s = some b) : (x = y ↔ b = true) := by
  unfold eqB at h
  split at h
  · rename_i h1
    have := (ltB_sound hr hs h1).2 rfl
    cases h; constructor
    · intro; omega
    · intro h; cases h
  · split at h
    · rename_i h1
      have := (ltB_sound hs hr h1).2 rfl
      cases h; constructor
      · intro; omega
      · intro h; cases h
    · cases h
def nzB (r : Bd) : Option Bool :=
  match eqB r (some 0, some 0) with
  | some false => some true
  | _ => match r with | (some lo, some hi) => if ieq lo 0 && ieq hi 0 then some false else none | _ => none
theorem nzB_sound {r : Bd} {x : Int} {b : Bool} (hr : r.has x) (h : nzB r = some b) : (x ≠ 0 ↔ b = true) := by
  unfold nzB at h
  split at h
  · rename_i h1
    have := eqB_sound (y := 0) hr ⟨fun m hm => (by cases hm; omega), fun m hm => (by cases hm; omega)⟩ h1
    cases h
    simp at this
    simp [this]
  · split at h
    · rename_i lo hi
      split at h
      · rename_i hc
        simp only [Bool.and_eq_true] at hc
        have h1 := ieq_eq hc.1; have h2 := ieq_eq hc.2
        have := hr.1 _ rfl; have := hr.2 _ rfl
        cases h
        simp
        omega
      · cases h
    · cases h

def decAtom (k : Known) (c : E) : Option Bool :=
  match c with
  | .lit n => some (!ieq n 0)
  | c =>
    match trOf c k with
    | some b => some b
    | none =>
      match c with
      | .bin .lt a b => ltB (bnd k a) (bnd k b)
      | .bin .eq a b => eqB (bnd k a) (bnd k b)
      | c => nzB (bnd k c)
theorem decAtom_sound {ρ : Env} {k : Known} (hk : Known.holds ρ k) {c : E} {b : Bool} (h : decAtom k c = some b) : (c.den ρ ≠ 0 ↔ b = true) := by
  unfold decAtom at h
  split at h
  · rename_i n
    cases h
    simp only [E.den]
    cases hn : ieq n 0
    · simp [ieq_ne hn]
    · simp [ieq_eq hn]
  · split at h
    · rename_i b' hb
      cases h
      exact trOf_den hk hb
    · split at h
      · rename_i a b' _ _
        have := ltB_sound (bnd_has hk a) (bnd_has hk b') h
        simp only [E.den, BO.den]
        rw [← this]
        by_cases hh : a.den ρ < b'.den ρ <;> simp [hh]
      · rename_i a b' _ _
        have := eqB_sound (bnd_has hk a) (bnd_has hk b') h
        simp only [E.den, BO.den]
        rw [← this]
        by_cases hh : a.den ρ = b'.den ρ <;> simp [hh]
      · exact nzB_sound (bnd_has hk _) h

def dec (k : Known) (c : E) : Option Bool :=
  match canon (norm k c) with
  | (a, p) => match decAtom k a with | some b => some (b == p) | none => none
theorem dec_sound {ρ : Env} {k : Known} (hk : Known.holds ρ k) {c : E} {b : Bool} (h : dec k c = some b) : (c.den ρ ≠ 0 ↔ b = true) := by
  unfold dec at h
  have hc := canon_den ρ (norm k c)
  rw [norm_den hk] at hc
  generalize canon (norm k c) = r at *
  obtain ⟨a, p⟩ := r
  simp only at h hc
  split at h
  · rename_i b' hb
    cases h
    have := decAtom_sound hk hb
    rw [hc, this]
    cases b' <;> cases p <;> simp
  · cases h

/-! ### what follows from a test -/
/-- Does a number of these bounds, brought into the kind with a result of those bounds, stay what it is? -/
def exact_ (q : IntKind) (real res : Bd) : Bool :=
  match real, res with
  | (some lo, some hi), (some a, some b) => !ile (lo + (kmod q : Int)) b && !ile a (hi - (kmod q : Int))
  | _, _ => false
theorem wrap_congr (q : IntKind) (x : Int) : ∃ t : Int, q.wrap x = x + t * (kmod q : Int) := by
  rw [← wrapF_eq]
  unfold wrapF
  simp only []
  have h := Int.mul_ediv_add_emod x (kmod q : Int)
  by_cases hc : ile (x % (kmod q : Int)) (kmax q) = true
  · rw [if_pos hc]
    refine ⟨-(x / (kmod q : Int)), ?_⟩
    rw [Int.neg_mul, Int.mul_comm (x / _)]
    omega
  · rw [if_neg hc]
    refine ⟨-(x / (kmod q : Int)) - 1, ?_⟩
    rw [Int.sub_mul, Int.neg_mul, Int.mul_comm (x / _)]
    omega
theorem exact_sound {q : IntKind} {real res : Bd} {x : Int} (h : exact_ q real res = true) (hr : real.has x) (hs : res.has (q.wrap x)) : q.wrap x = x := by
  unfold exact_ at h
  split at h
  · rename_i lo hi a b
    simp only [Bool.and_eq_true, Bool.not_eq_true'] at h
    have h1 := ile_false h.1; have h2 := ile_false h.2
    have h3 := hr.1 _ rfl; have h4 := hr.2 _ rfl; have h5 := hs.1 _ rfl; have h6 := hs.2 _ rfl
    obtain ⟨t, ht⟩ := wrap_congr q x
    have hp : (0 : Int) < (kmod q : Int) := by cases q <;> decide
    rcases Int.lt_trichotomy t 0 with h0 | h0 | h0
    · have : t * (kmod q : Int) ≤ -1 * (kmod q : Int) := Int.mul_le_mul_of_nonneg_right (by omega) (by omega)
      omega
    · rw [h0] at ht; omega
    · have : 1 * (kmod q : Int) ≤ t * (kmod q : Int) := Int.mul_le_mul_of_nonneg_right (by omega) (by omega)
      omega
  · cases h
def plusB (r : Bd) (n : Int) : Bd := (r.1.map (· + n), r.2.map (· + n))
theorem plusB_has {r : Bd} {x n : Int} (h : r.has x) : (plusB r n).has (x + n) := by
  obtain ⟨l, u⟩ := r
  refine ⟨fun m hm => ?_, fun m hm => ?_⟩
  · cases l <;> simp [plusB] at hm
    have := h.1 _ rfl; omega
  · cases u <;> simp [plusB] at hm
    have := h.2 _ rfl; omega
def factOf (e : E) (r : Bd) : Fact :=
  match r with
  | (some lo, some hi) => if ieq lo hi then .eqv e lo else .rng e (some lo) (some hi)
  | (lo, hi) => .rng e lo hi
theorem factOf_holds {ρ : Env} {e : E} {r : Bd} (h : r.has (e.den ρ)) : (factOf e r).holds ρ := by
  unfold factOf
  split
  · rename_i lo hi
    split
    · rename_i hc
      have := ieq_eq hc; have := h.1 _ rfl; have := h.2 _ rfl
      show e.den ρ = lo
      omega
    · exact h
  · exact h
/-- A range of an expression, handed down to what it is made of. -/
def push (k : Known) : E → Bd → List Fact
  | .lit _, _ => []
  | .un (.wrap q) y, r =>
    let r := r.meet (bnd k (.un (.wrap q) y))
    factOf (.un (.wrap q) y) r :: (if exact_ q (bnd k y) r then push k y r else [])
  | .bin (.add q) y (.lit m), r =>
    let r := r.meet (bnd k (.bin (.add q) y (.lit m)))
    factOf (.bin (.add q) y (.lit m)) r :: (if exact_ q (plusB (bnd k y) m) r then push k y (plusB r (-m)) else [])
  | .bin (.sub q) y (.lit m), r =>
    let r := r.meet (bnd k (.bin (.sub q) y (.lit m)))
    factOf (.bin (.sub q) y (.lit m)) r :: (if exact_ q (plusB (bnd k y) (-m)) r then push k y (plusB r m) else [])
  | e, r => [factOf e (r.meet (bnd k e))]
theorem push_holds {ρ : Env} {k : Known} (hk : Known.holds ρ k) (e : E) (r : Bd) : r.has (e.den ρ) → ∀ f ∈ push k e r, f.holds ρ := by
  fun_induction push k e r with
  | case1 => intro _ f hf; cases hf
  | case2 q y r r' ih =>
    intro h f hf
    have h' : r'.has ((E.un (.wrap q) y).den ρ) := Bd.meet_has h (bnd_has hk _)
    rcases List.mem_cons.1 hf with rfl | hf
    · exact factOf_holds h'
    · split at hf
      · rename_i hc
        have he := exact_sound hc (bnd_has hk y) (by simpa only [E.den, UO.den] using h')
        refine ih ?_ f hf
        simp only [E.den, UO.den] at h'
        rw [he] at h'
        exact h'
      · cases hf
  | case3 q y m r r' ih =>
    intro h f hf
    have h' : r'.has ((E.bin (.add q) y (.lit m)).den ρ) := Bd.meet_has h (bnd_has hk _)
    rcases List.mem_cons.1 hf with rfl | hf
    · exact factOf_holds h'
    · split at hf
      · rename_i hc
        have he := exact_sound hc (plusB_has (bnd_has hk y)) (by simpa only [E.den, BO.den] using h')
        refine ih ?_ f hf
        simp only [E.den, BO.den] at h'
        rw [he] at h'
        have := plusB_has (n := -m) h'
        rwa [show y.den ρ + m + -m = y.den ρ by omega] at this
      · cases hf
  | case4 q y m r r' ih =>
    intro h f hf
    have h' : r'.has ((E.bin (.sub q) y (.lit m)).den ρ) := Bd.meet_has h (bnd_has hk _)
    rcases List.mem_cons.1 hf with rfl | hf
    · exact factOf_holds h'
    · split at hf
      · rename_i hc
        have e1 : y.den ρ - m = y.den ρ + -m := by omega
        have he := exact_sound hc (plusB_has (bnd_has hk y)) (by simpa only [E.den, BO.den, e1] using h')
        refine ih ?_ f hf
        simp only [E.den, BO.den, e1] at h'
        rw [he] at h'
        have := plusB_has (n := m) h'
        rwa [show y.den ρ + -m + m = y.den ρ by omega] at this
      · cases hf
  | case5 e r =>
    intro h f hf
    rw [List.mem_singleton.1 hf]
    exact factOf_holds (Bd.meet_has h (bnd_has hk _))

def dropOne (x : Option Int) (n : Int) : Option Int := x.map (· + n)
/-- What an atom's outcome says of numbers. -/
def derive (k : Known) : E → Bool → List Fact
  | .bin .eq x (.lit n), true => push k x (some n, some n)
  | .bin .eq x (.lit n), false =>
    match bnd k x with
    | (some lo, hi) => if ieq lo n then push k x (some (n + 1), none) else (match hi with | some hi => if ieq hi n then push k x (none, some (n - 1)) else [] | none => [])
    | (none, some hi) => if ieq hi n then push k x (none, some (n - 1)) else []
    | _ => []
  | .bin .lt x (.lit n), true => push k x (none, some (n - 1))
  | .bin .lt x (.lit n), false => push k x (some n, none)
  | .bin .lt x y, true => push k x (none, dropOne (bnd k y).2 (-1)) ++ push k y (dropOne (bnd k x).1 1, none)
  | .bin .lt x y, false => push k y (none, (bnd k x).2) ++ push k x ((bnd k y).1, none)
  | .bin _ _ _, _ => []
  | e, false => [.eqv e 0]
  | e, true => push k e (match (bnd k e).1 with | some l => if ieq l 0 then some 1 else some l | none => none, none)
theorem derive_holds {ρ : Env} {k : Known} (hk : Known.holds ρ k) {e : E} {b : Bool} (h : e.den ρ ≠ 0 ↔ b = true) : ∀ f ∈ derive k e b, f.holds ρ := by
  intro f hf
  unfold derive at hf
  split at hf
  · rename_i x n
    simp only [E.den, BO.den] at h
    have hx : x.den ρ = n := by
      by_cases hh : x.den ρ = n
      · exact hh
      · simp [hh] at h
    exact push_holds hk x _ ⟨fun m hm => (by cases hm; omega), fun m hm => (by cases hm; omega)⟩ f hf
  · rename_i x n
    simp only [E.den, BO.den] at h
    have hx : x.den ρ ≠ n := by
      intro hh
      simp [hh] at h
    have hb := bnd_has hk x
    have up : ∀ hi, (bnd k x).2 = some hi → ∀ f ∈ (if ieq hi n then push k x (none, some (n - 1)) else []), f.holds ρ := by
      intro hi hhi f hf
      split at hf
      · rename_i hc
        have h1 := ieq_eq hc; have h2 := hb.2 _ hhi
        exact push_holds hk x _ ⟨fun m hm => (by cases hm), fun m hm => (by cases hm; omega)⟩ f hf
      · cases hf
    split at hf
    · rename_i lo hi hlo
      split at hf
      · rename_i hc
        have h1 := ieq_eq hc; have h2 := hb.1 lo (by rw [hlo])
        exact push_holds hk x _ ⟨fun m hm => (by cases hm; omega), fun m hm => (by cases hm)⟩ f hf
      · split at hf
        · exact up _ (by rw [hlo]) f hf
        · cases hf
    · rename_i hi hlo
      exact up _ (by rw [hlo]) f hf
    · cases hf
  · rename_i x n
    simp only [E.den, BO.den] at h
    have hx : x.den ρ < n := by
      by_cases hh : x.den ρ < n
      · exact hh
      · simp [hh] at h
    exact push_holds hk x _ ⟨fun m hm => (by cases hm), fun m hm => (by cases hm; omega)⟩ f hf
  · rename_i x n
    simp only [E.den, BO.den] at h
    have hx : ¬ x.den ρ < n := by
      intro hh
      simp [hh] at h
    exact push_holds hk x _ ⟨fun m hm => (by cases hm; omega), fun m hm => (by cases hm)⟩ f hf
  · rename_i x y _
    simp only [E.den, BO.den] at h
    have hx : x.den ρ < y.den ρ := by
      by_cases hh : x.den ρ < y.den ρ
      · exact hh
      · simp [hh] at h
    have hbx := bnd_has hk x
    have hby := bnd_has hk y
    rcases List.mem_append.1 hf with hf | hf
    · refine push_holds hk x _ ⟨fun m hm => (by cases hm), fun m hm => ?_⟩ f hf
      cases hy : (bnd k y).2 <;> simp [dropOne, hy] at hm
      have := hby.2 _ hy; omega
    · refine push_holds hk y _ ⟨fun m hm => ?_, fun m hm => (by cases hm)⟩ f hf
      cases hy : (bnd k x).1 <;> simp [dropOne, hy] at hm
      have := hbx.1 _ hy; omega
  · rename_i x y _
    simp only [E.den, BO.den] at h
    have hx : ¬ x.den ρ < y.den ρ := by
      intro hh
      simp [hh] at h
    have hbx := bnd_has hk x
    have hby := bnd_has hk y
    rcases List.mem_append.1 hf with hf | hf
    · refine push_holds hk y _ ⟨fun m hm => (by cases hm), fun m hm => ?_⟩ f hf
      have := hbx.2 _ hm; omega
    · refine push_holds hk x _ ⟨fun m hm => ?_, fun m hm => (by cases hm)⟩ f hf
      have := hby.1 _ hm; omega
  · cases hf
  · rw [List.mem_singleton.1 hf]
    show e.den ρ = 0
    by_cases hh : e.den ρ = 0
    · exact hh
    · simp [hh] at h
  · have hh : e.den ρ ≠ 0 := h.2 rfl
    refine push_holds hk e _ ⟨fun m hm => ?_, fun m hm => (by cases hm)⟩ f hf
    have hb := bnd_has hk e
    simp only at hm
    split at hm
    · rename_i l hl
      have := hb.1 _ hl
      split at hm
      · rename_i hc; have := ieq_eq hc; cases hm; omega
      · cases hm; omega
    · cases hm

def assume (k : Known) (c : E) (b : Bool) : Known :=
  match canon (norm k c) with
  | (a, p) => derive k a (b == p) ++ (.tr a (b == p) :: k)
theorem assume_holds {ρ : Env} {k : Known} (hk : Known.holds ρ k) {c : E} {b : Bool} (h : c.den ρ ≠ 0 ↔ b = true) : Known.holds ρ (assume k c b) := by
  unfold assume
  have hc := canon_den ρ (norm k c)
  rw [norm_den hk] at hc
  generalize canon (norm k c) = r at *
  obtain ⟨a, p⟩ := r
  simp only at hc ⊢
  have ha : a.den ρ ≠ 0 ↔ (b == p) = true := by
    by_cases h1 : a.den ρ = 0 <;> by_cases h2 : c.den ρ = 0 <;> cases b <;> cases p <;> simp_all
  intro f hf
  rcases List.mem_append.1 hf with hf | hf
  · exact derive_holds hk ha f hf
  · rcases List.mem_cons.1 hf with rfl | hf
    · exact ha
    · exact hk f hf

/-- Do the facts contradict one another? -/
def badFact (k : Known) : Fact → Bool
  | .tr e b => match norm k e with
    | .lit n => (!ieq n 0) != b
    | e' => match canon e' with
      | (.bin .lt x y, p) => match ltB (bnd k x) (bnd k y) with | some v => (v == p) != b | none => false
      | (.bin .eq x y, p) => match eqB (bnd k x) (bnd k y) with | some v => (v == p) != b | none => false
      | _ => false
  | .eqv e n => match bnd k e with
    | (some lo, some hi) => !ile lo n || !ile n hi
    | _ => false
  | .rng e _ _ => match bnd k (norm k e), rngOf e k with
    | (lo, hi), (lo', hi') => (match lo, hi' with | some a, some b => !ile a b | _, _ => false) || (match lo', hi with | some a, some b => !ile a b | _, _ => false)
theorem badFact_sound {ρ : Env} {k : Known} (hk : Known.holds ρ k) {f : Fact} (hf : f.holds ρ) : badFact k f = false := by
  cases f with
  | tr e b =>
    have hn := norm_den hk e
    simp only [Fact.holds] at hf
    simp only [badFact]
    split
    · rename_i n hl
      rw [hl] at hn
      simp only [E.den] at hn
      cases h0 : ieq n 0
      · have := ieq_ne h0; simp; exact hf.1 (by omega)
      · have := ieq_eq h0
        cases b
        · rfl
        · exact absurd (hn ▸ this) (hf.2 rfl)
    · rename_i e' he'
      have hc := canon_den ρ (norm k e)
      rw [hn] at hc
      split
      · rename_i x y p hcn
        rw [hcn] at hc
        split
        · rename_i v hv
          have := ltB_sound (bnd_has hk x) (bnd_has hk y) hv
          simp only [E.den, BO.den] at hc
          by_cases h1 : x.den ρ < y.den ρ <;> by_cases h2 : e.den ρ = 0 <;> cases b <;> cases p <;> cases v <;> simp_all
        · rfl
      · rename_i x y p hcn
        rw [hcn] at hc
        split
        · rename_i v hv
          have := eqB_sound (bnd_has hk x) (bnd_has hk y) hv
          simp only [E.den, BO.den] at hc
          by_cases h1 : x.den ρ = y.den ρ <;> by_cases h2 : e.den ρ = 0 <;> cases b <;> cases p <;> cases v <;> simp_all
        · rfl
      · rfl
  | eqv e n =>
    simp only [Fact.holds] at hf
    simp only [badFact]
    have hb := bnd_has hk e
    split
    · rename_i lo hi h
      rw [h] at hb
      have h1 := hb.1 _ rfl; have h2 := hb.2 _ rfl
      simp [ile_iff.2 (show lo ≤ n by omega), ile_iff.2 (show n ≤ hi by omega)]
    · rfl
  | rng e lo hi =>
    simp only [badFact]
    have hb := bnd_has hk (norm k e)
    rw [norm_den hk] at hb
    have hr := rngOf_has (e := e) hk
    generalize bnd k (norm k e) = r at *
    generalize rngOf e k = s at *
    obtain ⟨a, b⟩ := r
    obtain ⟨c, d⟩ := s
    simp only [Bool.or_eq_false_iff]
    constructor
    · cases a <;> cases d <;> simp only
      have h1 := hb.1 _ rfl; have h2 := hr.2 _ rfl
      rw [ile_iff.2 (by omega)]; rfl
    · cases c <;> cases b <;> simp only
      have h1 := hr.1 _ rfl; have h2 := hb.2 _ rfl
      rw [ile_iff.2 (by omega)]; rfl
def bad (k : Known) : Bool := k.any (badFact k)
theorem bad_sound {ρ : Env} {k : Known} (hk : Known.holds ρ k) : bad k = false := by
  unfold bad
  rw [List.any_eq_false]
  intro f hf
  rw [badFact_sound hk (hk f hf)]
  simp
end Go.Sx
