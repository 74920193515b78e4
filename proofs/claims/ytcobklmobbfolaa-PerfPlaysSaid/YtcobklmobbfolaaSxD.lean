/-
  SX, PART 3: DECIDING A TEST FROM WHAT IS KNOWN; TAKING A TEST'S OUTCOME INTO WHAT IS KNOWN.
-/
import Derived.Test.YtcobklmobbfolaaSxK
namespace Go.Sx
noncomputable section
set_option linter.unusedVariables false

def ltB (r s : Bd) : Option Bool :=
  match r.2, s.1 with
  | some h, some l => if ile l h then (match r.1, s.2 with | some l', some h' => if ile h' l' then some false else none | _, _ => none) else some true
  | _, _ => match r.1, s.2 with | some l', some h' => if ile h' l' then some false else none | _, _ => none
theorem ltB_sound {r s : Bd} {x y : Int} {b : Bool} (hr : r.has x) (hs : s.has y) (h : ltB r s = some b) : (x < y ↔ b = true) := by
  have no : (match r.1, s.2 with | some l', some h' => if ile h' l' then some false else none | _, _ => (none : Option Bool)) = some b → (x < y ↔ b = true) := by
    intro h
    split at h
    · rename_i l' h' h1 h2
      split at h
      · rename_i hc
        have := ile_iff.1 hc; have := hr.1 _ h1; have := hs.2 _ h2
        cases h; constructor
        · intro; omega
        · intro h; cases h
      · cases h
    · cases h
  unfold ltB at h
  split at h
  · rename_i a c h1 h2
    split at h
    · exact no h
    · rename_i hc
      have := ile_false (by simpa using hc); have := hr.2 _ h1; have := hs.1 _ h2
      cases h; constructor
      · intro; rfl
      · intro; omega
  · exact no h
def eqB (r s : Bd) : Option Bool :=
  match ltB r s with
  | some true => some false
  | _ => match ltB s r with | some true => some false | _ => none
theorem eqB_sound {r s : Bd} {x y : Int} {b : Bool} (hr : r.has x) (hs : s.has y) (h : eqB r s = some b) : (x = y ↔ b = true) := by
  unfold eqB at h
  split at h
  · rename_i h1
    have := (ltB_sound hr hs h1).2 rfl
    cases h; constructor
    · intro; omega
    · intro h; cases h
  · split at h
    · rename_i h1
      have := (ltB_sound hs hr h1).2 rfl
      cases h; constructor
      · intro; omega
      · intro h; cases h
    · cases h
def nzB (r : Bd) : Option Bool :=
  match eqB r (some 0, some 0) with
  | some false => some true
  | _ => match r with | (some lo, some hi) => if ieq lo 0 && ieq hi 0 then some false else none | _ => none
theorem nzB_sound {r : Bd} {x : Int} {b : Bool} (hr : r.has x) (h : nzB r = some b) : (x ≠ 0 ↔ b = true) := by
  unfold nzB at h
  split at h
  · rename_i h1
    have := eqB_sound (y := 0) hr ⟨fun m hm => (by cases hm; omega), fun m hm => (by cases hm; omega)⟩ h1
    cases h
    simp at this
    simp [this]
  · split at h
    · rename_i lo hi
      split at h
      · rename_i hc
        simp only [Bool.and_eq_true] at hc
        have h1 := ieq_eq hc.1; have h2 := ieq_eq hc.2
        have := hr.1 _ rfl; have := hr.2 _ rfl
        cases h
        simp
        omega
      · cases h
    · cases h

/-! ### bits that are known -/
abbrev BV (x : Int) : BitVec 64 := BitVec.ofInt 64 x
def all64 : Nat := 18446744073709551615
/-- Bits that are 0, bits that are 1. -/
structure Kb (x : Int) (z o : Nat) : Prop where
  z : ∀ i, i < 64 → z.testBit i = true → (BV x).getLsbD i = false
  o : ∀ i, i < 64 → o.testBit i = true → (BV x).getLsbD i = true
def tn64 (n : Int) : Nat := tn .u64 n
theorem BV_bit (n : Int) (i : Nat) (hi : i < 64) : (BV n).getLsbD i = (tn64 n).testBit i := by
  rw [BitVec.getLsbD, show (BV n).toNat = tn64 n from tn_eq .u64 n]
def zScan (e : E) : List (E × Bd) → Nat
  | [] => 0
  | (x, r) :: l => match x with
    | .bin (.and .u64) y (.lit m) => (match r with
      | (some lo, some hi) => (match ieq lo 0 && (ieq hi 0 && y.same e) with | true => Nat.lor (tn64 m) (zScan e l) | false => zScan e l)
      | _ => zScan e l)
    | _ => zScan e l
theorem wrapBV (v : BitVec 64) : IntKind.u64.wrap (v.toNat : Int) = (v.toNat : Int) := by
  have := v.isLt
  exact wrap_in ⟨by simp [kmin], by simp [kmax]; omega⟩
theorem BV_and (x y : Int) : BV ((BO.and .u64).den x y) = BV x &&& BV y :=
  (congrArg BV (wrapBV (BV x &&& BV y))).trans (ofInt_toNat _)
theorem BV_or (x y : Int) : BV ((BO.or .u64).den x y) = BV x ||| BV y :=
  (congrArg BV (wrapBV (BV x ||| BV y))).trans (ofInt_toNat _)
theorem BV_andNot (x y : Int) : BV ((BO.andNot .u64).den x y) = BV x &&& ~~~BV y :=
  (congrArg BV (wrapBV (BV x &&& ~~~BV y))).trans (ofInt_toNat _)
theorem zScan_ok {ρ : Env} {e : E} : ∀ {l : List (E × Bd)}, (∀ p ∈ l, p.2.has (p.1.den ρ)) → Kb (e.den ρ) (zScan e l) 0
  | [], _ => ⟨fun i _ h => by simp [zScan] at h, fun i _ h => by simp at h⟩
  | (x, r) :: l, hl => by
    have ih := zScan_ok (e := e) (l := l) fun p hp => hl p (List.mem_cons_of_mem _ hp)
    unfold zScan
    split
    · rename_i y m
      split
      · rename_i lo hi
        split
        · rename_i hc
          simp only [Bool.and_eq_true] at hc
          have hb := hl _ (List.mem_cons_self ..)
          have h1 := hb.1 _ rfl; have h2 := hb.2 _ rfl
          have e1 := ieq_eq hc.1; have e2 := ieq_eq hc.2.1; have e3 := E.same_eq hc.2.2
          subst e3
          have h0 : (BO.and .u64).den (y.den ρ) m = 0 := by
            simp only [E.den] at h1 h2
            omega
          have hz : BV (y.den ρ) &&& BV m = 0 := by
            rw [← BV_and, h0]; rfl
          refine ⟨fun i hi ht => ?_, fun i _ h => by simp at h⟩
          have ht' : (Nat.lor (tn64 m) (zScan y l)).testBit i = ((tn64 m).testBit i || (zScan y l).testBit i) := Nat.testBit_or ..
          rw [ht'] at ht
          rcases Bool.or_eq_true_iff.1 ht with ht | ht
          · have := congrArg (fun v => BitVec.getLsbD v i) hz
            simp only [BitVec.getLsbD_and] at this
            rw [BV_bit m i hi, ht] at this
            simpa using this
          · exact ih.z i hi ht
        · exact ih
      · exact ih
    · exact ih
def fits64 (r : Bd) : Bool := match r with
  | (some lo, some hi) => ile 0 lo && ile hi (.ofNat 18446744073709551615)
  | _ => false
def kbAnd (a b : Nat × Nat) : Nat × Nat := match a, b with | (za, oa), (zb, ob) => (Nat.lor za zb, Nat.land oa ob)
def kbOr (a b : Nat × Nat) : Nat × Nat := match a, b with | (za, oa), (zb, ob) => (Nat.land za zb, Nat.lor oa ob)
def kbAndNot (a b : Nat × Nat) : Nat × Nat := match a, b with | (za, oa), (zb, ob) => (Nat.lor za ob, Nat.land oa zb)
def kbIte (a b : Nat × Nat) : Nat × Nat := match a, b with | (za, oa), (zb, ob) => (Nat.land za zb, Nat.land oa ob)
def kbShr (a : Nat × Nat) (s : Nat) : Nat × Nat := match a with | (za, oa) => (Nat.lor (Nat.div (Nat.land za all64) (Nat.pow 2 s)) (Nat.sub all64 (Nat.div all64 (Nat.pow 2 s))), Nat.div (Nat.land oa all64) (Nat.pow 2 s))
def kbBin (k : Known) (o : BO) (a b : E) (ha hb : Nat × Nat) : Nat × Nat := match o with
  | .and .u64 => kbAnd ha hb
  | .or .u64 => kbOr ha hb
  | .andNot .u64 => kbAndNot ha hb
  | .shr .u64 => (match b with
    | .lit (.ofNat s) => (match Nat.blt s 64 && fits64 (bnd k a) with | true => kbShr ha s | false => (0, 0))
    | _ => (0, 0))
  | _ => (0, 0)
def kbI (k : Known) : E → Nat × Nat
  | .lit n => (Nat.sub all64 (tn64 n), tn64 n)
  | .var i => (zScan (.var i) k.ex, 0)
  | .get t i j => (zScan (.get t i j) k.ex, 0)
  | .bin o a b => kbBin k o a b (kbI k a) (kbI k b)
  | .ite _ a b => kbIte (kbI k a) (kbI k b)
  | _ => (0, 0)
def kb (k : Known) (e : E) : Nat × Nat :=
  E.rec (motive := fun _ => Nat × Nat) (fun n => (Nat.sub all64 (tn64 n), tn64 n)) (fun i => (zScan (.var i) k.ex, 0)) (fun _ => (0, 0)) (fun t i j _ _ => (zScan (.get t i j) k.ex, 0)) (fun _ _ _ _ _ _ _ => (0, 0))
    (fun _ _ _ => (0, 0)) (fun o a b ha hb => kbBin k o a b ha hb) (fun _ _ _ _ ha hb => kbIte ha hb) (fun _ _ _ _ _ => (0, 0)) e
theorem Kb.none (x : Int) : Kb x 0 0 := ⟨fun i _ h => by simp at h, fun i _ h => by simp at h⟩
theorem tn64_lt (n : Int) : tn64 n < 2 ^ 64 := by
  have h := (BV n).isLt
  rwa [show (BV n).toNat = tn64 n from tn_eq .u64 n] at h
theorem tn64_nat {m : Nat} (h : m < 2 ^ 64) : tn64 (m : Int) = m := by
  have : ((kmod .u64 : Nat) : Int) = 18446744073709551616 := rfl
  unfold tn64 tn
  rw [this, Int.emod_eq_of_lt (by omega) (by omega)]
  rfl
theorem Kb.lit (n : Int) : Kb n (Nat.sub all64 (tn64 n)) (tn64 n) := by
  refine ⟨fun i hi ht => ?_, fun i hi ht => by rw [BV_bit n i hi]; exact ht⟩
  have e : Nat.sub all64 (tn64 n) = 2 ^ 64 - (tn64 n + 1) := by
    show 18446744073709551615 - tn64 n = _
    omega
  rw [e, Nat.testBit_two_pow_sub_succ (tn64_lt n)] at ht
  simp only [Bool.and_eq_true, Bool.not_eq_true'] at ht
  rw [BV_bit n i hi]; exact ht.2
theorem Kb.andD {x y : Int} {a b : Nat × Nat} (h : Kb x a.1 a.2) (h' : Kb y b.1 b.2) : Kb ((BO.and .u64).den x y) (kbAnd a b).1 (kbAnd a b).2 := by
  obtain ⟨za, oa⟩ := a; obtain ⟨zb, ob⟩ := b
  refine ⟨fun i hi ht => ?_, fun i hi ht => ?_⟩
  · have ht : (za ||| zb).testBit i = true := ht
    rw [Nat.testBit_or, Bool.or_eq_true_iff] at ht
    rw [BV_and, BitVec.getLsbD_and]
    rcases ht with ht | ht
    · rw [h.z i hi ht]; rfl
    · rw [h'.z i hi ht, Bool.and_false]
  · have ht : (oa &&& ob).testBit i = true := ht
    rw [Nat.testBit_and, Bool.and_eq_true] at ht
    rw [BV_and, BitVec.getLsbD_and, h.o i hi ht.1, h'.o i hi ht.2]; rfl
theorem Kb.orD {x y : Int} {a b : Nat × Nat} (h : Kb x a.1 a.2) (h' : Kb y b.1 b.2) : Kb ((BO.or .u64).den x y) (kbOr a b).1 (kbOr a b).2 := by
  obtain ⟨za, oa⟩ := a; obtain ⟨zb, ob⟩ := b
  refine ⟨fun i hi ht => ?_, fun i hi ht => ?_⟩
  · have ht : (za &&& zb).testBit i = true := ht
    rw [Nat.testBit_and, Bool.and_eq_true] at ht
    rw [BV_or, BitVec.getLsbD_or, h.z i hi ht.1, h'.z i hi ht.2]; rfl
  · have ht : (oa ||| ob).testBit i = true := ht
    rw [Nat.testBit_or, Bool.or_eq_true_iff] at ht
    rw [BV_or, BitVec.getLsbD_or]
    rcases ht with ht | ht
    · rw [h.o i hi ht]; rfl
    · rw [h'.o i hi ht, Bool.or_true]
theorem Kb.andNotD {x y : Int} {a b : Nat × Nat} (h : Kb x a.1 a.2) (h' : Kb y b.1 b.2) : Kb ((BO.andNot .u64).den x y) (kbAndNot a b).1 (kbAndNot a b).2 := by
  obtain ⟨za, oa⟩ := a; obtain ⟨zb, ob⟩ := b
  refine ⟨fun i hi ht => ?_, fun i hi ht => ?_⟩
  · have ht : (za ||| ob).testBit i = true := ht
    rw [Nat.testBit_or, Bool.or_eq_true_iff] at ht
    rw [BV_andNot, BitVec.getLsbD_and, BitVec.getLsbD_not]
    rcases ht with ht | ht
    · rw [h.z i hi ht]; rfl
    · rw [h'.o i hi ht]; simp
  · have ht : (oa &&& zb).testBit i = true := ht
    rw [Nat.testBit_and, Bool.and_eq_true] at ht
    rw [BV_andNot, BitVec.getLsbD_and, BitVec.getLsbD_not, h.o i hi ht.1, h'.z i hi ht.2]; simp [hi]
theorem Kb.iteD {x y : Int} {a b : Nat × Nat} (h : Kb x a.1 a.2) (h' : Kb y b.1 b.2) (c : Prop) [Decidable c] : Kb (if c then y else x) (kbIte a b).1 (kbIte a b).2 := by
  obtain ⟨za, oa⟩ := a; obtain ⟨zb, ob⟩ := b
  have key : ∀ i, ((za &&& zb).testBit i = true → za.testBit i = true ∧ zb.testBit i = true) ∧ ((oa &&& ob).testBit i = true → oa.testBit i = true ∧ ob.testBit i = true) := by
    intro i
    rw [Nat.testBit_and, Nat.testBit_and, Bool.and_eq_true, Bool.and_eq_true]
    exact ⟨id, id⟩
  by_cases hc : c
  · rw [if_pos hc]; exact ⟨fun i hi ht => h'.z i hi ((key i).1 ht).2, fun i hi ht => h'.o i hi ((key i).2 ht).2⟩
  · rw [if_neg hc]; exact ⟨fun i hi ht => h.z i hi ((key i).1 ht).1, fun i hi ht => h.o i hi ((key i).2 ht).1⟩
theorem Kb.shrD {x : Int} {a : Nat × Nat} (h : Kb x a.1 a.2) (hx : 0 ≤ x ∧ x ≤ 18446744073709551615) {s : Nat} (hs : s < 64) : Kb ((BO.shr .u64).den x (Int.ofNat s)) (kbShr a s).1 (kbShr a s).2 := by
  obtain ⟨za, oa⟩ := a
  have hv : (BO.shr .u64).den x (Int.ofNat s) = ((tn64 x / 2 ^ s : Nat) : Int) := by
    simp only [BO.den]
    have e1 : Min.min (Int.ofNat s).toNat IntKind.u64.bits = s := by
      show Min.min s 64 = s
      omega
    rw [e1, Int.fdiv_eq_ediv_of_nonneg _ (Int.le_of_lt (pow_pos_i s)), ← two_pow_cast]
    have e2 : x = ((tn64 x : Nat) : Int) := by
      unfold tn64 tn
      have : ((kmod .u64 : Nat) : Int) = 18446744073709551616 := rfl
      rw [this, Int.emod_eq_of_lt hx.1 (by omega)]
      omega
    generalize tn64 x = m at e2 ⊢
    rw [e2]
    exact (Int.natCast_ediv ..).symm
  have hlt : tn64 x / 2 ^ s < 2 ^ 64 := Nat.lt_of_le_of_lt (Nat.div_le_self _ _) (tn64_lt x)
  have hb : ∀ i, i < 64 → (BV ((BO.shr .u64).den x (Int.ofNat s))).getLsbD i = (tn64 x).testBit (i + s) := by
    intro i hi
    rw [BV_bit _ i hi, hv]
    rw [tn64_nat hlt, Nat.testBit_div_two_pow]
  have hall : ∀ (n i : Nat), (Nat.land n all64).testBit i = true → n.testBit i = true ∧ i < 64 := by
    intro n i hn
    have hn : (n &&& (2 ^ 64 - 1)).testBit i = true := hn
    rw [Nat.testBit_and, Bool.and_eq_true, Nat.testBit_two_pow_sub_one] at hn
    exact ⟨hn.1, by simpa using hn.2⟩
  refine ⟨fun i hi ht => ?_, fun i hi ht => ?_⟩
  · rw [hb i hi]
    have ht : (Nat.land za all64 / 2 ^ s ||| (all64 - all64 / 2 ^ s)).testBit i = true := ht
    rw [Nat.testBit_or, Bool.or_eq_true_iff, Nat.testBit_div_two_pow] at ht
    rcases ht with ht | ht
    · have := hall _ _ ht
      rw [← BV_bit x _ this.2]
      exact h.z _ this.2 this.1
    · by_cases hlt : i + s < 64
      · exfalso
        have e : all64 / 2 ^ s = 2 ^ (64 - s) - 1 := by
          show (18446744073709551615 : Nat) / 2 ^ s = _
          have e1 : (18446744073709551615 : Nat) = 2 ^ (64 - s) * 2 ^ s - 1 := by rw [← Nat.pow_add, show 64 - s + s = 64 by omega]
          have hp : 0 < 2 ^ s := Nat.pow_pos (by omega)
          have hq : 0 < 2 ^ (64 - s) := Nat.pow_pos (by omega)
          rw [e1]
          refine Nat.div_eq_of_lt_le ?_ ?_
          · rw [Nat.sub_mul]; omega
          · rw [show 2 ^ (64 - s) - 1 + 1 = 2 ^ (64 - s) by omega]
            have : 0 < 2 ^ (64 - s) * 2 ^ s := Nat.mul_pos hq hp
            omega
        have hq : 0 < 2 ^ (64 - s) := Nat.pow_pos (by omega)
        have hle : 2 ^ (64 - s) ≤ 2 ^ 64 := Nat.pow_le_pow_right (by omega) (by omega)
        have e2 : all64 - all64 / 2 ^ s = 2 ^ 64 - ((2 ^ (64 - s) - 1) + 1) := by
          rw [e]
          show 18446744073709551615 - _ = _
          omega
        rw [e2, Nat.testBit_two_pow_sub_succ (by omega), Nat.testBit_two_pow_sub_one] at ht
        simp only [Bool.and_eq_true, Bool.not_eq_true', decide_eq_false_iff_not] at ht
        omega
      · exact Nat.testBit_lt_two_pow (Nat.lt_of_lt_of_le (tn64_lt x) (Nat.pow_le_pow_right (by omega) (by omega)))
  · rw [hb i hi]
    have ht : (Nat.land oa all64 / 2 ^ s).testBit i = true := ht
    rw [Nat.testBit_div_two_pow] at ht
    have := hall _ _ ht
    rw [← BV_bit x _ this.2]
    exact h.o _ this.2 this.1
theorem kb_ok {ρ : Env} {k : Known} (hk : Known.holds ρ k) (e : E) : Kb (e.den ρ) (kb k e).1 (kb k e).2 := by
  induction e with
  | lit n => exact Kb.lit n
  | var i => exact zScan_ok hk.ex
  | tv q => exact Kb.none _
  | get t i j _ _ => exact zScan_ok hk.ex
  | upd t i j v _ _ _ => exact Kb.none _
  | un o a _ => exact Kb.none _
  | app f a b _ _ => exact Kb.none _
  | ite c a b _ ha hb =>
    simp only [E.den]
    exact Kb.iteD ha hb _
  | bin o a b ha hb =>
    have hd : kb k (.bin o a b) = kbBin k o a b (kb k a) (kb k b) := rfl
    rw [hd]
    simp only [E.den]
    unfold kbBin
    split
    · exact Kb.andD ha hb
    · exact Kb.orD ha hb
    · exact Kb.andNotD ha hb
    · split
      · rename_i s
        split
        · rename_i hc
          simp only [Bool.and_eq_true, Nat.blt_eq] at hc
          refine Kb.shrD ha ?_ hc.1
          have h2 := hc.2
          have hbn := bnd_has hk a
          unfold fits64 at h2
          split at h2
          · rename_i lo hi hbd
            simp only [Bool.and_eq_true] at h2
            rw [hbd] at hbn
            have h3 := hbn.1 _ rfl; have h4 := hbn.2 _ rfl
            have h5 := ile_iff.1 h2.1
            have h6 : hi ≤ 18446744073709551615 := ile_iff.1 h2.2
            omega
          · cases h2
        · exact Kb.none _
      · exact Kb.none _
    · exact Kb.none _
/-- 'e & m == n', from the bits that are known. -/
def decKb (r : Nat × Nat) (n : Nat) : Option Bool := match r with
  | (z, o) => match Nat.beq (Nat.land z n) 0 && Nat.beq (Nat.land (Nat.land o all64) (Nat.sub all64 n)) 0 with
    | false => some false
    | true => match Nat.beq (Nat.land (Nat.lor z o) all64) all64 with
      | true => some true
      | false => none
theorem decKb_ok {x : Int} {r : Nat × Nat} {n : Nat} {b : Bool} (hx : 0 ≤ x ∧ x ≤ 18446744073709551615) (hn : n < 2 ^ 64) (h : Kb x r.1 r.2) (hd : decKb r n = some b) : x = (n : Int) ↔ b = true := by
  obtain ⟨z, o⟩ := r
  have hv : x = ((BV x).toNat : Int) := by
    rw [show (BV x).toNat = tn64 x from tn_eq .u64 x]
    unfold tn64 tn
    have : ((kmod .u64 : Nat) : Int) = 18446744073709551616 := rfl
    rw [this, Int.emod_eq_of_lt hx.1 (by omega)]
    omega
  have hbit : x = (n : Int) ↔ BV x = BitVec.ofNat 64 n := by
    constructor
    · intro e; rw [e]; exact BitVec.ofInt_natCast 64 n
    · intro e; rw [hv, e, BitVec.toNat_ofNat, Nat.mod_eq_of_lt hn]
  rw [hbit]
  unfold decKb at hd
  simp only at hd
  split at hd
  · rename_i hc
    cases hd
    constructor
    · intro e
      exfalso
      simp only [Bool.and_eq_false_iff] at hc
      rcases hc with hc | hc
      · have h0 : z &&& n ≠ 0 := Nat.ne_of_beq_eq_false hc
        obtain ⟨i, hi⟩ := Nat.exists_testBit_of_ne_zero h0
        rw [Nat.testBit_and, Bool.and_eq_true] at hi
        have hlt : i < 64 := by
          rcases Nat.lt_or_ge i 64 with h | h
          · exact h
          · have := Nat.testBit_lt_two_pow (Nat.lt_of_lt_of_le hn (Nat.pow_le_pow_right (by omega) h))
            rw [this] at hi; simp at hi
        have := h.z i hlt hi.1
        rw [e, BitVec.getLsbD_ofNat] at this
        simp [hlt, hi.2] at this
      · have h0 : (o &&& all64) &&& (all64 - n) ≠ 0 := Nat.ne_of_beq_eq_false hc
        obtain ⟨i, hi⟩ := Nat.exists_testBit_of_ne_zero h0
        have e2 : all64 - n = 2 ^ 64 - (n + 1) := by show 18446744073709551615 - n = _; omega
        rw [Nat.testBit_and, Nat.testBit_and, e2, Nat.testBit_two_pow_sub_succ hn] at hi
        simp only [Bool.and_eq_true, Bool.not_eq_true', decide_eq_true_eq] at hi
        have := h.o i hi.2.1 hi.1.1
        rw [e, BitVec.getLsbD_ofNat] at this
        simp [hi.2.1, hi.2.2] at this
    · intro h; cases h
  · rename_i hc
    simp only [Bool.and_eq_true] at hc
    split at hd
    · rename_i ha
      cases hd
      refine ⟨fun _ => rfl, fun _ => ?_⟩
      have ha : (z ||| o) &&& all64 = all64 := Nat.eq_of_beq_eq_true ha
      have h1 : z &&& n = 0 := Nat.eq_of_beq_eq_true hc.1
      have h2 : (o &&& all64) &&& (all64 - n) = 0 := Nat.eq_of_beq_eq_true hc.2
      apply BitVec.eq_of_getLsbD_eq
      intro i hi
      have a1 := congrArg (fun v => Nat.testBit v i) ha
      have a2 := congrArg (fun v => Nat.testBit v i) h1
      have a3 := congrArg (fun v => Nat.testBit v i) h2
      have e0 : all64 = 2 ^ 64 - 1 := rfl
      have e2 : all64 - n = 2 ^ 64 - (n + 1) := by show 18446744073709551615 - n = _; omega
      simp only [Nat.testBit_and, Nat.testBit_or, e2, Nat.testBit_two_pow_sub_succ hn, Nat.zero_testBit] at a1 a2 a3
      rw [e0] at a1 a3
      simp only [Nat.testBit_two_pow_sub_one, hi, decide_true, Bool.and_true, Bool.true_and] at a1 a3
      rw [BitVec.getLsbD_ofNat]
      simp only [hi, decide_true, Bool.true_and]
      cases hz : z.testBit i
      · rw [hz] at a1
        simp only [Bool.false_or] at a1
        rw [h.o i hi a1]
        rw [a1] at a3
        simpa using a3.symm
      · rw [h.z i hi hz]
        rw [hz] at a2
        simpa using a2.symm
    · cases hd
def decBits (k : Known) (a : E) (n : Int) : Option Bool := match a with
  | .bin (.and .u64) _ _ => (match n with
    | .ofNat m => (match Nat.ble m all64 with | true => decKb (kb k a) m | false => none)
    | .negSucc _ => none)
  | _ => none
theorem decBits_ok {ρ : Env} {k : Known} (hk : Known.holds ρ k) {a : E} {n : Int} {b : Bool} (h : decBits k a n = some b) : a.den ρ = n ↔ b = true := by
  unfold decBits at h
  split at h
  · rename_i x y
    split at h
    · rename_i m
      split at h
      · rename_i hm
        have hm : m ≤ 18446744073709551615 := Nat.le_of_ble_eq_true hm
        refine decKb_ok ?_ (by omega) (kb_ok hk _) h
        simp only [E.den, BO.den]
        exact wrap_range .u64 _
      · cases h
    · cases h
  · cases h
def orElseB (o : Option Bool) (d : Option Bool) : Option Bool := match o with | some b => some b | none => d
/-- Is 'b' what is left of 'a' under a mask that takes nothing away? -/
def subMask (k : Known) (a b : E) : Bool := match b with
  | .bin (.and .u64) x (.lit m) => (match x.same a with
    | true => fits64 (bnd k a) && Nat.beq (Nat.land (Nat.lor (kb k a).1 (tn64 m)) all64) all64
    | false => false)
  | _ => false
theorem fits64_ok {r : Bd} {x : Int} (h : fits64 r = true) (hr : r.has x) : 0 ≤ x ∧ x ≤ 18446744073709551615 := by
  unfold fits64 at h
  split at h
  · rename_i lo hi
    simp only [Bool.and_eq_true] at h
    have h3 := hr.1 _ rfl; have h4 := hr.2 _ rfl
    have h5 := ile_iff.1 h.1
    have h6 : hi ≤ 18446744073709551615 := ile_iff.1 h.2
    omega
  · cases h
theorem BV_toNat {x : Int} (hx : 0 ≤ x ∧ x ≤ 18446744073709551615) : ((BV x).toNat : Int) = x := by
  rw [show (BV x).toNat = tn64 x from tn_eq .u64 x]
  unfold tn64 tn
  have : ((kmod .u64 : Nat) : Int) = 18446744073709551616 := rfl
  rw [this, Int.emod_eq_of_lt hx.1 (by omega)]
  omega
theorem subMask_ok {ρ : Env} {k : Known} (hk : Known.holds ρ k) {a b : E} (h : subMask k a b = true) : a.den ρ = b.den ρ := by
  unfold subMask at h
  split at h
  · rename_i x m
    split at h
    · rename_i hs
      have hs := E.same_eq hs
      subst hs
      simp only [Bool.and_eq_true] at h
      have hx := fits64_ok h.1 (bnd_has hk x)
      have ha : (((kb k x).1 ||| tn64 m) &&& all64 : Nat) = all64 := Nat.eq_of_beq_eq_true h.2
      have hb := kb_ok hk x
      have key : BV (x.den ρ) &&& BV m = BV (x.den ρ) := by
        apply BitVec.eq_of_getLsbD_eq
        intro i hi
        have a1 := congrArg (fun v => Nat.testBit v i) ha
        have e0 : all64 = 2 ^ 64 - 1 := rfl
        simp only [Nat.testBit_and, Nat.testBit_or] at a1
        rw [e0] at a1
        simp only [Nat.testBit_two_pow_sub_one, hi, decide_true, Bool.and_true] at a1
        rw [BitVec.getLsbD_and, BV_bit m i hi]
        rcases Bool.or_eq_true_iff.1 a1 with h1 | h1
        · rw [hb.z i hi h1]; rfl
        · rw [h1, Bool.and_true]
      simp only [E.den]
      have e1 : (BO.and .u64).den (x.den ρ) m = (((BV (x.den ρ) &&& BV m).toNat : Nat) : Int) := wrapBV _
      rw [e1, key, BV_toNat hx]
    · cases h
  · cases h
def eqMask (k : Known) (a b : E) : Option Bool := match subMask k a b with
  | true => some true
  | false => match subMask k b a with
    | true => some true
    | false => eqB (bnd k a) (bnd k b)
theorem eqMask_ok {ρ : Env} {k : Known} (hk : Known.holds ρ k) {a b : E} {v : Bool} (h : eqMask k a b = some v) : a.den ρ = b.den ρ ↔ v = true := by
  unfold eqMask at h
  split at h
  · rename_i hs
    cases h
    exact ⟨fun _ => rfl, fun _ => subMask_ok hk hs⟩
  · split at h
    · rename_i hs
      cases h
      exact ⟨fun _ => rfl, fun _ => (subMask_ok hk hs).symm⟩
    · exact eqB_sound (bnd_has hk a) (bnd_has hk b) h
def eqLit (k : Known) (a b : E) : Option Bool := match b with
  | .lit n => orElseB (eqB (bnd k a) (bnd k (.lit n))) (decBits k a n)
  | b => eqMask k a b
theorem eqLit_ok {ρ : Env} {k : Known} (hk : Known.holds ρ k) {a b : E} {v : Bool} (h : eqLit k a b = some v) : a.den ρ = b.den ρ ↔ v = true := by
  unfold eqLit at h
  split at h
  · rename_i n
    unfold orElseB at h
    split at h
    · rename_i b' hb
      cases h
      exact eqB_sound (bnd_has hk a) (bnd_has hk _) hb
    · simp only [E.den]; exact decBits_ok hk h
  · exact eqMask_ok hk h

def decAtom (k : Known) (c : E) : Option Bool :=
  match c with
  | .lit n => some (!ieq n 0)
  | c =>
    match trOf c k with
    | some b => some b
    | none =>
      match c with
      | .bin .lt a b => ltB (bnd k a) (bnd k b)
      | .bin .eq a b => eqLit k a b
      | c => nzB (bnd k c)
theorem decAtom_sound {ρ : Env} {k : Known} (hk : Known.holds ρ k) {c : E} {b : Bool} (h : decAtom k c = some b) : (c.den ρ ≠ 0 ↔ b = true) := by
  unfold decAtom at h
  split at h
  · rename_i n
    cases h
    simp only [E.den]
    cases hn : ieq n 0
    · simp [ieq_ne hn]
    · simp [ieq_eq hn]
  · split at h
    · rename_i b' hb
      cases h
      exact trOf_den hk hb
    · split at h
      · rename_i a b' _ _
        have := ltB_sound (bnd_has hk a) (bnd_has hk b') h
        simp only [E.den, BO.den]
        rw [← this]
        by_cases hh : a.den ρ < b'.den ρ <;> simp [hh]
      · rename_i a b' _ _
        have := eqLit_ok hk h
        simp only [E.den, BO.den]
        rw [← this]
        by_cases hh : a.den ρ = b'.den ρ <;> simp [hh]
      · exact nzB_sound (bnd_has hk _) h

def dec (k : Known) (c : E) : Option Bool :=
  match canon (norm k c) with
  | (a, p) => match decAtom k a with | some b => some (b == p) | none => none
theorem dec_sound {ρ : Env} {k : Known} (hk : Known.holds ρ k) {c : E} {b : Bool} (h : dec k c = some b) : (c.den ρ ≠ 0 ↔ b = true) := by
  unfold dec at h
  have hc := canon_den ρ (norm k c)
  rw [norm_den hk] at hc
  generalize canon (norm k c) = r at *
  obtain ⟨a, p⟩ := r
  simp only at h hc
  split at h
  · rename_i b' hb
    cases h
    have := decAtom_sound hk hb
    rw [hc, this]
    cases b' <;> cases p <;> simp
  · cases h

/-! ### what follows from a test -/
/-- Does a number of these bounds, brought into the kind with a result of those bounds, stay what it is? -/
def exact_ (q : IntKind) (real res : Bd) : Bool :=
  match real, res with
  | (some lo, some hi), (some a, some b) => !ile (lo + (kmod q : Int)) b && !ile a (hi - (kmod q : Int))
  | _, _ => false
theorem exact_sound {q : IntKind} {real res : Bd} {x : Int} (h : exact_ q real res = true) (hr : real.has x) (hs : res.has (q.wrap x)) : q.wrap x = x := by
  unfold exact_ at h
  split at h
  · rename_i lo hi a b
    simp only [Bool.and_eq_true, Bool.not_eq_true'] at h
    have h1 := ile_false h.1; have h2 := ile_false h.2
    have h3 := hr.1 _ rfl; have h4 := hr.2 _ rfl; have h5 := hs.1 _ rfl; have h6 := hs.2 _ rfl
    obtain ⟨t, ht⟩ := wrap_congr q x
    have hp : (0 : Int) < (kmod q : Int) := by cases q <;> decide
    rcases Int.lt_trichotomy t 0 with h0 | h0 | h0
    · have : t * (kmod q : Int) ≤ -1 * (kmod q : Int) := Int.mul_le_mul_of_nonneg_right (by omega) (by omega)
      omega
    · rw [h0] at ht; omega
    · have : 1 * (kmod q : Int) ≤ t * (kmod q : Int) := Int.mul_le_mul_of_nonneg_right (by omega) (by omega)
      omega
  · cases h
def plusB (r : Bd) (n : Int) : Bd := (r.1.map (· + n), r.2.map (· + n))
theorem plusB_has {r : Bd} {x n : Int} (h : r.has x) : (plusB r n).has (x + n) := by
  obtain ⟨l, u⟩ := r
  refine ⟨fun m hm => ?_, fun m hm => ?_⟩
  · cases l <;> simp [plusB] at hm
    have := h.1 _ rfl; omega
  · cases u <;> simp [plusB] at hm
    have := h.2 _ rfl; omega
def factOf (e : E) (r : Bd) : Fact := .rng e r
theorem factOf_holds {ρ : Env} {e : E} {r : Bd} (h : r.has (e.den ρ)) : (factOf e r).holds ρ := h
/-- A range of an expression, handed down to what it is made of. -/
def push (k : Known) : E → Bd → List Fact
  | .lit _, _ => []
  | .un (.wrap q) y, r =>
    let r := r.meet (bnd k (.un (.wrap q) y))
    factOf (.un (.wrap q) y) r :: (if exact_ q (bnd k y) r then push k y r else [])
  | .bin (.add q) y (.lit m), r =>
    let r := r.meet (bnd k (.bin (.add q) y (.lit m)))
    factOf (.bin (.add q) y (.lit m)) r :: (if exact_ q (plusB (bnd k y) m) r then push k y (plusB r (-m)) else [])
  | .bin (.sub q) y (.lit m), r =>
    let r := r.meet (bnd k (.bin (.sub q) y (.lit m)))
    factOf (.bin (.sub q) y (.lit m)) r :: (if exact_ q (plusB (bnd k y) (-m)) r then push k y (plusB r m) else [])
  | e, r => [factOf e (r.meet (bnd k e))]
theorem push_holds {ρ : Env} {k : Known} (hk : Known.holds ρ k) (e : E) (r : Bd) : r.has (e.den ρ) → ∀ f ∈ push k e r, f.holds ρ := by
  fun_induction push k e r with
  | case1 => intro _ f hf; cases hf
  | case2 q y r r' ih =>
    intro h f hf
    have h' : r'.has ((E.un (.wrap q) y).den ρ) := Bd.meet_has h (bnd_has hk _)
    rcases List.mem_cons.1 hf with rfl | hf
    · exact factOf_holds h'
    · split at hf
      · rename_i hc
        have he := exact_sound hc (bnd_has hk y) (by simpa only [E.den, UO.den] using h')
        refine ih ?_ f hf
        simp only [E.den, UO.den] at h'
        rw [he] at h'
        exact h'
      · cases hf
  | case3 q y m r r' ih =>
    intro h f hf
    have h' : r'.has ((E.bin (.add q) y (.lit m)).den ρ) := Bd.meet_has h (bnd_has hk _)
    rcases List.mem_cons.1 hf with rfl | hf
    · exact factOf_holds h'
    · split at hf
      · rename_i hc
        have he := exact_sound hc (plusB_has (bnd_has hk y)) (by simpa only [E.den, BO.den] using h')
        refine ih ?_ f hf
        simp only [E.den, BO.den] at h'
        rw [he] at h'
        have := plusB_has (n := -m) h'
        rwa [show y.den ρ + m + -m = y.den ρ by omega] at this
      · cases hf
  | case4 q y m r r' ih =>
    intro h f hf
    have h' : r'.has ((E.bin (.sub q) y (.lit m)).den ρ) := Bd.meet_has h (bnd_has hk _)
    rcases List.mem_cons.1 hf with rfl | hf
    · exact factOf_holds h'
    · split at hf
      · rename_i hc
        have e1 : y.den ρ - m = y.den ρ + -m := by omega
        have he := exact_sound hc (plusB_has (bnd_has hk y)) (by simpa only [E.den, BO.den, e1] using h')
        refine ih ?_ f hf
        simp only [E.den, BO.den, e1] at h'
        rw [he] at h'
        have := plusB_has (n := m) h'
        rwa [show y.den ρ + -m + m = y.den ρ by omega] at this
      · cases hf
  | case5 e r =>
    intro h f hf
    rw [List.mem_singleton.1 hf]
    exact factOf_holds (Bd.meet_has h (bnd_has hk _))

def dropOne (x : Option Int) (n : Int) : Option Int := x.map (· + n)
/-- What an atom's outcome says of numbers. -/
def derive (k : Known) : E → Bool → List Fact
  | .bin .eq (.var i) (.var j), true => [.rep i j]
  | .bin .eq x (.lit n), true => push k x (some n, some n)
  | .bin .eq x (.lit n), false =>
    match bnd k x with
    | (some lo, hi) => if ieq lo n then push k x (some (n + 1), none) else (match hi with | some hi => if ieq hi n then push k x (none, some (n - 1)) else [] | none => [])
    | (none, some hi) => if ieq hi n then push k x (none, some (n - 1)) else []
    | _ => []
  | .bin .lt x (.lit n), true => push k x (none, some (n - 1))
  | .bin .lt x (.lit n), false => push k x (some n, none)
  | .bin .lt x y, true => push k x (none, dropOne (bnd k y).2 (-1)) ++ push k y (dropOne (bnd k x).1 1, none)
  | .bin .lt x y, false => push k y (none, (bnd k x).2) ++ push k x ((bnd k y).1, none)
  | .bin _ _ _, _ => []
  | e, false => [.rng e (some 0, some 0)]
  | e, true => push k e (match (bnd k e).1 with | some l => if ieq l 0 then some 1 else some l | none => none, none)
theorem derive_holds {ρ : Env} {k : Known} (hk : Known.holds ρ k) {e : E} {b : Bool} (h : e.den ρ ≠ 0 ↔ b = true) : ∀ f ∈ derive k e b, f.holds ρ := by
  intro f hf
  unfold derive at hf
  split at hf
  · rename_i i j
    rw [List.mem_singleton.1 hf]
    simp only [E.den, BO.den] at h
    show ρ.v i = ρ.v j
    by_cases hh : ρ.v i = ρ.v j
    · exact hh
    · simp [hh] at h
  · rename_i x n
    simp only [E.den, BO.den] at h
    have hx : x.den ρ = n := by
      by_cases hh : x.den ρ = n
      · exact hh
      · simp [hh] at h
    exact push_holds hk x _ ⟨fun m hm => (by cases hm; omega), fun m hm => (by cases hm; omega)⟩ f hf
  · rename_i x n
    simp only [E.den, BO.den] at h
    have hx : x.den ρ ≠ n := by
      intro hh
      simp [hh] at h
    have hb := bnd_has hk x
    have up : ∀ hi, (bnd k x).2 = some hi → ∀ f ∈ (if ieq hi n then push k x (none, some (n - 1)) else []), f.holds ρ := by
      intro hi hhi f hf
      split at hf
      · rename_i hc
        have h1 := ieq_eq hc; have h2 := hb.2 _ hhi
        exact push_holds hk x _ ⟨fun m hm => (by cases hm), fun m hm => (by cases hm; omega)⟩ f hf
      · cases hf
    split at hf
    · rename_i lo hi hlo
      split at hf
      · rename_i hc
        have h1 := ieq_eq hc; have h2 := hb.1 lo (by rw [hlo])
        exact push_holds hk x _ ⟨fun m hm => (by cases hm; omega), fun m hm => (by cases hm)⟩ f hf
      · split at hf
        · exact up _ (by rw [hlo]) f hf
        · cases hf
    · rename_i hi hlo
      exact up _ (by rw [hlo]) f hf
    · cases hf
  · rename_i x n
    simp only [E.den, BO.den] at h
    have hx : x.den ρ < n := by
      by_cases hh : x.den ρ < n
      · exact hh
      · simp [hh] at h
    exact push_holds hk x _ ⟨fun m hm => (by cases hm), fun m hm => (by cases hm; omega)⟩ f hf
  · rename_i x n
    simp only [E.den, BO.den] at h
    have hx : ¬ x.den ρ < n := by
      intro hh
      simp [hh] at h
    exact push_holds hk x _ ⟨fun m hm => (by cases hm; omega), fun m hm => (by cases hm)⟩ f hf
  · rename_i x y _
    simp only [E.den, BO.den] at h
    have hx : x.den ρ < y.den ρ := by
      by_cases hh : x.den ρ < y.den ρ
      · exact hh
      · simp [hh] at h
    have hbx := bnd_has hk x
    have hby := bnd_has hk y
    rcases List.mem_append.1 hf with hf | hf
    · refine push_holds hk x _ ⟨fun m hm => (by cases hm), fun m hm => ?_⟩ f hf
      cases hy : (bnd k y).2 <;> simp [dropOne, hy] at hm
      have := hby.2 _ hy; omega
    · refine push_holds hk y _ ⟨fun m hm => ?_, fun m hm => (by cases hm)⟩ f hf
      cases hy : (bnd k x).1 <;> simp [dropOne, hy] at hm
      have := hbx.1 _ hy; omega
  · rename_i x y _
    simp only [E.den, BO.den] at h
    have hx : ¬ x.den ρ < y.den ρ := by
      intro hh
      simp [hh] at h
    have hbx := bnd_has hk x
    have hby := bnd_has hk y
    rcases List.mem_append.1 hf with hf | hf
    · refine push_holds hk y _ ⟨fun m hm => (by cases hm), fun m hm => ?_⟩ f hf
      have := hbx.2 _ hm; omega
    · refine push_holds hk x _ ⟨fun m hm => ?_, fun m hm => (by cases hm)⟩ f hf
      have := hby.1 _ hm; omega
  · cases hf
  · rw [List.mem_singleton.1 hf]
    have h0 : e.den ρ = 0 := by
      by_cases hh : e.den ρ = 0
      · exact hh
      · simp [hh] at h
    exact ⟨fun m hm => (by cases hm; omega), fun m hm => (by cases hm; omega)⟩
  · have hh : e.den ρ ≠ 0 := h.2 rfl
    refine push_holds hk e _ ⟨fun m hm => ?_, fun m hm => (by cases hm)⟩ f hf
    have hb := bnd_has hk e
    simp only at hm
    split at hm
    · rename_i l hl
      have := hb.1 _ hl
      split at hm
      · rename_i hc; have := ieq_eq hc; cases hm; omega
      · cases hm; omega
    · cases hm

/-- The normal form of what is under the first operation. -/
def normIn (k : Known) : E → E
  | .bin o a b => mkBin o (norm k a) (norm k b)
  | .un o a => mkUn o (norm k a)
  | e => norm k e
theorem normIn_den {ρ : Env} {k : Known} (hk : Known.holds ρ k) (e : E) : (normIn k e).den ρ = e.den ρ := by
  unfold normIn
  split
  · simp only [mkBin_den, norm_den hk, E.den]
  · simp only [mkUn_den, norm_den hk, E.den]
  · exact norm_den hk _
/-- Does what is known speak against the test's outcome? -/
def badTr (k : Known) (e : E) (b : Bool) : Bool :=
  match canon e with
  | (.lit n, p) => ((!ieq n 0) == p) != b
  | (a, p) => (match trOf a k with | some v => (v == p) != b | none => false) ||
    (match a with
    | .bin .lt x y => match ltB (bnd k x) (bnd k y) with | some v => (v == p) != b | none => false
    | .bin .eq x y => match eqLit k x y with | some v => (v == p) != b | none => false
    | _ => false)
theorem badTr_sound {ρ : Env} {k : Known} (hk : Known.holds ρ k) {e : E} {b : Bool} (h : e.den ρ ≠ 0 ↔ b = true) : badTr k e b = false := by
  unfold badTr
  have hc := canon_den ρ e
  generalize canon e = r at *
  obtain ⟨a, p⟩ := r
  have key : ∀ v : Bool, (a.den ρ ≠ 0 ↔ v = true) → ((v == p) != b) = false := by
    intro v hv
    simp only at hc
    rw [h, hv] at hc
    clear hv h
    revert hc
    cases b <;> cases v <;> cases p <;> decide
  split
  · rename_i n p' he
    cases he
    refine key _ ?_
    simp only [E.den]
    cases h0 : ieq n 0
    · simp [ieq_ne h0]
    · simp [ieq_eq h0]
  · rename_i a' p' _ he
    cases he
    rw [Bool.or_eq_false_iff]
    constructor
    · split
      · rename_i v hv
        exact key v (trOf_den hk hv)
      · rfl
    · split
      · rename_i x y _
        split
        · rename_i v hv
          refine key v ?_
          rw [← ltB_sound (bnd_has hk x) (bnd_has hk y) hv]
          simp only [E.den, BO.den]
          by_cases h1 : x.den ρ < y.den ρ <;> simp [h1]
        · rfl
      · rename_i x y _
        split
        · rename_i v hv
          refine key v ?_
          rw [← eqLit_ok hk hv]
          simp only [E.den, BO.den]
          by_cases h1 : x.den ρ = y.den ρ <;> simp [h1]
        · rfl
      · rfl
/-- Which variables an expression speaks of. -/
def E.mask : E → Nat
  | .lit _ => 0
  | .var i => Nat.pow 2 i
  | .un _ a => a.mask
  | .bin _ a b => Nat.lor a.mask b.mask
  | .ite c a b => Nat.lor c.mask (Nat.lor a.mask b.mask)
  | .get t i _ => Nat.lor t.mask i.mask
  | .upd t i _ v => Nat.lor t.mask (Nat.lor i.mask v.mask)
  | .tv q => Nat.pow 2 (Nat.add 1000 q)
  | .app _ _ _ => Nat.pow 2 999
def Fact.mask : Fact → Nat
  | .tr e _ => e.mask
  | .rng e _ => e.mask
  | .rep i j => Nat.lor (Nat.pow 2 i) (Nat.pow 2 j)
def maskAll : List Fact → Nat
  | [] => 0
  | f :: r => Nat.lor f.mask (maskAll r)
def emptyB (r : Bd) : Bool := match r with
  | (some lo, some hi) => match ile lo hi with | true => false | false => true
  | _ => false
theorem emptyB_sound {r : Bd} {n : Int} (h : r.has n) : emptyB r = false := by
  unfold emptyB
  split
  · rename_i lo hi
    have h1 := h.1 _ rfl; have h2 := h.2 _ rfl
    rw [ile_iff.2 (show lo ≤ hi by omega)]
  · rfl
/-- Are the bounds that are new empty? -/
def badRngs (k : Known) : List Fact → Bool
  | [] => false
  | .rng e _ :: r => match emptyB (bnd k (normIn k e)) with | true => true | false => match emptyB (rngOf e k) with | true => true | false => badRngs k r
  | _ :: r => badRngs k r
/-- Of the tests, those that speak of what the new facts speak of. -/
def orB (a b : Bool) : Bool := match a with | true => true | false => b
theorem orB_eq (a b : Bool) : orB a b = (a || b) := by cases a <;> rfl
/-- Tests that are not looked through again: equations of choices. -/
def heavy (e : E) : Bool := match e with
  | .bin .eq (.ite _ _ _) (.ite _ _ _) => true
  | _ => false
def badTests (k : Known) (m : Nat) : List (E × Bool) → Bool
  | [] => false
  | (e, b) :: r => match orB (heavy e) (Nat.beq (Nat.land e.mask m) 0) with
    | true => badTests k m r
    | false => match badTr k (normIn k e) b with | true => true | false => badTests k m r
theorem badRngs_sound {ρ : Env} {k : Known} (hk : Known.holds ρ k) : ∀ l : List Fact, badRngs k l = false
  | [] => rfl
  | .rng e _ :: r => by
    unfold badRngs
    have h1 := bnd_has hk (normIn k e)
    rw [emptyB_sound h1, emptyB_sound (rngOf_has (e := e) hk)]
    exact badRngs_sound hk r
  | .tr _ _ :: r => by unfold badRngs; exact badRngs_sound hk r
  | .rep _ _ :: r => by unfold badRngs; exact badRngs_sound hk r
theorem badTests_sound {ρ : Env} {k : Known} (hk : Known.holds ρ k) (m : Nat) : ∀ l : List (E × Bool), (∀ p ∈ l, (p.1.den ρ ≠ 0 ↔ p.2 = true)) → badTests k m l = false
  | [], _ => rfl
  | (e, b) :: r, h => by
    unfold badTests
    have h1 : badTr k (normIn k e) b = false := badTr_sound hk (by rw [normIn_den hk]; exact h _ (List.mem_cons_self ..))
    rw [h1, badTests_sound hk m r fun p hp => h p (List.mem_cons_of_mem _ hp)]
    split <;> rfl
def Known.mark : Known → Bool → Known
  | ⟨vb, rp, ex, tr, _⟩, b => ⟨vb, rp, ex, tr, b⟩
/-- What is known behind a test. -/
def assume (k : Known) (c : E) (b : Bool) : Known :=
  match canon (norm k c) with
  | (a, p) =>
    let fs := derive k a (b == p)
    let k' := (k.add (.tr a (b == p))).adds fs
    k'.mark (k.no || (badRngs k' fs || badTests k' (Nat.lor a.mask (maskAll fs)) k'.tr))
def eqvB (a b : Bool) : Bool := match a with | true => b | false => (match b with | true => false | false => true)
theorem eqvB_eq (a b : Bool) : eqvB a b = (a == b) := by cases a <;> cases b <;> rfl
def factK {R : Type} (f : Fact) (k : Fact → R) : R := match f with
  | .tr e b => E.deepK e fun e => boolK b fun b => k (.tr e b)
  | .rng e r => E.deepK e fun e => bdK r fun r => k (.rng e r)
  | .rep i j => natK i fun i => natK j fun j => k (.rep i j)
theorem factK_eq {R : Type} (f : Fact) (k : Fact → R) : factK f k = k f := by
  cases f <;> simp only [factK, E.deepK_eq, boolK_eq, bdK_eq, natK_eq]
/-- As 'assume', what is built handed on. -/
def assumeK {R : Type} (k : Known) (c : E) (b : Bool) (K : Known → R) : R :=
  match canon (norm k c) with
  | (a, p) => E.deepK a fun a => boolK (eqvB b p) fun q => listK factK (derive k a q) fun fs =>
    k.addK (.tr a q) fun k1 => k1.addsK fs fun k' =>
      boolK (orB k.no (orB (badRngs k' fs) (badTests k' (Nat.lor a.mask (maskAll fs)) k'.tr))) fun no => K (match k' with | ⟨vb, rp, ex, tr, _⟩ => ⟨vb, rp, ex, tr, no⟩)
theorem assumeK_eq {R : Type} (k : Known) (c : E) (b : Bool) (K : Known → R) : assumeK k c b K = K (assume k c b) := by
  unfold assumeK assume
  cases canon (norm k c)
  simp only [E.deepK_eq, boolK_eq, listK_eq factK_eq, Known.addK_eq, Known.addsK_eq, eqvB_eq, orB_eq]
  rfl
def bad (k : Known) : Bool := k.no
theorem mark_imp {ρ : Env} {k : Known} {b : Bool} (h : Known.holds ρ (k.mark b)) (hn : k.no = false) : Known.holds ρ k := by
  obtain ⟨vb, rp, ex, tr, no⟩ := k
  exact ⟨h.vb, h.rp, h.ex, h.tr, hn⟩
theorem add_no (k : Known) (f : Fact) : (k.add f).no = k.no := by
  obtain ⟨vb, rp, ex, tr, no⟩ := k
  unfold Known.add
  split <;> first | (cases ‹Known.mk _ _ _ _ _ = _›; rfl) | (cases ‹Known.mk _ _ _ _ _ = _›; split <;> rfl) | rfl
theorem adds_no : ∀ (l : List Fact) (k : Known), (k.adds l).no = k.no
  | [], _ => rfl
  | f :: r, k => (adds_no r (k.add f)).trans (add_no k f)
theorem assume_holds {ρ : Env} {k : Known} (hk : Known.holds ρ k) {c : E} {b : Bool} (h : c.den ρ ≠ 0 ↔ b = true) : Known.holds ρ (assume k c b) := by
  unfold assume
  have hc := canon_den ρ (norm k c)
  rw [norm_den hk] at hc
  generalize canon (norm k c) = r at *
  obtain ⟨a, p⟩ := r
  simp only at hc ⊢
  have ha : a.den ρ ≠ 0 ↔ (b == p) = true := by
    by_cases h1 : a.den ρ = 0 <;> by_cases h2 : c.den ρ = 0 <;> cases b <;> cases p <;> simp_all
  have hk' : Known.holds ρ ((k.add (.tr a (b == p))).adds (derive k a (b == p))) := Known.adds_holds (Known.add_iff.1 hk ha) fun f hf => derive_holds hk ha f hf
  generalize (k.add (.tr a (b == p))).adds (derive k a (b == p)) = k' at *
  rw [hk.no, badRngs_sound hk', badTests_sound hk' _ _ hk'.tr]
  obtain ⟨vb, rp, ex, tr, no⟩ := k'
  exact ⟨hk'.vb, hk'.rp, hk'.ex, hk'.tr, rfl⟩
theorem bad_sound {ρ : Env} {k : Known} (hk : Known.holds ρ k) : bad k = false := hk.no
theorem add_tr_holds {ρ : Env} {k : Known} {e : E} {b : Bool} (h : Known.holds ρ (k.add (.tr e b))) : e.den ρ ≠ 0 ↔ b = true := by
  obtain ⟨vb, rp, ex, tr, no⟩ := k
  exact h.tr (e, b) (List.mem_cons_self ..)
theorem assume_imp {ρ : Env} {k : Known} {c : E} {b : Bool} (h : Known.holds ρ (assume k c b)) : Known.holds ρ k ∧ (c.den ρ ≠ 0 ↔ b = true) := by
  have key : ∀ a p, canon (norm k c) = (a, p) → Known.holds ρ k ∧ (c.den ρ ≠ 0 ↔ b = true) := by
    intro a p he
    unfold assume at h
    rw [he] at h
    simp only at h
    have hno := h.no
    have hno' : k.no = false := by
      have : (k.no || (badRngs ((k.add (.tr a (b == p))).adds (derive k a (b == p))) (derive k a (b == p)) || badTests ((k.add (.tr a (b == p))).adds (derive k a (b == p))) (Nat.lor a.mask (maskAll (derive k a (b == p)))) ((k.add (.tr a (b == p))).adds (derive k a (b == p))).tr)) = false := by
        generalize (k.add (.tr a (b == p))).adds (derive k a (b == p)) = k' at *
        obtain ⟨vb, rp, ex, tr, no⟩ := k'
        exact hno
      exact (Bool.or_eq_false_iff.1 this).1
    have h1 := Known.adds_imp (mark_imp h (by rw [adds_no, add_no]; exact hno'))
    have hk := Known.add_iff.2 h1
    have ht := add_tr_holds h1
    have hc := canon_den ρ (norm k c)
    rw [he, norm_den hk] at hc
    refine ⟨hk, ?_⟩
    simp only at hc
    by_cases h1 : a.den ρ = 0 <;> by_cases h2 : c.den ρ = 0 <;> cases b <;> cases p <;> simp_all
  exact key _ _ rfl
end
end Go.Sx
