/-
  SX, PART 6: OPERATIONS THAT LEAVE THE WORLD AS IT IS: what they give, and that they do.
-/
import Derived.Test.YtcobklmobbfolaaSxP
namespace Go.Sx
noncomputable section

def cint (k : IntKind) (e : E) : SV := .v (.one (.int k e))
def cbool (e : E) : SV := .v (.one (.bool e))
def keq (a b : IntKind) : Bool := Nat.beq (kcode a) (kcode b)
theorem keq_eq {a b : IntKind} (h : keq a b = true) : a = b := kcode_inj h
def mkIte : E → E → E → E
  | .lit n, a, b => if ieq n 0 then b else a
  | c, a, b => if a.same b then a else .ite c a b
theorem mkIte_den (ρ : Env) (c a b : E) : (mkIte c a b).den ρ = if c.den ρ = 0 then b.den ρ else a.den ρ := by
  unfold mkIte
  split
  · rename_i n
    simp only [E.den]
    cases h : ieq n 0
    · simp [ieq_ne h]
    · simp [ieq_eq h]
  · split
    · rename_i h; rw [E.same_eq h]; simp
    · simp only [E.den]

/-! ### operators on numbers -/
def binSV (k : Known) (op : BinOp) (ka kb : IntKind) (a b : E) : Option SV :=
  match op with
  | .shl => match dec k (.bin .lt b (.lit 0)) with | some false => some (cint ka (mkBin (.shl ka) a b)) | _ => none
  | .shr => match dec k (.bin .lt b (.lit 0)) with | some false => some (cint ka (mkBin (.shr ka) a b)) | _ => none
  | op => if keq ka kb then
      match op with
      | .add => some (cint ka (mkBin (.add ka) a b))
      | .sub => some (cint ka (mkBin (.sub ka) a b))
      | .mul => some (cint ka (mkBin (.mul ka) a b))
      | .quo => match dec k b with | some true => some (cint ka (mkBin (.quo ka) a b)) | _ => none
      | .rem => match dec k b with | some true => some (cint ka (mkBin .rem a b)) | _ => none
      | .and => some (cint ka (mkBin (.and ka) a b))
      | .or => some (cint ka (mkBin (.or ka) a b))
      | .xor => some (cint ka (mkBin (.xor ka) a b))
      | .andNot => some (cint ka (mkBin (.andNot ka) a b))
      | .eql => some (cbool (mkBin .eq a b))
      | .neq => some (cbool (mkUn .not (mkBin .eq a b)))
      | .lss => some (cbool (mkBin .lt a b))
      | .leq => some (cbool (mkUn .not (mkBin .lt b a)))
      | .gtr => some (cbool (mkBin .lt b a))
      | .geq => some (cbool (mkUn .not (mkBin .lt a b)))
      | _ => none
    else none
theorem below_cint (n : Nat) (k : IntKind) (e : E) : (cint k e).below n := trivial
theorem below_cbool (n : Nat) (e : E) : (cbool e).below n := trivial
theorem binSV_ok {ρ : Env} {k : Known} (hk : Known.holds ρ k) {op : BinOp} {ka kb : IntKind} {a b : E} {r : SV} (h : binSV k op ka kb a b = some r) (P : Program) (t : TypeId) (β : Lab) (n : Nat) (w : World) :
    r.below n ∧ (binOp op t (.int ka (a.den ρ)) (.int kb (b.den ρ))).run P w = .ok (r.den ρ β) w := by
  unfold binSV at h
  split at h
  · split at h
    · rename_i hd
      cases h
      have := dec_sound hk hd
      simp only [E.den, BO.den] at this
      have hb : ¬ b.den ρ < 0 := by intro hh; simp [hh] at this
      refine ⟨trivial, ?_⟩
      simp [binOp_shl, Op.shift, hb, cint, SV.den, V1.den, CV.den, mkBin_den, BO.den]
    · cases h
  · split at h
    · rename_i hd
      cases h
      have := dec_sound hk hd
      simp only [E.den, BO.den] at this
      have hb : ¬ b.den ρ < 0 := by intro hh; simp [hh] at this
      refine ⟨trivial, ?_⟩
      simp [binOp_shr, Op.shift, hb, cint, SV.den, V1.den, CV.den, mkBin_den, BO.den]
    · cases h
  · split at h
    · rename_i hkq
      have := keq_eq hkq
      subst this
      split at h
      · cases h; exact ⟨trivial, by simp [binOp_add, Op.intArith, cint, SV.den, V1.den, CV.den, mkBin_den, BO.den]⟩
      · cases h; exact ⟨trivial, by simp [binOp_sub, Op.intArith, cint, SV.den, V1.den, CV.den, mkBin_den, BO.den]⟩
      · cases h; exact ⟨trivial, by simp [binOp_mul, Op.intArith, cint, SV.den, V1.den, CV.den, mkBin_den, BO.den]⟩
      · split at h
        · rename_i hd
          have hb := (dec_sound hk hd).2 rfl
          cases h; exact ⟨trivial, by simp [binOp_quo, Op.intDiv, hb, cint, SV.den, V1.den, CV.den, mkBin_den, BO.den]⟩
        · cases h
      · split at h
        · rename_i hd
          have hb := (dec_sound hk hd).2 rfl
          cases h; exact ⟨trivial, by simp [binOp_rem, Op.intDiv, hb, cint, SV.den, V1.den, CV.den, mkBin_den, BO.den]⟩
        · cases h
      · cases h; exact ⟨trivial, by simp [binOp_and, Op.intBits, cint, SV.den, V1.den, CV.den, mkBin_den, BO.den]⟩
      · cases h; exact ⟨trivial, by simp [binOp_or, Op.intBits, cint, SV.den, V1.den, CV.den, mkBin_den, BO.den]⟩
      · cases h; exact ⟨trivial, by simp [binOp_xor, Op.intBits, cint, SV.den, V1.den, CV.den, mkBin_den, BO.den]⟩
      · cases h; exact ⟨trivial, by simp [binOp_andNot, Op.intBits, cint, SV.den, V1.den, CV.den, mkBin_den, BO.den]⟩
      · cases h; exact ⟨trivial, by by_cases hh : a.den ρ = b.den ρ <;> simp [binOp_eql, cbool, SV.den, V1.den, CV.den, mkBin_den, BO.den, hh]⟩
      · cases h; exact ⟨trivial, by by_cases hh : a.den ρ = b.den ρ <;> simp [binOp_neq, cbool, SV.den, V1.den, CV.den, mkBin_den, mkUn_den, BO.den, UO.den, hh]⟩
      · cases h; exact ⟨trivial, by by_cases hh : a.den ρ < b.den ρ <;> simp [binOp_lss, cbool, SV.den, V1.den, CV.den, mkBin_den, BO.den, hh]⟩
      · cases h
        refine ⟨trivial, ?_⟩
        by_cases hh : b.den ρ < a.den ρ
        · have : ¬ a.den ρ ≤ b.den ρ := by omega
          simp [binOp_leq, cbool, SV.den, V1.den, CV.den, mkBin_den, mkUn_den, BO.den, UO.den, hh]
        · have : a.den ρ ≤ b.den ρ := by omega
          simp [binOp_leq, cbool, SV.den, V1.den, CV.den, mkBin_den, mkUn_den, BO.den, UO.den, hh, this]
      · cases h; exact ⟨trivial, by by_cases hh : b.den ρ < a.den ρ <;> simp [binOp_gtr, cbool, SV.den, V1.den, CV.den, mkBin_den, BO.den, hh]⟩
      · cases h
        refine ⟨trivial, ?_⟩
        by_cases hh : a.den ρ < b.den ρ
        · have : ¬ b.den ρ ≤ a.den ρ := by omega
          simp [binOp_geq, cbool, SV.den, V1.den, CV.den, mkBin_den, mkUn_den, BO.den, UO.den, hh]
        · have : b.den ρ ≤ a.den ρ := by omega
          simp [binOp_geq, cbool, SV.den, V1.den, CV.den, mkBin_den, mkUn_den, BO.den, UO.den, hh, this]
      · cases h
    · cases h

/-! ### parts of aggregates -/
def sub1 (cs : List CV) (agg : Bool) (off size : Nat) : Option V1 :=
  if agg then (if Nat.ble (off + size) cs.length then some (.agg ((cs.drop off).take size)) else none) else (cs[off]?).map .one
theorem sub1_ok {ρ : Env} {β : Lab} {n : Nat} {P : Program} {t : TypeId} {ti : TI} (ht : TIok P t ti) {cs : List CV} {off : Nat} {v : V1} (h : sub1 cs ti.agg off ti.size = some v) (hb : ∀ c ∈ cs, c.below n) (w : World) :
    v.below n ∧ (part t (cs.map (CV.den ρ β)).toArray off).run P w = .ok (v.den ρ β) w := by
  unfold sub1 at h
  have hagg := ht.isAgg w
  split at h
  · rename_i ha
    split at h
    · rename_i hle
      have hle := Nat.le_of_ble_eq_true hle
      cases h
      refine ⟨fun c hc => hb c (List.mem_of_mem_drop (List.mem_of_mem_take hc)), ?_⟩
      simp only [part, Sem.run_bind, hagg, ha, Result.andThen_ok, if_true, ht.sizeOf w, Sem.run_pure, V1.den]
      congr 2
      apply Array.ext'
      simp [List.map_take, List.map_drop, List.extract_eq_take_drop]
    · cases h
  · rename_i ha
    simp only [Option.map_eq_some_iff] at h
    obtain ⟨c, hc, rfl⟩ := h
    refine ⟨hb c (List.mem_of_getElem? hc), ?_⟩
    simp [part, hagg, ha, hc, V1.den]

/-! ### equality -/
def conjE (c r : E) : E := mkIte c r (.lit 0)
theorem conjE_den (ρ : Env) (c r : E) : decide ((conjE c r).den ρ ≠ 0) = (decide (c.den ρ ≠ 0) && decide (r.den ρ ≠ 0)) := by
  unfold conjE
  rw [mkIte_den]
  by_cases h : c.den ρ = 0 <;> simp [h, E.den]
def eqFs (ty : Tys) (f : TypeId → V1 → V1 → Option E) : List (Nat × TypeId) → List CV → List CV → Option E
  | [], _, _ => some (.lit 1)
  | (off, t) :: fs, xs, ys =>
    match ty t with
    | none => none
    | some ti =>
      match sub1 xs ti.agg off ti.size, sub1 ys ti.agg off ti.size with
      | some a, some b => match f t a b, eqFs ty f fs xs ys with
        | some c, some r => some (conjE c r)
        | _, _ => none
      | _, _ => none
def eqEs (f : V1 → V1 → Option E) (te : TI) : Nat → Nat → List CV → List CV → Option E
  | 0, _, _, _ => some (.lit 1)
  | n + 1, i, xs, ys =>
    match sub1 xs te.agg (i * te.size) te.size, sub1 ys te.agg (i * te.size) te.size with
    | some a, some b => match f a b, eqEs f te n (i + 1) xs ys with
      | some c, some r => some (conjE c r)
      | _, _ => none
    | _, _ => none
def eqV (ty : Tys) : Nat → TypeId → V1 → V1 → Option E
  | 0, _, _, _ => none
  | d + 1, t, x, y =>
    match ty t with
    | none => none
    | some ti =>
      match ti.d, x, y with
      | .int k, .one (.int k1 a), .one (.int k2 b) => if keq k1 k2 then (if keq k k1 then some (mkBin .eq a b) else none) else none
      | .bool, .one (.bool a), .one (.bool b) => some (mkBin .beq a b)
      | .strct fs, .agg xs, .agg ys => if ti.eqo then eqFs ty (eqV ty d) fs xs ys else none
      | .arr n e, .agg xs, .agg ys => match ty e with | some te => eqEs (eqV ty d e) te n 0 xs ys | none => none
      | _, _, _ => none

section
variable {P : Program} {ty : Tys} (hty : TysOk P ty) (ρ : Env) (β : Lab) {n : Nat}
def EqOk (P : Program) (ρ : Env) (β : Lab) (n : Nat) (d : Nat) (f : TypeId → V1 → V1 → Option E) : Prop :=
  ∀ t x y e, f t x y = some e → x.below n → y.below n → ∀ w, (Op.equalIn d t (x.den ρ β) (y.den ρ β)).run P w = .ok (decide (e.den ρ ≠ 0)) w
include hty in
theorem eqFs_ok {d : Nat} {f : TypeId → V1 → V1 → Option E} (hf : EqOk P ρ β n d f) {xs ys : List CV} (hx : ∀ c ∈ xs, c.below n) (hy : ∀ c ∈ ys, c.below n) (w : World) :
    ∀ (l : List Field) {e : E}, (∀ g ∈ l, g.name ≠ "_") → eqFs ty f (l.map fun g => (g.offset, g.type)) xs ys = some e →
      (Op.eqFields d (xs.map (CV.den ρ β)).toArray (ys.map (CV.den ρ β)).toArray l).run P w = .ok (decide (e.den ρ ≠ 0)) w
  | [], e, _, h => by
    simp only [List.map_nil, eqFs] at h
    cases h
    simp [Op.eqFields, E.den]
  | g :: l, e, hn, h => by
    simp only [List.map_cons, eqFs] at h
    split at h
    · cases h
    · rename_i ti hti
      have hti := hty _ _ hti
      split at h
      · rename_i a b ha hb
        split at h
        · rename_i c r hc hr
          cases h
          have h1 := sub1_ok (ρ := ρ) (β := β) hti ha hx w
          have h2 := sub1_ok (ρ := ρ) (β := β) hti hb hy w
          have h3 := hf _ _ _ _ hc h1.1 h2.1 w
          have ih := eqFs_ok hf hx hy w l (fun g hg => hn g (List.mem_cons_of_mem _ hg)) hr
          rw [conjE_den]
          have hname : g.name ≠ "_" := hn g (List.mem_cons_self ..)
          simp only [Op.eqFields, if_pos hname, Sem.run_bind, h1.2, h2.2, h3, Result.andThen_ok]
          by_cases h0 : c.den ρ = 0
          · simp [h0]
          · simp only [h0, ne_eq, not_false_eq_true, decide_true, Bool.not_true, Bool.false_eq_true, if_false, Bool.true_and]
            simpa using ih
        · cases h
      · cases h
/-- An array's elements, one by one. -/
def eqElems (d : Nat) (e : TypeId) (size : Nat) (xs ys : Array Value) : Nat → Nat → Sem Bool
  | 0, _ => pure true
  | n + 1, i => do
    let a ← part e xs (i * size)
    let b ← part e ys (i * size)
    let r ← Op.equalIn d e a b
    if (!r) = true then pure false else eqElems d e size xs ys n (i + 1)
theorem run_equalIn_array (d : Nat) {t e : TypeId} {m : Nat} {te : TI} (xs ys : Array Value) (ht : P.underlying t = some (.array m e)) (he : TIok P e te) (w : World) :
    (Op.equalIn (d + 1) t (.agg xs) (.agg ys)).run P w = (eqElems d e te.size xs ys m 0).run P w := by
  simp only [Op.equalIn, Sem.run_bind, run_underlying ht, Result.andThen_ok, he.sizeOf w, Std.Legacy.Range.forIn_eq_forIn_range']
  have hsz : (Std.Legacy.Range.size [:m]) = m := by simp [Std.Legacy.Range.size]
  rw [hsz]
  show ((Sem.run P (forIn (List.range' 0 m 1) _ _) w).andThen _) = _
  clear ht hsz
  generalize 0 = i
  induction m generalizing i w with
  | zero => simp [eqElems]
  | succ m ih =>
    simp only [List.range'_succ, List.forIn_cons, eqElems, Sem.run_bind]
    generalize (part e xs (i * te.size)).run P w = r1
    cases r1 with
    | ok a w1 =>
      simp only [Result.andThen_ok]
      generalize (part e ys (i * te.size)).run P w1 = r2
      cases r2 with
      | ok b w2 =>
        simp only [Result.andThen_ok]
        generalize (Op.equalIn d e a b).run P w2 = r3
        cases r3 with
        | ok r w3 =>
          cases r
          · simp only [Result.andThen_ok, Bool.not_false, if_true, Sem.run_pure]
          · simp only [Result.andThen_ok, Bool.not_true, Bool.false_eq_true, if_false, Sem.run_pure]
            exact ih w3 (i + 1)
        | halt x w3 => simp [Result.andThen]
      | halt x w2 => simp [Result.andThen]
    | halt x w1 => simp [Result.andThen]
theorem eqEs_ok {d : Nat} {f : TypeId → V1 → V1 → Option E} (hf : EqOk P ρ β n d f) {t : TypeId} {te : TI} (hte : TIok P t te) {xs ys : List CV} (hx : ∀ c ∈ xs, c.below n) (hy : ∀ c ∈ ys, c.below n) (w : World) :
    ∀ (m i : Nat) {e : E}, eqEs (f t) te m i xs ys = some e →
      (eqElems d t te.size (xs.map (CV.den ρ β)).toArray (ys.map (CV.den ρ β)).toArray m i).run P w = .ok (decide (e.den ρ ≠ 0)) w
  | 0, i, e, h => by
    simp only [eqEs] at h
    cases h
    simp [eqElems, E.den]
  | m + 1, i, e, h => by
    simp only [eqEs] at h
    split at h
    · rename_i a b ha hb
      split at h
      · rename_i c r hc hr
        cases h
        have h1 := sub1_ok (ρ := ρ) (β := β) hte ha hx w
        have h2 := sub1_ok (ρ := ρ) (β := β) hte hb hy w
        have h3 := hf _ _ _ _ hc h1.1 h2.1 w
        have ih := eqEs_ok hf hte hx hy w m (i + 1) hr
        rw [conjE_den]
        simp only [eqElems, Sem.run_bind, h1.2, h2.2, h3, Result.andThen_ok]
        by_cases h0 : c.den ρ = 0
        · simp [h0]
        · simp only [h0, ne_eq, not_false_eq_true, decide_true, Bool.not_true, Bool.false_eq_true, if_false, Bool.true_and]
          simpa using ih
      · cases h
    · cases h
include hty in
theorem eqV_ok : ∀ d : Nat, ∀ D, d ≤ D → EqOk P ρ β n D (eqV ty d)
  | 0, D, _ => fun t x y e h => by simp [eqV] at h
  | d + 1, D, hD => fun t x y e h hx hy w => by
    obtain ⟨D, rfl⟩ : ∃ D', D = D' + 1 := ⟨D - 1, by omega⟩
    have ih := eqV_ok d D (by omega)
    simp only [eqV] at h
    split at h
    · cases h
    · rename_i ti hti
      have hti := hty _ _ hti
      split at h
      · rename_i k k1 a k2 b hd
        split at h
        · rename_i h12
          split at h
          · rename_i h01
            cases h
            have e1 := keq_eq h12; have e2 := keq_eq h01
            subst e1
            simp only [V1.den, CV.den]
            rw [run_equalIn_int w D t _ k _ _ (hti.int hd)]
            by_cases hh : a.den ρ = b.den ρ <;> simp [mkBin_den, BO.den, hh]
          · cases h
        · cases h
      · rename_i a b hd
        cases h
        simp only [V1.den, CV.den]
        rw [run_equalIn_bool' w D t _ _ (hti.bool hd)]
        by_cases h1 : a.den ρ = 0 <;> by_cases h2 : b.den ρ = 0 <;> simp [mkBin_den, BO.den, h1, h2]
      · rename_i fs xs ys hd
        split at h
        · rename_i he
          obtain ⟨f, hf, hfs⟩ := hti.strct hd
          subst hfs
          have heq := hti.eqo he
          simp only [V1.den]
          have hfo : P.fieldsOf t = f := by simp [Program.fieldsOf, hf]
          rw [run_equalIn_struct w D t _ _ (by rw [hfo]; exact hf) heq.1, hfo]
          exact eqFs_ok hty ρ β ih hx hy w f.toList (heq.2.2 f hf) h
        · cases h
      · rename_i m e' xs ys hd
        split at h
        · rename_i te hte
          simp only [V1.den]
          rw [run_equalIn_array D _ _ (hti.arr hd) (hty _ _ hte) w]
          exact eqEs_ok ρ β (f := eqV ty d) ih (hty _ _ hte) hx hy w m 0 h
        · cases h
      · cases h
end
end
end Go.Sx
