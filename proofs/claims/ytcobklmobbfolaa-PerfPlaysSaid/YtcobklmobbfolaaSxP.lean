/-
  SX, PART 5: OPERATIONS THAT LEAVE THE WORLD AS IT IS.
-/
import Derived.Test.YtcobklmobbfolaaSxV
namespace Go.Sx
noncomputable section

/-! ### types -/
inductive TD where
  | int (k : IntKind) | bool | str | ptr (e : TypeId) | slc (e : TypeId) | arr (n : Nat) (e : TypeId) | strct (fs : List (Nat × TypeId)) | fnT | other
deriving Inhabited
structure TI where
  d : TD
  agg : Bool
  size : Nat
  bytes : Nat
  zero : Option V1
  eqo : Bool
deriving Inhabited
def tdOf : TypeDesc → TD
  | .int k => .int k
  | .bool => .bool
  | .string => .str
  | .pointer e => .ptr e
  | .slice e => .slc e
  | .array n e => .arr n e
  | .struct fs => .strct (fs.toList.map fun f => (f.offset, f.type))
  | .func _ _ _ => .fnT
  | _ => .other
def aggOf : TypeDesc → Bool
  | .struct _ | .array _ _ => true
  | _ => false
def cvOf : Value → Option CV
  | .int k n => some (.int k (.lit n))
  | .bool b => some (.bool (.lit (if b then 1 else 0)))
  | .pointer none => some .nilp
  | .slice none 0 0 => some .nils
  | .nilFunc => some .nilf
  | .string s => some (.raw (.string s))
  | .nilIface => some (.raw .nilIface)
  | .map none => some (.raw (.map none))
  | .chan none => some (.raw (.chan none))
  | _ => none
def cvsOf : List Value → Option (List CV)
  | [] => some []
  | v :: vs => match cvOf v, cvsOf vs with | some c, some cs => some (c :: cs) | _, _ => none
def v1Of : Value → Option V1
  | .agg cs => (cvsOf cs.toList).map .agg
  | v => (cvOf v).map .one
theorem cvOf_den {v : Value} {c : CV} (h : cvOf v = some c) (ρ : Env) (β : Lab) (n : Nat) : c.den ρ β = v ∧ c.below n := by
  unfold cvOf at h
  split at h <;> first | (cases h; exact ⟨rfl, trivial⟩) | skip
  · rename_i b
    cases h
    refine ⟨?_, trivial⟩
    cases b <;> simp [CV.den, E.den]
  · cases h
theorem cvsOf_den : ∀ {vs : List Value} {cs : List CV}, cvsOf vs = some cs → ∀ (ρ : Env) (β : Lab) (n : Nat), cs.map (CV.den ρ β) = vs ∧ ∀ c ∈ cs, c.below n
  | [], cs, h, ρ, β, n => by cases h; exact ⟨rfl, fun c hc => (by cases hc)⟩
  | v :: vs, cs, h, ρ, β, n => by
    unfold cvsOf at h
    split at h
    · rename_i c cs' hc hcs
      cases h
      have h1 := cvOf_den hc ρ β n
      have h2 := cvsOf_den hcs ρ β n
      refine ⟨by rw [List.map_cons, h1.1, h2.1], fun x hx => ?_⟩
      rcases List.mem_cons.1 hx with rfl | hx
      · exact h1.2
      · exact h2.2 x hx
    · cases h
theorem v1Of_den {v : Value} {x : V1} (h : v1Of v = some x) (ρ : Env) (β : Lab) (n : Nat) : x.den ρ β = v ∧ x.below n := by
  unfold v1Of at h
  split at h
  · rename_i cs
    simp only [Option.map_eq_some_iff] at h
    obtain ⟨l, hl, rfl⟩ := h
    have := cvsOf_den hl ρ β n
    exact ⟨by simp only [V1.den, this.1], this.2⟩
  · simp only [Option.map_eq_some_iff] at h
    obtain ⟨c, hc, rfl⟩ := h
    exact cvOf_den hc ρ β n
def TI.of (P : Program) (t : TypeId) : Option TI :=
  match P.underlying t, P.info? t with
  | some d, some i => some { d := tdOf d, agg := aggOf d, size := i.size, bytes := i.bytes, zero := i.zero.bind v1Of, eqo := !P.stoodInHeld t && !P.eqGuardType P.depth t && (match d with | .struct fs => fs.all (fun f => f.name != "_") | _ => true) }
  | _, _ => none

/-- What a type's row says of the program. -/
structure TIok (P : Program) (t : TypeId) (ti : TI) : Prop where
  eqo : ti.eqo = true → P.stoodInHeld t = false ∧ P.eqGuardType P.depth t = false ∧ ∀ fs, P.underlying t = some (.struct fs) → ∀ f ∈ fs.toList, f.name ≠ "_"
  u : ∃ d i, P.underlying t = some d ∧ P.info? t = some i ∧ tdOf d = ti.d ∧ aggOf d = ti.agg ∧ i.size = ti.size ∧ i.bytes = ti.bytes ∧ i.zero.bind v1Of = ti.zero
theorem TI.of_ok {P : Program} {t : TypeId} {ti : TI} (h : TI.of P t = some ti) : TIok P t ti := by
  unfold TI.of at h
  split at h
  · rename_i d i hd hi
    cases h
    refine ⟨fun he => ?_, d, i, hd, hi, rfl, rfl, rfl, rfl, rfl⟩
    simp only [Bool.and_eq_true, Bool.not_eq_true'] at he
    refine ⟨he.1.1, he.1.2, fun fs hfs f hf => ?_⟩
    rw [hd] at hfs
    cases hfs
    have := he.2
    simp only [Array.all_eq_true_iff_forall_mem] at this
    simpa using this f (by simpa using hf)
  · cases h
abbrev Tys := TypeId → Option TI
def TysOk (P : Program) (ty : Tys) : Prop := ∀ t ti, ty t = some ti → TIok P t ti

section
variable {P : Program} {t : TypeId} {ti : TI} (w : World)
theorem TIok.isAgg (h : TIok P t ti) : (isAgg t).run P w = .ok ti.agg w := by
  obtain ⟨d, i, hd, hi, -, ha, -⟩ := h.u
  unfold Go.isAgg
  rw [Sem.run_bind, run_underlying hd w]
  rw [← ha]
  cases d <;> rfl
theorem TIok.sizeOf (h : TIok P t ti) : (sizeOf t).run P w = .ok ti.size w := by
  obtain ⟨d, i, hd, hi, -, -, hs, -⟩ := h.u
  simp [Go.sizeOf, typeInfo, hi, hs]
theorem TIok.zero (h : TIok P t ti) {z : V1} (hz : ti.zero = some z) (ρ : Env) (β : Lab) (n : Nat) : (zeroValue t).run P w = .ok (z.den ρ β) w ∧ z.below n := by
  obtain ⟨d, i, hd, hi, -, -, -, -, hz'⟩ := h.u
  rw [hz] at hz'
  cases hiz : i.zero with
  | none => rw [hiz] at hz'; cases hz'
  | some v =>
    rw [hiz] at hz'
    have := v1Of_den (show v1Of v = some z from hz') ρ β n
    refine ⟨?_, this.2⟩
    simp [zeroValue, typeInfo, hi, hiz, this.1]
theorem TIok.under (h : TIok P t ti) : ∃ d, P.underlying t = some d ∧ tdOf d = ti.d := by
  obtain ⟨d, i, hd, hi, h1, -⟩ := h.u
  exact ⟨d, hd, h1⟩
theorem tdOf_int {d : TypeDesc} {k : IntKind} (h : tdOf d = .int k) : d = .int k := by
  cases d <;> simp [tdOf] at h <;> simp [h]
theorem tdOf_bool {d : TypeDesc} (h : tdOf d = .bool) : d = .bool := by
  cases d <;> simp [tdOf] at h <;> rfl
theorem tdOf_str {d : TypeDesc} (h : tdOf d = .str) : d = .string := by
  cases d <;> simp [tdOf] at h <;> rfl
theorem tdOf_ptr {d : TypeDesc} {e : TypeId} (h : tdOf d = .ptr e) : d = .pointer e := by
  cases d <;> simp [tdOf] at h <;> simp [h]
theorem tdOf_slc {d : TypeDesc} {e : TypeId} (h : tdOf d = .slc e) : d = .slice e := by
  cases d <;> simp [tdOf] at h <;> simp [h]
theorem tdOf_arr {d : TypeDesc} {n : Nat} {e : TypeId} (h : tdOf d = .arr n e) : d = .array n e := by
  cases d <;> simp [tdOf] at h <;> simp [h]
theorem tdOf_fnT {d : TypeDesc} (h : tdOf d = .fnT) : ∃ p r v, d = .func p r v := by
  cases d <;> simp [tdOf] at h <;> exact ⟨_, _, _, rfl⟩
theorem tdOf_strct {d : TypeDesc} {fs : List (Nat × TypeId)} (h : tdOf d = .strct fs) : ∃ f : Array Field, d = .struct f ∧ fs = f.toList.map fun f => (f.offset, f.type) := by
  cases d <;> simp [tdOf] at h
  exact ⟨_, rfl, h.symm⟩
theorem TIok.int (h : TIok P t ti) {k : IntKind} (hd : ti.d = .int k) : P.underlying t = some (.int k) := by
  obtain ⟨d, h1, h2⟩ := h.under; rw [h1, tdOf_int (h2.trans hd)]
theorem TIok.bool (h : TIok P t ti) (hd : ti.d = .bool) : P.underlying t = some .bool := by
  obtain ⟨d, h1, h2⟩ := h.under; rw [h1, tdOf_bool (h2.trans hd)]
theorem TIok.ptr (h : TIok P t ti) {e : TypeId} (hd : ti.d = .ptr e) : P.underlying t = some (.pointer e) := by
  obtain ⟨d, h1, h2⟩ := h.under; rw [h1, tdOf_ptr (h2.trans hd)]
theorem TIok.slc (h : TIok P t ti) {e : TypeId} (hd : ti.d = .slc e) : P.underlying t = some (.slice e) := by
  obtain ⟨d, h1, h2⟩ := h.under; rw [h1, tdOf_slc (h2.trans hd)]
theorem TIok.arr (h : TIok P t ti) {n : Nat} {e : TypeId} (hd : ti.d = .arr n e) : P.underlying t = some (.array n e) := by
  obtain ⟨d, h1, h2⟩ := h.under; rw [h1, tdOf_arr (h2.trans hd)]
theorem TIok.fnT (h : TIok P t ti) (hd : ti.d = .fnT) : ∃ p r v, P.underlying t = some (.func p r v) := by
  obtain ⟨d, h1, h2⟩ := h.under
  obtain ⟨p, r, v, e⟩ := tdOf_fnT (h2.trans hd)
  exact ⟨p, r, v, by rw [h1, e]⟩
theorem TIok.strct (h : TIok P t ti) {fs : List (Nat × TypeId)} (hd : ti.d = .strct fs) : ∃ f : Array Field, P.underlying t = some (.struct f) ∧ fs = f.toList.map fun f => (f.offset, f.type) := by
  obtain ⟨d, h1, h2⟩ := h.under
  obtain ⟨f, hf, e⟩ := tdOf_strct (h2.trans hd)
  exact ⟨f, by rw [h1, hf], e⟩
end

/-! ### operands -/
abbrev Ev := Operand → Option SV
def evOf (slots : Nat → Option SV) : Ev
  | .tmp t => slots t
  | .const v => (v1Of v).map .v
  | .func f => some (.v (.one (.fn f [] [])))
  | .global _ => none
structure SatA (ρ : Env) (β : Lab) (n : Nat) (slots : Nat → Option SV) (a : Act) : Prop where
  slot : ∀ t v, slots t = some v → v.below n ∧ a.tmps[t]? = some (v.den ρ β)
  defers : a.defers = []
def EvOk (ρ : Env) (β : Lab) (n : Nat) (ev : Ev) (f : Operand → Value) : Prop := ∀ x v, ev x = some v → v.below n ∧ f x = v.den ρ β
theorem SatA.ev {ρ : Env} {β : Lab} {n : Nat} {slots : Nat → Option SV} {a : Act} (h : SatA ρ β n slots a) : EvOk ρ β n (evOf slots) a.eval := by
  intro x v hv
  cases x with
  | tmp t =>
    obtain ⟨hb, ht⟩ := h.slot t v hv
    refine ⟨hb, ?_⟩
    simp [Act.eval, ht]
  | const c =>
    simp only [evOf, Option.map_eq_some_iff] at hv
    obtain ⟨x, hx, rfl⟩ := hv
    have := v1Of_den hx ρ β n
    exact ⟨this.2, this.1.symm⟩
  | global g => cases hv
  | func f =>
    cases hv
    exact ⟨⟨fun p hp => (by cases hp), fun p hp => (by cases hp)⟩, rfl⟩

def asI : Option SV → Option (IntKind × E)
  | some (.v (.one (.int k e))) => some (k, e) | _ => none
def asB : Option SV → Option E
  | some (.v (.one (.bool e))) => some e | _ => none
def asP : Option SV → Option (Nat × Nat)
  | some (.v (.one (.ptr l o))) => some (l, o) | _ => none
def asV : Option SV → Option V1
  | some (.v x) => some x | _ => none
theorem asI_eq {x : Option SV} {k : IntKind} {e : E} (h : asI x = some (k, e)) : x = some (.v (.one (.int k e))) := by
  unfold asI at h; split at h <;> simp at h; obtain ⟨rfl, rfl⟩ := h; rfl
theorem asB_eq {x : Option SV} {e : E} (h : asB x = some e) : x = some (.v (.one (.bool e))) := by
  unfold asB at h; split at h <;> simp at h; subst h; rfl
theorem asP_eq {x : Option SV} {l o : Nat} (h : asP x = some (l, o)) : x = some (.v (.one (.ptr l o))) := by
  unfold asP at h; split at h <;> simp at h; obtain ⟨rfl, rfl⟩ := h; rfl
theorem asV_eq {x : Option SV} {v : V1} (h : asV x = some v) : x = some (.v v) := by
  unfold asV at h; split at h <;> simp at h; subst h; rfl

abbrev Alts := List (Known × SV)
/-- The alternatives cover all that may be; each adds to what is known. -/
def Covers (ρ : Env) (k : Known) (alts : Alts) : Prop := Known.holds ρ k → ∃ x ∈ alts, Known.holds ρ x.1
def Grows (ρ : Env) (k : Known) (alts : Alts) : Prop := ∀ x ∈ alts, Known.holds ρ x.1 → Known.holds ρ k

/-- A fork on a test: what is decided already is not asked. -/
def fork (k : Known) (c : E) : List (Known × Bool) :=
  match dec k c with
  | some b => [(k, b)]
  | none =>
    assumeK k c true fun t => assumeK k c false fun f =>
    match bad t with | true => (match bad f with | true => [] | false => [(f, false)]) | false => match bad f with | true => [(t, true)] | false => [(t, true), (f, false)]
theorem fork_covers {ρ : Env} {k : Known} {c : E} (hk : Known.holds ρ k) : ∃ x ∈ fork k c, Known.holds ρ x.1 := by
  unfold fork
  simp only [assumeK_eq]
  split
  · exact ⟨_, List.mem_singleton.2 rfl, hk⟩
  · by_cases hc : c.den ρ = 0
    · have hf : Known.holds ρ (assume k c false) := assume_holds hk (by simp [hc])
      have := bad_sound hf
      simp only [this]
      split
      · exact ⟨_, List.mem_singleton.2 rfl, hf⟩
      · exact ⟨(assume k c false, false), by simp, hf⟩
    · have ht : Known.holds ρ (assume k c true) := assume_holds hk (by simp [hc])
      have := bad_sound ht
      simp only [this]
      split
      · exact ⟨_, List.mem_singleton.2 rfl, ht⟩
      · exact ⟨(assume k c true, true), by simp, ht⟩
theorem fork_sound {ρ : Env} {k : Known} {c : E} {x : Known × Bool} (hx : x ∈ fork k c) (h : Known.holds ρ x.1) : Known.holds ρ k ∧ (c.den ρ ≠ 0 ↔ x.2 = true) := by
  unfold fork at hx
  simp only [assumeK_eq] at hx
  split at hx
  · rename_i b hb
    rw [List.mem_singleton.1 hx] at h ⊢
    exact ⟨h, dec_sound h hb⟩
  · have key : x = (assume k c true, true) ∨ x = (assume k c false, false) := by
      split at hx
      · split at hx
        · simp at hx
        · exact .inr (List.mem_singleton.1 hx)
      · split at hx
        · exact .inl (List.mem_singleton.1 hx)
        · simpa using hx
    rcases key with rfl | rfl
    · exact assume_imp h
    · exact assume_imp h
end
end Go.Sx
