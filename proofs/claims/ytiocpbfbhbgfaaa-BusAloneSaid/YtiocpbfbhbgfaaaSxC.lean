/-
  SX: a symbolic executor, sound for the model's rules; several parts in one text. Copied by program.
-/
import Derived.Test.YtiocpbfbhbgfaaaSxX
import Derived.ChangeArms
import Derived.DataReads
import Derived.SizedLaws
/-
  SX: BITS. What expressions of uint64 denote, as bit vectors; a few laws of these.
-/
namespace Go.Sx
set_option linter.unusedSimpArgs false
set_option linter.unusedVariables false
set_option linter.unusedSectionVars false
noncomputable section

abbrev B64 (x : Int) : BitVec 64 := BitVec.ofInt 64 x
theorem wrap_toNat (v : BitVec 64) : IntKind.u64.wrap (v.toNat : Int) = (v.toNat : Int) := by
  have := v.isLt
  exact wrap_in ⟨by simp [kmin], by simp [kmax]; omega⟩
theorem B64_toNat (v : BitVec 64) : B64 (v.toNat : Int) = v := ofInt_toNat v
theorem wrap_B64 (x : Int) : IntKind.u64.wrap x = ((B64 x).toNat : Int) := by
  rw [← wrap_toNat, ← wrap_toNat]
  have h := ofInt_wrap .u64 x
  have h2 : BitVec.ofInt 64 (IntKind.u64.wrap x) = B64 x := h
  have h3 := wrap_range .u64 x
  simp only [kmin, kmax] at h3
  have e : IntKind.u64.wrap x = ((B64 x).toNat : Int) := by
    rw [← h2, BitVec.toNat_ofInt, Int.emod_eq_of_lt (by omega) (by omega)]
    omega
  rw [wrap_toNat, wrap_toNat, e]
section
variable (ρ : Env) (a b : E)
theorem den_and64 : (E.bin (.and .u64) a b).den ρ = ((B64 (a.den ρ) &&& B64 (b.den ρ)).toNat : Int) := by simp only [E.den, BO.den]; exact wrap_toNat _
theorem den_or64 : (E.bin (.or .u64) a b).den ρ = ((B64 (a.den ρ) ||| B64 (b.den ρ)).toNat : Int) := by simp only [E.den, BO.den]; exact wrap_toNat _
theorem den_xor64 : (E.bin (.xor .u64) a b).den ρ = ((B64 (a.den ρ) ^^^ B64 (b.den ρ)).toNat : Int) := by simp only [E.den, BO.den]; exact wrap_toNat _
theorem den_andn64 : (E.bin (.andNot .u64) a b).den ρ = ((B64 (a.den ρ) &&& ~~~B64 (b.den ρ)).toNat : Int) := by simp only [E.den, BO.den]; exact wrap_toNat _
theorem den_add64 : (E.bin (.add .u64) a b).den ρ = ((B64 (a.den ρ) + B64 (b.den ρ)).toNat : Int) := by
  simp only [E.den, BO.den]; rw [wrap_B64, B64, BitVec.ofInt_add]
theorem den_sub64 : (E.bin (.sub .u64) a b).den ρ = ((B64 (a.den ρ) - B64 (b.den ρ)).toNat : Int) := by
  simp only [E.den, BO.den]; rw [wrap_B64, B64, Int.sub_eq_add_neg, BitVec.ofInt_add, BitVec.ofInt_neg, BitVec.sub_eq_add_neg]
theorem den_eq (h : a.den ρ = b.den ρ) : (E.bin .eq a b).den ρ ≠ 0 := by simp [E.den, BO.den, h]
theorem den_eq_iff : (E.bin .eq a b).den ρ ≠ 0 ↔ a.den ρ = b.den ρ := by simp [E.den, BO.den]
theorem den_var (i : Nat) : (E.var i).den ρ = ρ.v i := by simp only [E.den]
theorem den_lit (n : Nat) : (E.lit (.ofNat n)).den ρ = (n : Int) := by simp only [E.den]; rfl
end
theorem B64_lit (n : Nat) : B64 (n : Int) = BitVec.ofNat 64 n := BitVec.ofInt_natCast 64 n
theorem cast_eq {v w : BitVec 64} (h : v = w) : (v.toNat : Int) = (w.toNat : Int) := by rw [h]

theorem bits_sip (a b c d : BitVec 64) : ((a &&& ~~~(c &&& d)) ||| (b &&& (c &&& d))) = ((a &&& ~~~(c &&& d)) ||| ((b &&& c) &&& d)) := by rw [BitVec.and_assoc]
theorem sub_mask {m c : BitVec 64} (h : c &&& m = c) (i : Nat) : c.getLsbD i = true → m.getLsbD i = true := by
  intro hc
  rw [← h, BitVec.getLsbD_and, Bool.and_eq_true] at hc
  exact hc.2
theorem bits_status {m c : BitVec 64} (h : c &&& m = c) (v x : BitVec 64) : (((v &&& ~~~c) ||| (x &&& c)) &&& m) = (((v &&& m) &&& ~~~c) ||| (x &&& c)) := by
  apply BitVec.eq_of_getLsbD_eq
  intro i hi
  have hm := sub_mask h i
  simp only [BitVec.getLsbD_and, BitVec.getLsbD_or, BitVec.getLsbD_not, hi, decide_true, Bool.true_and]
  generalize v.getLsbD i = p at *
  generalize x.getLsbD i = q at *
  generalize c.getLsbD i = r at *
  generalize m.getLsbD i = s at *
  revert hm
  cases p <;> cases q <;> cases r <;> cases s <;> decide
theorem bits_view {m c d : BitVec 64} (h : c &&& m = 0) (h' : d &&& m = 0) (x : BitVec 64) : (((x &&& m) ||| c) &&& ~~~c) = ((x ||| d) &&& m) := by
  apply BitVec.eq_of_getLsbD_eq
  intro i hi
  have e1 : c.getLsbD i = true → m.getLsbD i = true → False := by
    intro h1 h2
    have := congrArg (fun v => BitVec.getLsbD v i) h
    simp [h1, h2] at this
  have e2 : d.getLsbD i = true → m.getLsbD i = true → False := by
    intro h1 h2
    have := congrArg (fun v => BitVec.getLsbD v i) h'
    simp [h1, h2] at this
  simp only [BitVec.getLsbD_and, BitVec.getLsbD_or, BitVec.getLsbD_not, hi, decide_true, Bool.true_and]
  generalize x.getLsbD i = p at *
  generalize c.getLsbD i = r at *
  generalize m.getLsbD i = s at *
  generalize d.getLsbD i = t at *
  revert e1 e2
  cases p <;> cases r <;> cases s <;> cases t <;> decide
theorem bits_cyc (x y z : BitVec 64) : (x + y) - z = y + (x - z) := by
  rw [BitVec.sub_eq_add_neg, BitVec.sub_eq_add_neg, BitVec.add_comm x y, BitVec.add_assoc]
end
end Go.Sx
/-
  SX: LOOPS. Code as a list of parts; a state held against a template; rounds by induction.
-/
namespace Go.Sx
set_option linter.unusedSimpArgs false
set_option linter.unusedVariables false
set_option linter.unusedSectionVars false
noncomputable section
set_option linter.unusedVariables false
set_option linter.unusedSimpArgs false

/-! ### code as a list of parts -/
def WPs (P : Program) : List Code → (Exit → Act → World → Prop) → Act → World → Prop
  | [], Q => Q .normal
  | c :: r, Q => c.wp P (Exit.then (WPs P r Q) Q)
theorem WPs.mono {P : Program} : ∀ {l : List Code} {Q Q' : Exit → Act → World → Prop} {a : Act} {w : World}, WPs P l Q a w → (∀ e a w, Q e a w → Q' e a w) → WPs P l Q' a w
  | [], _, _, _, _, h, hq => hq _ _ _ h
  | c :: r, Q, Q', _, _, h, hq => wp_mono h fun e a w he => by
    cases e with
    | normal => exact WPs.mono (l := r) he hq
    | _ => exact hq _ _ _ he
theorem WPs.append {P : Program} : ∀ {l r : List Code} {Q : Exit → Act → World → Prop} {a : Act} {w : World}, WPs P l (Exit.then (WPs P r Q) Q) a w → WPs P (l ++ r) Q a w
  | [], r, Q, a, w, h => h
  | c :: l, r, Q, a, w, h => wp_mono h fun e a w he => by
    cases e with
    | normal => exact WPs.append (l := l) he
    | _ => exact he
theorem WPs.split {P : Program} : ∀ {l r : List Code} {Q : Exit → Act → World → Prop} {a : Act} {w : World}, WPs P (l ++ r) Q a w → WPs P l (Exit.then (WPs P r Q) Q) a w
  | [], r, Q, a, w, h => h
  | c :: l, r, Q, a, w, h => wp_mono h fun e a w he => by
    cases e with
    | normal => exact WPs.split (l := l) he
    | _ => exact he
/-- The parts of a sequence. -/
def flat : Code → List Code
  | .seq a b => flat a ++ flat b
  | c => [c]
theorem WPs.one {P : Program} {c : Code} {Q : Exit → Act → World → Prop} {a : Act} {w : World} (h : WPs P [c] Q a w) : c.wp P Q a w := wp_mono h fun e a w he => by cases e <;> exact he
theorem WPs.flat {P : Program} {c : Code} : ∀ {Q : Exit → Act → World → Prop} {a : Act} {w : World}, WPs P (flat c) Q a w → c.wp P Q a w := by
  induction c with
  | seq x y hx hy =>
    intro Q a w h
    rw [Sx.flat] at h
    refine wp_seq (hx ((WPs.split h).mono fun e a w he => ?_))
    cases e with
    | normal => exact hy he
    | _ => exact he
  | _ => intro Q a w h; exact WPs.one h

/-! ### the executor on a list of parts -/
def execL (cf : Cfg) (n : Nat) (nt : Nat) : List Code → Known → S → Option Outs
  | [], k, s => some [(k, .nrm, s)]
  | c :: r, k, s => match exec cf n nt c k s with
    | some outs => bindS (fun k x => k.whK fun k => match x with | (e, s) => s.whK fun s => match e with | .nrm => execL cf n nt r k s | e => some [(k, e, s)]) outs
    | none => none
def LXGood (P : Program) (ρ : Env) (nt : Nat) (l : List Code) (s : S) (o : XK × S) : Prop :=
  ∀ (Δ : List Deferred) (β : Lab) (a : Act) (w : World), SatS Δ ρ β nt s a w → ∀ Q : Exit → Act → World → Prop, (∀ β' a' w', Goes Δ ρ β nt s w β' o.2 a' w' → Q o.1.toExit a' w') → WPs P l Q a w
section
variable {P : Program} {cf : Cfg} (hty : TysOk P cf.ty) {ρ : Env}
include hty in
theorem execL_ok (hfn : FnOk P cf.fn) (hct : CallOk P ρ cf.ct) (hdr : DrawOk P ρ cf) (n nt : Nat) : ∀ (l : List Code) (k : Known) (s : S) (outs : Outs), execL cf n nt l k s = some outs → AltsOk ρ k outs (LXGood P ρ nt l s)
  | [], k, s, outs, h => by
    simp only [execL] at h
    cases h
    exact AltsOk.single fun _ Δ β a w hs Q hQ => hQ β a w (Goes.refl hs)
  | c :: r, k, s, outs, h => by
    simp only [execL, bindS_eq, Known.whK_eq, S.whK_eq] at h
    split at h
    · rename_i outs1 h1
      refine ((exec_ok hty hfn hct hdr n).1 _ _ _ _ _ h1).bind h fun k' o ys hys => ?_
      obtain ⟨x, s1⟩ := o
      cases x with
      | nrm =>
        simp only at hys
        refine (execL_ok hfn hct hdr n nt r k' s1 ys hys).weaken fun y hy hx => ?_
        intro Δ β a w hs Q hQ
        refine hx Δ β a w hs _ fun β' a' w' hg => ?_
        exact hy Δ β' a' w' hg.sat Q fun β'' a'' w'' hg' => hQ _ _ _ (Goes.trans hs.sh hg hg')
      | ext id =>
        simp only at hys
        cases hys
        refine AltsOk.single fun _ hx => ?_
        intro Δ β a w hs Q hQ
        exact hx Δ β a w hs _ fun β' a' w' hg => hQ _ _ _ hg
      | ret =>
        simp only at hys
        cases hys
        refine AltsOk.single fun _ hx => ?_
        intro Δ β a w hs Q hQ
        exact hx Δ β a w hs _ fun β' a' w' hg => hQ _ _ _ hg
    · cases h
end

/-! ### states over a first world -/
/-- Where a walk began: its world, the old blocks that may be written, the labels that stay, what these and the fixed numbers stand for. -/
structure Ctx where
  W : World
  S : Nat → Prop
  n0 : Nat
  β0 : Lab
  ρ0 : Env
  Δ : List Deferred
/-- The numbers and tables below 100 are fixed. -/
def Fix (ρ ρ' : Env) : Prop := ∀ i, i < 100 → ρ'.v i = ρ.v i ∧ ρ'.t i = ρ.t i
theorem Fix.refl (ρ : Env) : Fix ρ ρ := fun _ _ => ⟨rfl, rfl⟩
theorem Fix.trans {ρ ρ' ρ'' : Env} (h : Fix ρ ρ') (h' : Fix ρ' ρ'') : Fix ρ ρ'' := fun i hi => ⟨(h' i hi).1.trans (h i hi).1, (h' i hi).2.trans (h i hi).2⟩
structure TS (C : Ctx) (ρ : Env) (β : Lab) (nt : Nat) (s : S) (a : Act) (w : World) : Prop where
  sat : SatS C.Δ ρ β nt s a w
  frm : Frm C.S C.W w
  own : ∀ l x, s.heap.get l = some x → x.wr = true → x.blk.hb β → C.W.heap.size ≤ β.b l ∨ C.S (β.b l)
  fix : Fix C.ρ0 ρ
  lab : C.β0.agree C.n0 β
  le : C.n0 ≤ s.nx
theorem TS.goes {C : Ctx} {ρ : Env} {β β' : Lab} {nt : Nat} {s s' : S} {a a' : Act} {w w' : World} (h : TS C ρ β nt s a w) (g : Goes C.Δ ρ β nt s w β' s' a' w') : TS C ρ β' nt s' a' w' := by
  obtain ⟨t, st, _, hsub⟩ := g.step
  have hblocks : ∀ k, t.blocks β s.nx s.heap.get k → C.W.heap.size ≤ k ∨ C.S k := by
    rintro k ⟨l, hl, hn, ⟨y, hy, hyh⟩, he⟩
    obtain ⟨z, hz⟩ := Sets.mem_find hl
    obtain ⟨y', hy', hyw, _⟩ := st.own l z hz hn
    rw [hy] at hy'
    cases hy'
    have := h.own l y hy hyw hyh
    rw [he] at this
    exact this
  refine ⟨g.sat, Frm.trans h.frm st.frm fun k hk hb => ?_, fun l x hx hw hh => ?_, h.fix, fun l hl => ?_, Nat.le_trans h.le st.le⟩
  · rcases hblocks k hb with h1 | h1
    · omega
    · exact h1
  · have h1 := hsub l x hx
    by_cases hm : l ∈ t.labels
    · rw [Heap.set_of_mem hm] at h1
      by_cases hn : l < s.nx
      · obtain ⟨y, hy, hyw, hyh⟩ := st.own l x h1 hn
        rw [(st.agree l hn).1]
        exact h.own l y hy hyw (hyh hh)
      · have h3 := h.frm.size
        rcases (st.new l x h1 (by omega)).2 hh with h2 | h2
        · exact .inl (by omega)
        · exact hblocks _ h2
    · rw [Heap.set_of_not_mem hm] at h1
      have hb := h.sat.sh.blk l x h1
      rw [(st.agree l hb.1).1]
      exact h.own l x h1 hw ((Blk.hb_agree st.agree hb.2.1).1 hh)
  · have h1 := st.agree l (Nat.lt_of_lt_of_le hl h.le)
    exact ⟨h1.1.trans (h.lab l hl).1, h1.2.trans (h.lab l hl).2⟩
theorem execL_TS {P : Program} {ty : Tys} {fn : FuncId → Option Func} (hm : P.follows .mixedOrders = true) (hty : TysOk P ty) (hfn : FnOk P fn) {n nt : Nat} {l : List Code} {k : Known} {s : S} {outs : Outs}
    {hn : Hn} (hct : ∀ ρ, CallOk P ρ hn.ct) (h : execL (mkCfgM ty fn hn) n nt l k s = some outs) {ρ : Env} (hk : Known.holds ρ k) {C : Ctx} {β : Lab} {a : Act} {w : World} (ht : TS C ρ β nt s a w) {Q : Exit → Act → World → Prop}
    (hQ : ∀ o ∈ outs, Known.holds ρ o.1 → ∀ β' a' w', TS C ρ β' nt o.2.2 a' w' → Q o.2.1.toExit a' w') : WPs P l Q a w := by
  have hx := execL_ok (ρ := ρ) (cf := mkCfgM ty fn hn) hty hfn (hct ρ) (fun _ _ _ _ _ _ hc hdom h => drawOps_ok (fnm := fn) hty hm hc hfn (fun f a h n k l e => hdom f a h n k l e) h) n nt l k s outs h
  obtain ⟨o, ho, hok⟩ := hx.1 hk
  exact (hx.2 o ho hok).2 C.Δ β a w ht.sat Q fun β' a' w' g => hQ o ho hok β' a' w' (ht.goes g)

/-! ### a state held against a template -/
structure Tm where
  slots : List (Nat × SV)
  heap : List (Nat × Ent)
  nx : Nat
  n0 : Nat := 0
def slOf : List (Nat × SV) → Sl
  | [] => .nil
  | (n, v) :: r => .cons n v (slOf r)
def Tm.toS (t : Tm) : S := ⟨slOf t.slots, putSets .leaf t.heap, t.nx, []⟩
abbrev Pairs := List (E × E)
/-- What a template's label stands for: a label of the state; a nil slice. -/
inductive LM where
  | lab (l : Nat) | nil
  /-- A value of which no more is asked. -/
  | val (c : CV)
abbrev LP := List (Nat × LM)
/-- Tables that have to be the same; in so many rows. -/
abbrev TPairs := List (E × E × Option (E × Nat))
def TEqP (ρ ρ' : Env) (p : E × E × Option (E × Nat)) : Prop := match p.2.2 with
  | none => p.1.tden ρ = p.2.1.tden ρ'
  | some (n, c) => ∀ i : Nat, (i : Int) < n.den ρ → ∀ j, j < c → p.1.tden ρ i j = p.2.1.tden ρ' i j
/-- What has to be the same: numbers, tables; what labels stand for. -/
structure Mt where
  ps : Pairs
  ts : TPairs
  lp : LP
def Mt.none_ : Mt := ⟨[], [], []⟩
def Mt.app (a b : Mt) : Mt := ⟨a.ps ++ b.ps, a.ts ++ b.ts, a.lp ++ b.lp⟩
def mlab (l' l : Nat) : Option Mt := some ⟨[], [], [(l', .lab l)]⟩
def ptsM : List (Nat × Nat) → List (Nat × Nat) → Option LP
  | [], [] => some []
  | (l, o) :: r, (l', o') :: r' => (match Nat.beq o o', ptsM r r' with | true, some p => some ((l', .lab l) :: p) | _, _ => none)
  | _, _ => none
def cvM : CV → CV → Option Mt
  | .int k e, .int k' e' => match keq k k' with | true => some ⟨[(e, e')], [], []⟩ | false => none
  | .bool e, .bool e' => some ⟨[(e, e')], [], []⟩
  | .ptr l o, .ptr l' o' => match Nat.beq o o' with | true => mlab l' l | false => none
  | .nilp, .nilp => some Mt.none_
  | .nils, .nils => some Mt.none_
  | .nilf, .nilf => some Mt.none_
  | .slc l o n c, .slc l' o' n' c' => match Nat.beq o o' with | true => some ⟨[(n, n'), (c, c')], [], [(l', .lab l)]⟩ | false => none
  | .tslc l z r n c, .tslc l' z' r' n' c' => match Nat.beq z z' with | true => some ⟨[(r, r'), (n, n'), (c, c')], [], [(l', .lab l)]⟩ | false => none
  | .osl l, .osl l' => mlab l' l
  | .osub l n c, .osub l' n' c' => some ⟨[(n, n'), (c, c')], [], [(l', .lab l)]⟩
  | .fn f a b, .fn f' a' b' => (match Nat.beq f f', ptsM a a', ptsM b b' with | true, some p, some q => some ⟨[], [], p ++ q⟩ | _, _, _ => none)
  | .str t n, .str t' n' => some ⟨[(n, n')], [(t, t', some (n, 1))], []⟩
  | .nils, .osl l' => some ⟨[], [], [(l', .nil)]⟩
  | .slc l o n c, .osl l' => some ⟨[], [], [(l', .val (.slc l o n c))]⟩
  | .tslc l z r n c, .osl l' => some ⟨[], [], [(l', .val (.tslc l z r n c))]⟩
  | c, .opq l' => some ⟨[], [], [(l', .val c)]⟩
  | _, _ => none
def cvsM : List CV → List CV → Option Mt
  | [], [] => some Mt.none_
  | c :: r, c' :: r' => match cvM c c', cvsM r r' with | some p, some q => some (p.app q) | _, _ => none
  | _, _ => none
def v1M : V1 → V1 → Option Mt
  | .one c, .one c' => cvM c c'
  | .agg cs, .agg cs' => cvsM cs cs'
  | _, _ => none
def svM : SV → SV → Option Mt
  | .v x, .v x' => v1M x x'
  | _, _ => none
def CV.bel (n : Nat) : CV → Bool
  | .ptr l _ => Nat.blt l n
  | .slc l _ _ _ => Nat.blt l n
  | .fn _ a b => a.all (fun p => Nat.blt p.1 n) && b.all (fun p => Nat.blt p.1 n)
  | .opq i => Nat.blt i n
  | .tslc l _ _ _ _ => Nat.blt l n
  | .tptr l _ _ _ => Nat.blt l n
  | .osl l => Nat.blt l n
  | .osub l _ _ => Nat.blt l n
  | .optr l _ _ _ => Nat.blt l n
  | .xptr l _ => Nat.blt l n
  | _ => true
def V1.bel (n : Nat) : V1 → Bool
  | .one c => c.bel n
  | .agg cs => cs.all (CV.bel n)
def SV.bel (n : Nat) : SV → Bool
  | .v x => x.bel n
  | .tup _ => false
def slotsM (s : Sl) (nx : Nat) : List (Nat × SV) → Option Mt
  | [] => some Mt.none_
  | (n, v) :: r => match s.get n with
    | some x => (match v.bel nx with
      | true => (match svM x v, slotsM s nx r with | some p, some q => some (p.app q) | _, _ => none)
      | false => none)
    | none => none
def eqB01 (a b : Bool) : Bool := match a with | true => b | false => (match b with | true => false | false => true)
def impB (a b : Bool) : Bool := match a with | true => b | false => true
theorem impB_ok {a b : Bool} (h : impB a b = true) : a = true → b = true := by rintro rfl; exact h
theorem or_imp {a b a' b' : Bool} (h : a = true → a' = true) (h' : b = true → b' = true) (hw : (a || b) = true) : (a' || b') = true := by
  simp only [Bool.or_eq_true] at hw ⊢
  exact hw.imp h h'
theorem eqB01_eq {a b : Bool} (h : eqB01 a b = true) : a = b := by cases a <;> cases b <;> simp_all [eqB01]
def lpGet : LP → Nat → Option LM
  | [], _ => none
  | (a, m) :: r, l => match Nat.beq a l with | true => some m | false => lpGet r l
/-- A block of numbers, as a table. -/
def tabOf (k : CK) : List CV → Nat → E → Option E
  | [], _, t => some t
  | c :: r, i, t => match k, c with
    | .int q, .int q' e => (match keq q q' with | true => tabOf k r (i + 1) (.upd t (.lit (.ofNat i)) 0 e) | false => none)
    | .bool, .bool e => tabOf k r (i + 1) (.upd t (.lit (.ofNat i)) 0 e)
    | _, _ => none
/-- Are all of them nought? -/
def allZ (k : CK) : List CV → Bool
  | [] => true
  | c :: r => match k, c with
    | .int q, .int q' (.lit n) => (match keq q q' && ieq n 0 with | true => allZ k r | false => false)
    | .bool, .bool (.lit n) => (match ieq n 0 with | true => allZ k r | false => false)
    | _, _ => false
/-- Are the numbers such as their kind has? -/
def fitCs (k : CK) : List CV → Bool
  | [] => true
  | c :: r => match k, c with
    | .int q, .int _ (.lit n) => (match ile (kmin q) n && ile n (kmax q) with | true => fitCs k r | false => false)
    | .bool, .bool _ => fitCs k r
    | _, _ => false
def heapM1 (h : T Ent) (nx : Nat) (lp : LP) (l : Nat) (wr : Bool) : Blk → Option Mt
  | .cells cs ty => (match lpGet lp l with
    | some (.lab l') => (match h.get l' with
      | some ⟨wr', .cells cs' ty'⟩ => (match Nat.blt l nx && (cs.all (CV.bel nx) && (Nat.beq ty ty' && impB wr wr')) with
        | true => cvsM cs' cs
        | false => none)
      | _ => none)
    | _ => none)
  | .tab q t n ks => (match lpGet lp l with
    | some (.lab l') => (match h.get l' with
      | some ⟨wr', .tab q' t' n' ks'⟩ => (match Nat.blt l nx && (Nat.beq q l && (Nat.beq q' l' && (ckSame ks ks' && impB wr wr'))) with
        | true => some ⟨[(n', n)], [(t', t, none)], []⟩
        | false => none)
      | _ => none)
    | _ => none)
  | .arr t n k ty => (match lpGet lp l with
    | some (.lab l') => (match h.get l' with
      | some ⟨wr', .arr t' n' k' ty'⟩ => (match Nat.blt l nx && (Nat.beq n n' && (Nat.beq ty ty' && (ckSame [k] [k'] && impB wr wr'))) with
        | true => some ⟨[], [(t', t, none)], []⟩
        | false => none)
      | some ⟨wr', .cells cs' ty'⟩ => (match Nat.blt l nx && (Nat.beq n cs'.length && (Nat.beq ty ty' && (impB wr wr' && fitCs k cs'))) with
        | true => (match (match allZ k cs' with | true => some zeroT | false => tabOf k cs' 0 (.tv 0)) with | some t' => some ⟨[], [(t', t, some (.lit (.ofNat n), 1))], []⟩ | none => none)
        | false => none)
      | _ => none)
    | _ => none)
  | .seq q t n ks ty => (match lpGet lp l with
    | some (.lab l') => (match h.get l' with
      | some ⟨wr', .seq q' t' n' ks' ty'⟩ => (match Nat.blt l nx && (Nat.beq q l && (Nat.beq q' l' && (Nat.beq ty ty' && (ckSame ks ks' && impB wr wr')))) with
        | true => some ⟨[(n', n)], [(t', t, some (n', ks.length))], []⟩
        | false => none)
      | _ => none)
    | some .nil => (match Nat.blt l nx && Nat.beq q l with | true => some ⟨[(.lit 0, n)], [], []⟩ | false => none)
    | _ => none)
  | .lst q cs n sz ty => (match lpGet lp l with
    | some (.lab l') => (match h.get l' with
      | some ⟨wr', .lst q' cs' n' sz' ty'⟩ => (match Nat.blt l nx && (cs.all (CV.bel nx) && (Nat.beq q l && (Nat.beq q' l' && (Nat.beq ty ty' && (Nat.beq n n' && (Nat.beq sz sz' && impB wr wr')))))) with
        | true => cvsM cs' cs
        | false => none)
      | _ => none)
    | some .nil => (match Nat.blt l nx && (Nat.beq q l && (Nat.beq n 0 && Nat.beq cs.length 0)) with | true => some Mt.none_ | false => none)
    | _ => none)
  | .bag q n sz ty => (match lpGet lp l with
    | some (.lab l') => (match h.get l' with
      | some ⟨wr', .bag q' n' sz' ty'⟩ => (match Nat.blt l nx && (Nat.beq q l && (Nat.beq q' l' && (Nat.beq ty ty' && (Nat.beq sz sz' && impB wr wr')))) with
        | true => some ⟨[(n', n)], [], []⟩
        | false => none)
      | some ⟨wr', .lst q' _ n' sz' ty'⟩ => (match Nat.blt l nx && (Nat.beq q l && (Nat.beq q' l' && (Nat.beq ty ty' && (Nat.beq sz sz' && impB wr wr')))) with
        | true => some ⟨[(.lit (.ofNat n'), n)], [], []⟩
        | false => none)
      | _ => none)
    | some .nil => (match Nat.blt l nx && Nat.beq q l with | true => some ⟨[(.lit (.ofNat 0), n)], [], []⟩ | false => none)
    | _ => none)
  | .nn q => (match lpGet lp l with
    | some (.lab l') => (match h.get l' with
      | some ⟨wr', .nn q'⟩ => (match Nat.blt l nx && (Nat.beq q l && (Nat.beq q' l' && impB wr wr')) with
        | true => some Mt.none_
        | false => none)
      | _ => none)
    | _ => none)
  | .dead => (match Nat.blt l nx with | true => some Mt.none_ | false => none)
def heapM (h : T Ent) (nx : Nat) : LP → List (Nat × Ent) → Option Mt
  | _, [] => some Mt.none_
  | lp, (l, ⟨wr, b⟩) :: r => match heapM1 h nx lp l wr b with
    | some p => (match heapM h nx (lp ++ p.lp) r with | some q => some (p.app q) | none => none)
    | none => none
def lmSame : LM → LM → Bool
  | .lab a, .lab b => Nat.beq a b
  | .nil, .nil => true
  | _, _ => false
/-- Each label stands for one thing; no two for the same block. -/
def lpOk1 (a : Nat) (m : LM) : LP → Bool
  | [] => true
  | (b, x) :: r => match Nat.beq a b with
    | true => lmSame m x && lpOk1 a m r
    | false => (match m, x with | .lab p, .lab q => !Nat.beq p q | _, _ => true) && lpOk1 a m r
def lpOk : LP → Bool
  | [] => true
  | (a, m) :: r => lpOk1 a m r && lpOk r
/-- Labels below n0 stand for themselves. -/
def lpFix (n0 : Nat) : LP → Bool
  | [] => true
  | (a, m) :: r => match Nat.blt a n0 with
    | false => lpFix n0 r
    | true => (match m with | .lab l => (match Nat.beq l a with | true => lpFix n0 r | false => false) | _ => false)
def idLp : Nat → LP
  | 0 => []
  | n + 1 => (n, .lab n) :: idLp n
def matchS (s : S) (t : Tm) : Option Mt := match slotsM s.slots t.nx t.slots with
  | some p => (match heapM s.heap t.nx (p.lp ++ idLp t.n0) t.heap with
    | some q => (match lpOk ((p.lp ++ idLp t.n0) ++ q.lp) && (lpFix t.n0 ((p.lp ++ idLp t.n0) ++ q.lp) && Nat.ble t.n0 t.nx) with | true => some (p.app q) | false => none)
    | none => none)
  | none => none
/-- What the template's labels stand for. -/
def labOf (ρ : Env) (β : Lab) (n0 : Nat) (lp : LP) : Lab := ⟨fun l => match lpGet lp l with | some (.lab l') => β.b l' | some .nil => 0 | some (.val _) => 0 | none => if l < n0 then β.b l else 0, fun l => match lpGet lp l with | some (.lab l') => β.o l' | some .nil => .slice none 0 0 | some (.val c) => c.den ρ β | none => if l < n0 then β.o l else .slice none 0 0⟩
section
variable {ρ ρ' : Env} {β β' : Lab}
/-- A label's part in the new map. -/
def Maps (ρ : Env) (β β' : Lab) (p : Nat × LM) : Prop := match p.2 with
  | .lab l => β'.b p.1 = β.b l ∧ β'.o p.1 = β.o l
  | .nil => β'.o p.1 = .slice none 0 0
  | .val c => β'.o p.1 = c.den ρ β
structure MOk (ρ ρ' : Env) (β β' : Lab) (m : Mt) : Prop where
  ps : ∀ p ∈ m.ps, p.1.den ρ = p.2.den ρ'
  ts : ∀ p ∈ m.ts, TEqP ρ ρ' p
  lp : ∀ p ∈ m.lp, Maps ρ β β' p
theorem MOk.app_iff {a b : Mt} : MOk ρ ρ' β β' (a.app b) → MOk ρ ρ' β β' a ∧ MOk ρ ρ' β β' b := fun h =>
  ⟨⟨fun p hp => h.ps p (List.mem_append_left _ hp), fun p hp => h.ts p (List.mem_append_left _ hp), fun p hp => h.lp p (List.mem_append_left _ hp)⟩,
   ⟨fun p hp => h.ps p (List.mem_append_right _ hp), fun p hp => h.ts p (List.mem_append_right _ hp), fun p hp => h.lp p (List.mem_append_right _ hp)⟩⟩
theorem Maps.f {l l' : Nat} (h : Maps ρ β β' (l', .lab l)) : β'.f l' = β.f l := by unfold Lab.f; rw [h.2]
theorem ptsM_ok : ∀ {a a' : List (Nat × Nat)} {p : LP}, ptsM a a' = some p → (∀ x ∈ p, Maps ρ β β' x) → a.map β.pt = a'.map β'.pt
  | [], [], p, h, hm => rfl
  | (l, o) :: r, (l', o') :: r', p, h, hm => by
    simp only [ptsM] at h
    split at h
    · rename_i q ho hq
      cases h
      have h1 := hm _ (List.mem_cons_self ..)
      have h2 := ptsM_ok hq fun x hx => hm x (List.mem_cons_of_mem _ hx)
      simp only [List.map_cons, h2, Lab.pt, Nat.eq_of_beq_eq_true ho, h1.1]
    · cases h
  | [], _ :: _, p, h, hm => by simp [ptsM] at h
  | _ :: _, [], p, h, hm => by simp [ptsM] at h
theorem bytesOf_congr {t t' : Int → Nat → Int} {n : Int} (h : ∀ i : Nat, (i : Int) < n → t i 0 = t' i 0) : bytesOf t n = bytesOf t' n := by
  unfold bytesOf
  congr 2
  refine List.map_congr_left fun i hi => ?_
  rw [h i (by have := List.mem_range.1 hi; omega)]
theorem cvM_ok {c c' : CV} {m : Mt} (h : cvM c c' = some m) (he : MOk ρ ρ' β β' m) : c.den ρ β = c'.den ρ' β' := by
  unfold cvM at h
  split at h
  · split at h
    · rename_i hk
      cases h
      have := he.ps _ (List.mem_cons_self ..)
      simp only at this
      simp only [CV.den, this, keq_eq hk]
    · cases h
  · cases h
    have := he.ps _ (List.mem_cons_self ..)
    simp only at this
    simp only [CV.den, this]
  · split at h
    · rename_i hb
      cases h
      have := he.lp _ (List.mem_cons_self ..)
      simp only [CV.den, Nat.eq_of_beq_eq_true hb, this.1]
    · cases h
  · rfl
  · rfl
  · rfl
  · split at h
    · rename_i hb
      cases h
      have h1 := he.ps _ (List.mem_cons_self ..)
      have h2 := he.ps _ (List.mem_cons_of_mem _ (List.mem_cons_self ..))
      have h3 := he.lp _ (List.mem_cons_self ..)
      simp only at h1 h2
      simp only [CV.den, Nat.eq_of_beq_eq_true hb, h1, h2, h3.1]
    · cases h
  · split at h
    · rename_i hb
      cases h
      have h1 := he.ps _ (List.mem_cons_self ..)
      have h2 := he.ps _ (List.mem_cons_of_mem _ (List.mem_cons_self ..))
      have h3 := he.ps _ (List.mem_cons_of_mem _ (List.mem_cons_of_mem _ (List.mem_cons_self ..)))
      have h4 := he.lp _ (List.mem_cons_self ..)
      have h5 := Maps.f h4
      simp only at h1 h2 h3
      simp only [CV.den, Nat.eq_of_beq_eq_true hb, h1, h2, h3, h4.1, h5]
    · cases h
  · cases h
    have h1 := he.lp _ (List.mem_cons_self ..)
    simp only [CV.den, h1.2]
  · cases h
    have h1 := he.lp _ (List.mem_cons_self ..)
    have h2 := he.ps _ (List.mem_cons_self ..)
    have h3 := he.ps _ (List.mem_cons_of_mem _ (List.mem_cons_self ..))
    simp only at h2 h3
    simp only [CV.den, h1.2, h2, h3]
  · split at h
    · rename_i p q hf hp hq
      cases h
      have h1 := ptsM_ok hp fun x hx => he.lp x (List.mem_append_left _ hx)
      have h2 := ptsM_ok hq fun x hx => he.lp x (List.mem_append_right _ hx)
      simp only [CV.den, Nat.eq_of_beq_eq_true hf, h1, h2]
    · cases h
  · cases h
    have h1 := he.ps _ (List.mem_cons_self ..)
    have h2 := he.ts _ (List.mem_cons_self ..)
    simp only at h1
    simp only [TEqP] at h2
    simp only [CV.den, h1]
    congr 1
    refine bytesOf_congr fun i hi => h2 i (by rw [h1]; exact hi) 0 Nat.one_pos
  · cases h
    have h1 : β'.o _ = .slice none 0 0 := he.lp _ (List.mem_cons_self ..)
    simp only [CV.den, h1, addrOf, lenOfV, capOf]
  · cases h
    have h1 : β'.o _ = CV.den ρ β _ := he.lp _ (List.mem_cons_self ..)
    simp only [CV.den] at h1 ⊢
    rw [h1]
    simp only [addrOf, lenOfV, capOf]
  · cases h
    have h1 : β'.o _ = CV.den ρ β _ := he.lp _ (List.mem_cons_self ..)
    simp only [CV.den] at h1 ⊢
    rw [h1]
    simp only [addrOf, lenOfV, capOf]
  · cases h
    have h1 : β'.o _ = CV.den ρ β _ := he.lp _ (List.mem_cons_self ..)
    exact h1.symm
  · cases h
theorem cvsM_ok : ∀ {cs cs' : List CV} {m : Mt}, cvsM cs cs' = some m → MOk ρ ρ' β β' m → cs.map (CV.den ρ β) = cs'.map (CV.den ρ' β')
  | [], [], m, h, he => rfl
  | c :: r, c' :: r', m, h, he => by
    simp only [cvsM] at h
    split at h
    · rename_i p q hp hq
      cases h
      have := MOk.app_iff he
      rw [List.map_cons, List.map_cons, cvM_ok hp this.1, cvsM_ok hq this.2]
    · cases h
  | [], _ :: _, m, h, he => by simp [cvsM] at h
  | _ :: _, [], m, h, he => by simp [cvsM] at h
theorem svM_ok {x x' : SV} {m : Mt} (h : svM x x' = some m) (he : MOk ρ ρ' β β' m) : x.den ρ β = x'.den ρ' β' := by
  cases x <;> cases x' <;> simp only [svM, reduceCtorEq] at h
  rename_i x x'
  cases x <;> cases x' <;> simp only [v1M, reduceCtorEq] at h
  · exact cvM_ok h he
  · simp only [SV.den, V1.den, cvsM_ok h he]
theorem CV.bel_ok {n : Nat} {c : CV} (h : c.bel n = true) : c.below n := by
  cases c <;> simp only [CV.bel, Nat.blt_eq, Bool.false_eq_true, Bool.and_eq_true, List.all_eq_true] at h <;> first | exact h | trivial
theorem SV.bel_ok {n : Nat} {x : SV} (h : x.bel n = true) : x.below n := by
  cases x with
  | v x => cases x with
    | one c => exact CV.bel_ok h
    | agg cs => exact fun c hc => CV.bel_ok (List.all_eq_true.1 h c hc)
  | tup xs => cases h
theorem slOf_mem : ∀ {l : List (Nat × SV)} {n : Nat} {v : SV}, (slOf l).get n = some v → (n, v) ∈ l
  | [], n, v, h => by cases h
  | (m, x) :: r, n, v, h => by
    have := Sl.get_put (slOf r) m n x v h
    rcases this with ⟨rfl, rfl⟩ | ⟨_, h⟩
    · exact List.mem_cons_self ..
    · exact List.mem_cons_of_mem _ (slOf_mem h)
theorem slotsM_ok {s : Sl} {nx : Nat} : ∀ {l : List (Nat × SV)} {m : Mt}, slotsM s nx l = some m → MOk ρ ρ' β β' m → ∀ n v, (n, v) ∈ l → v.below nx ∧ ∃ x, s.get n = some x ∧ x.den ρ β = v.den ρ' β'
  | [], m, h, he, n, v, hm => by cases hm
  | (i, y) :: r, m, h, he, n, v, hm => by
    simp only [slotsM] at h
    split at h
    · rename_i x hx
      split at h
      · rename_i hb
        split at h
        · rename_i p q hp hq
          cases h
          have := MOk.app_iff he
          rcases List.mem_cons.1 hm with e | hm
          · cases e
            exact ⟨SV.bel_ok hb, x, hx, svM_ok hp this.1⟩
          · exact slotsM_ok hq this.2 n v hm
        · cases h
      · cases h
    · cases h
theorem tabOf_ok {k : CK} {ρ : Env} {β : Lab} : ∀ {cs : List CV} {i : Nat} {t t' : E}, tabOf k cs i t = some t' → fitCs k cs = true →
    (∀ m : Nat, m < i → t'.tden ρ (m : Int) 0 = t.tden ρ (m : Int) 0) ∧ ∀ (j : Nat) (c : CV), cs[j]? = some c → c.den ρ β = k.val (t'.tden ρ ((i + j : Nat) : Int) 0)
  | [], i, t, t', h, _ => by cases h; exact ⟨fun _ _ => rfl, fun j c h => by simp at h⟩
  | c :: r, i, t, t', h, hf => by
    have go : ∀ e : E, (c.den ρ β = k.val (e.den ρ)) → tabOf k r (i + 1) (.upd t (.lit (.ofNat i)) 0 e) = some t' → fitCs k r = true →
        (∀ m : Nat, m < i → t'.tden ρ (m : Int) 0 = t.tden ρ (m : Int) 0) ∧ ∀ (j : Nat) (c' : CV), (c :: r)[j]? = some c' → c'.den ρ β = k.val (t'.tden ρ ((i + j : Nat) : Int) 0) := by
      intro e hc h hf
      obtain ⟨h1, h2⟩ := tabOf_ok (ρ := ρ) (β := β) h hf
      have at_ : ∀ m : Nat, (E.upd t (.lit (.ofNat i)) 0 e).tden ρ (m : Int) 0 = if m = i then e.den ρ else t.tden ρ (m : Int) 0 := by
        intro m
        simp only [E.tden, E.den]
        by_cases hm : m = i
        · subst hm; simp
        · have : ¬ ((m : Int) = Int.ofNat i) := fun hh => hm (Int.ofNat.inj hh)
          simp only [this, false_and, if_false, hm]
      refine ⟨fun m hm => ?_, fun j c' hj => ?_⟩
      · rw [h1 m (by omega), at_, if_neg (by omega)]
      · cases j with
        | zero =>
          simp only [List.getElem?_cons_zero, Option.some.injEq] at hj
          subst hj
          rw [Nat.add_zero, h1 i (by omega), at_, if_pos rfl]
          exact hc
        | succ j =>
          simp only [List.getElem?_cons_succ] at hj
          rw [h2 j c' hj, show i + 1 + j = i + (j + 1) by omega]
    cases k with
    | int q =>
      cases c <;> simp only [tabOf, reduceCtorEq] at h
      rename_i q' e
      split at h
      · rename_i hk
        have := keq_eq hk
        subst this
        cases e <;> simp only [fitCs, Bool.false_eq_true] at hf
        rename_i n
        split at hf
        · rename_i hr
          simp only [Bool.and_eq_true] at hr
          have h1 := ile_iff.1 hr.1
          have h2 := ile_iff.1 hr.2
          exact go _ (by simp only [CV.den, CK.val, E.den, wrap_in ⟨h1, h2⟩]) h hf
        · cases hf
      · cases h
    | bool =>
      cases c <;> simp only [tabOf, reduceCtorEq] at h
      rename_i e
      simp only [fitCs] at hf
      exact go _ (by simp only [CV.den, CK.val]) h hf
theorem allZ_ok {k : CK} {ρ : Env} {β : Lab} : ∀ {cs : List CV}, allZ k cs = true → ∀ (j : Nat) (c : CV), cs[j]? = some c → c.den ρ β = k.val (zeroT.tden ρ (j : Int) 0)
  | [], _, j, c, h => by simp at h
  | x :: r, h, j, c, hj => by
    have hz : zeroT.tden ρ (j : Int) 0 = 0 := rfl
    rw [hz]
    have ih : allZ k r = true → ∀ (j : Nat) (c : CV), r[j]? = some c → c.den ρ β = k.val 0 := fun h j c hj => (allZ_ok (ρ := ρ) (β := β) h j c hj).trans rfl
    unfold allZ at h
    split at h
    · rename_i q q' n
      split at h
      · rename_i hc
        simp only [Bool.and_eq_true] at hc
        cases j with
        | zero =>
          simp only [List.getElem?_cons_zero, Option.some.injEq] at hj
          subst hj
          rw [← keq_eq hc.1, ieq_eq hc.2]
          cases q <;> rfl
        | succ j => exact ih h j c (by simpa using hj)
      · cases h
    · split at h
      · rename_i hc
        cases j with
        | zero =>
          simp only [List.getElem?_cons_zero, Option.some.injEq] at hj
          subst hj
          rw [ieq_eq hc]
          rfl
        | succ j => exact ih h j c (by simpa using hj)
      · cases h
    · cases h
theorem lpGet_mem : ∀ {lp : LP} {l : Nat} {m : LM}, lpGet lp l = some m → (l, m) ∈ lp
  | [], l, m, h => by cases h
  | (a, x) :: r, l, m, h => by
    simp only [lpGet] at h
    split at h
    · rename_i hb
      cases h
      rw [Nat.eq_of_beq_eq_true hb]
      exact List.mem_cons_self ..
    · exact List.mem_cons_of_mem _ (lpGet_mem h)
theorem heapM1_ok {h0 : T Ent} {nx : Nat} {lp : LP} {l : Nat} {wr : Bool} {blk : Blk} {m : Mt} (h : heapM1 h0 nx lp l wr blk = some m) (he : MOk ρ ρ' β β' m) (hlp : ∀ p ∈ lp, Maps ρ β β' p) :
    l < nx ∧ blk.below nx ∧ ((∃ l' y, (l, LM.lab l') ∈ lp ∧ h0.get l' = some y ∧ (wr = true → y.wr = true) ∧ (blk.hb β' ↔ y.blk.hb β) ∧ ∀ w, y.blk.sat ρ β (β.b l') w → blk.sat ρ' β' (β'.b l) w) ∨ (¬ blk.hb β' ∧ (∀ b w, blk.sat ρ' β' b w) ∧ ((l, LM.nil) ∈ lp ∨ blk = .dead))) := by
  cases blk with
  | cells cs ty =>
    simp only [heapM1] at h
    split at h
    · rename_i l' hl'
      have hm := lpGet_mem hl'
      have hM := hlp _ hm
      split at h
      · rename_i wr' cs' ty' hx
        split at h
        · rename_i hb
          simp only [Bool.and_eq_true, Nat.blt_eq] at hb
          obtain ⟨h1, h2, h3, h4⟩ := hb
          refine ⟨h1, fun c hc => CV.bel_ok (List.all_eq_true.1 h2 c hc), .inl ⟨l', _, hm, hx, impB_ok h4, Iff.rfl, fun w hs => ?_⟩⟩
          simp only [Blk.sat] at hs ⊢
          rw [hM.1, hs, cvsM_ok h he, Nat.eq_of_beq_eq_true h3]
        · cases h
      · cases h
    · cases h
  | tab q t n ks =>
    simp only [heapM1] at h
    split at h
    · rename_i l' hl'
      have hm := lpGet_mem hl'
      have hM := hlp _ hm
      split at h
      · rename_i wr' q' t' n' ks' hx
        split at h
        · rename_i hb
          simp only [Bool.and_eq_true, Nat.blt_eq] at hb
          obtain ⟨h1, h2, h3, h4, h5⟩ := hb
          have e1 := Nat.eq_of_beq_eq_true h2
          have e2 := Nat.eq_of_beq_eq_true h3
          have e3 := ckSame_eq h4
          subst e1; subst e2; subst e3
          cases h
          have hn := he.ps _ (List.mem_cons_self ..)
          have ht : _ = _ := he.ts _ (List.mem_cons_self ..)
          simp only at hn ht
          refine ⟨h1, h1, .inl ⟨_, _, hm, hx, impB_ok h5, Iff.rfl, fun w hs => ?_⟩⟩
          intro i hi j k hk
          have := hs i (by rw [hn]; exact hi) j k hk
          rw [ht] at this
          rw [hM.1, Maps.f hM]
          exact this
        · cases h
      · cases h
    · cases h
  | arr t n k ty =>
    simp only [heapM1] at h
    split at h
    · rename_i l' hl'
      have hm := lpGet_mem hl'
      have hM := hlp _ hm
      split at h
      · rename_i wr' t' n' k' ty' hx
        split at h
        · rename_i hb
          simp only [Bool.and_eq_true, Nat.blt_eq] at hb
          obtain ⟨h1, h2, h3, h4, h5⟩ := hb
          have e1 := Nat.eq_of_beq_eq_true h2
          have e2 := Nat.eq_of_beq_eq_true h3
          have e3 := ckSame_eq h4
          cases e3
          subst e1; subst e2
          cases h
          have ht : _ = _ := he.ts _ (List.mem_cons_self ..)
          simp only at ht
          refine ⟨h1, trivial, .inl ⟨_, _, hm, hx, impB_ok h5, Iff.rfl, fun w hs => ?_⟩⟩
          simp only [Blk.sat] at hs ⊢
          rw [hM.1, hs, ht]
        · cases h
      · rename_i wr' cs' ty' hx
        split at h
        · rename_i hb
          simp only [Bool.and_eq_true, Nat.blt_eq] at hb
          obtain ⟨h1, h2, h3, h4, h5⟩ := hb
          have e1 := Nat.eq_of_beq_eq_true h2
          have e2 := Nat.eq_of_beq_eq_true h3
          subst e1; subst e2
          split at h
          · rename_i t' ht'
            cases h
            have ht := he.ts _ (List.mem_cons_self ..)
            simp only [TEqP, E.den] at ht
            refine ⟨h1, trivial, .inl ⟨_, _, hm, hx, impB_ok h4, Iff.rfl, fun w hs => ?_⟩⟩
            simp only [Blk.sat] at hs ⊢
            rw [hM.1, hs]
            have hl : cs'.map (CV.den ρ β) = (List.range cs'.length).map fun (i : Nat) => k.val (t.tden ρ' (i : Int) 0) := by
              apply List.ext_getElem?
              intro j
              simp only [List.getElem?_map]
              cases hj : cs'[j]? with
              | none =>
                have := List.getElem?_eq_none_iff.1 hj
                rw [List.getElem?_eq_none (by simpa using this)]
                rfl
              | some c =>
                have hlt := (List.getElem?_eq_some_iff.1 hj).1
                rw [List.getElem?_range hlt]
                simp only [Option.map_some, Option.some.injEq]
                have this : c.den ρ β = k.val (t'.tden ρ ((j : Nat) : Int) 0) := by
                  split at ht'
                  · rename_i hz
                    cases ht'
                    exact allZ_ok hz j c hj
                  · have := (tabOf_ok (ρ := ρ) (β := β) ht' h5).2 j c hj
                    rwa [Nat.zero_add] at this
                rw [this, ht j (by simp only [Int.ofNat_eq_natCast]; omega) 0 (by omega)]
            rw [hl]
          · cases h
        · cases h
      · cases h
    · cases h
  | seq q t n ks ty =>
    simp only [heapM1] at h
    split at h
    · rename_i l' hl'
      have hm := lpGet_mem hl'
      have hM := hlp _ hm
      split at h
      · rename_i wr' q' t' n' ks' ty' hx
        split at h
        · rename_i hb
          simp only [Bool.and_eq_true, Nat.blt_eq] at hb
          obtain ⟨h1, h2, h3, h4, h5, h6⟩ := hb
          have e1 := Nat.eq_of_beq_eq_true h2
          have e2 := Nat.eq_of_beq_eq_true h3
          have e3 := Nat.eq_of_beq_eq_true h4
          have e4 := ckSame_eq h5
          subst e1; subst e2; subst e3; subst e4
          cases h
          have hn := he.ps _ (List.mem_cons_self ..)
          have ht := he.ts _ (List.mem_cons_self ..)
          simp only [TEqP] at hn ht
          refine ⟨h1, h1, .inl ⟨_, _, hm, hx, impB_ok h6, by simp only [Blk.hb]; rw [hM.2], fun w hs => ?_⟩⟩
          simp only [Blk.sat] at hs ⊢
          rw [hM.1, hM.2, ← hn]
          obtain ⟨a', c', s1, s2, s3⟩ := hs
          refine ⟨a', c', s1, s2, fun hc => ?_⟩
          obtain ⟨f', arr, s4, s5, s6, s7⟩ := s3 hc
          refine ⟨f', arr, s4, s5, s6, fun i hi j kd hj => ?_⟩
          rw [← ht i hi j (List.getElem?_eq_some_iff.1 hj).1]
          exact s7 i hi j kd hj
        · cases h
      · cases h
    · rename_i hl'
      have hm := lpGet_mem hl'
      have hM : β'.o l = .slice none 0 0 := hlp _ hm
      split at h
      · rename_i hb
        simp only [Bool.and_eq_true, Nat.blt_eq] at hb
        have e1 := Nat.eq_of_beq_eq_true hb.2
        subst e1
        cases h
        have hn := he.ps _ (List.mem_cons_self ..)
        simp only [E.den] at hn
        refine ⟨hb.1, hb.1, .inr ⟨by simp only [Blk.hb, hM, capOf]; omega, fun b w => ?_, .inl hm⟩⟩
        simp only [Blk.sat, hM, ← hn]
        exact ⟨none, 0, rfl, Nat.le_refl _, fun h => absurd h (Nat.lt_irrefl _)⟩
      · cases h
    · cases h
  | lst q cs n sz ty =>
    simp only [heapM1] at h
    split at h
    · rename_i l' hl'
      have hm := lpGet_mem hl'
      have hM := hlp _ hm
      split at h
      · rename_i wr' q' cs' n' sz' ty' hx
        split at h
        · rename_i hb
          simp only [Bool.and_eq_true, Nat.blt_eq] at hb
          obtain ⟨h1, h2, h3, h4, h5, h6, h7, h8⟩ := hb
          have e1 := Nat.eq_of_beq_eq_true h3
          have e2 := Nat.eq_of_beq_eq_true h4
          have e3 := Nat.eq_of_beq_eq_true h5
          have e4 := Nat.eq_of_beq_eq_true h6
          have e5 := Nat.eq_of_beq_eq_true h7
          subst e1; subst e2; subst e3; subst e4; subst e5
          have hc := cvsM_ok h he
          refine ⟨h1, ⟨h1, fun c hc' => CV.bel_ok (List.all_eq_true.1 h2 c hc')⟩, .inl ⟨_, _, hm, hx, impB_ok h8, by simp only [Blk.hb]; rw [hM.2], fun w hs => ?_⟩⟩
          simp only [Blk.sat] at hs ⊢
          rw [hM.1, hM.2, ← hc]
          exact hs
        · cases h
      · cases h
    · rename_i hl'
      have hm := lpGet_mem hl'
      have hM : β'.o l = .slice none 0 0 := hlp _ hm
      split at h
      · rename_i hb
        simp only [Bool.and_eq_true, Nat.blt_eq] at hb
        obtain ⟨h1, h2, h3, h4⟩ := hb
        have e1 := Nat.eq_of_beq_eq_true h2
        have e2 := Nat.eq_of_beq_eq_true h3
        have e3 := List.eq_nil_of_length_eq_zero (Nat.eq_of_beq_eq_true h4)
        subst e1; subst e2; subst e3
        cases h
        refine ⟨h1, ⟨h1, fun c hc => by cases hc⟩, .inr ⟨by simp only [Blk.hb, hM, capOf]; omega, fun b w => ?_, .inl hm⟩⟩
        simp only [Blk.sat, hM]
        exact ⟨none, 0, rfl, Nat.le_refl _, fun h => absurd h (Nat.lt_irrefl _)⟩
      · cases h
    · cases h
  | bag q n sz ty =>
    simp only [heapM1] at h
    split at h
    · rename_i l' hl'
      have hm := lpGet_mem hl'
      have hM := hlp _ hm
      split at h
      · rename_i wr' q' n' sz' ty' hx
        split at h
        · rename_i hb
          simp only [Bool.and_eq_true, Nat.blt_eq] at hb
          obtain ⟨h1, h2, h3, h4, h5, h6⟩ := hb
          have e1 := Nat.eq_of_beq_eq_true h2
          have e2 := Nat.eq_of_beq_eq_true h3
          have e3 := Nat.eq_of_beq_eq_true h4
          have e4 := Nat.eq_of_beq_eq_true h5
          subst e1; subst e2; subst e3; subst e4
          cases h
          have hn := he.ps _ (List.mem_cons_self ..)
          simp only at hn
          refine ⟨h1, h1, .inl ⟨_, _, hm, hx, impB_ok h6, by simp only [Blk.hb]; rw [hM.2], fun w hs => ?_⟩⟩
          simp only [Blk.sat] at hs ⊢
          rw [hM.1, hM.2, ← hn]
          exact hs
        · cases h
      · rename_i wr' q' cs' n' sz' ty' hx
        split at h
        · rename_i hb
          simp only [Bool.and_eq_true, Nat.blt_eq] at hb
          obtain ⟨h1, h2, h3, h4, h5, h6⟩ := hb
          have e1 := Nat.eq_of_beq_eq_true h2
          have e2 := Nat.eq_of_beq_eq_true h3
          have e3 := Nat.eq_of_beq_eq_true h4
          have e4 := Nat.eq_of_beq_eq_true h5
          subst e1; subst e2; subst e3; subst e4
          cases h
          have hn := he.ps _ (List.mem_cons_self ..)
          simp only [E.den] at hn
          refine ⟨h1, h1, .inl ⟨_, _, hm, hx, impB_ok h6, by simp only [Blk.hb]; rw [hM.2], fun w hs => ?_⟩⟩
          simp only [Blk.sat] at hs ⊢
          rw [hM.1, hM.2, ← hn]
          obtain ⟨a, c, k1, k2, k3⟩ := hs
          refine ⟨a, c, by simpa using k1, by simpa using k2, fun hc => ?_⟩
          obtain ⟨f, arr, k4, k5, k6, k7⟩ := k3 hc
          exact ⟨f, arr, k4, k5, k6, fun j u hj => by simp at hj⟩
        · cases h
      · cases h
    · rename_i hl'
      have hm := lpGet_mem hl'
      have hM : β'.o l = .slice none 0 0 := hlp _ hm
      split at h
      · rename_i hb
        simp only [Bool.and_eq_true, Nat.blt_eq] at hb
        have e1 := Nat.eq_of_beq_eq_true hb.2
        subst e1
        cases h
        have hn := he.ps _ (List.mem_cons_self ..)
        simp only [E.den] at hn
        refine ⟨hb.1, hb.1, .inr ⟨by simp only [Blk.hb, hM, capOf]; omega, fun b w => ?_, .inl hm⟩⟩
        simp only [Blk.sat, hM, ← hn]
        exact ⟨none, 0, rfl, Nat.le_refl _, fun h => absurd h (Nat.lt_irrefl _)⟩
      · cases h
    · cases h
  | nn q =>
    simp only [heapM1] at h
    split at h
    · rename_i l' hl'
      have hm := lpGet_mem hl'
      have hM := hlp _ hm
      split at h
      · rename_i wr' q' hx
        split at h
        · rename_i hb
          simp only [Bool.and_eq_true, Nat.blt_eq] at hb
          obtain ⟨h1, h2, h3, h4⟩ := hb
          have e1 := Nat.eq_of_beq_eq_true h2
          have e2 := Nat.eq_of_beq_eq_true h3
          subst e1; subst e2
          refine ⟨h1, h1, .inl ⟨_, _, hm, hx, impB_ok h4, Iff.rfl, fun w hs => ?_⟩⟩
          simp only [Blk.sat] at hs ⊢
          rw [hM.2]
          exact hs
        · cases h
      · cases h
    · cases h
  | dead =>
    simp only [heapM1] at h
    split at h
    · rename_i hb
      cases h
      exact ⟨by simpa using hb, trivial, .inr ⟨fun hh => hh, fun _ _ => trivial, .inr rfl⟩⟩
    · cases h
theorem heapM_ok {h0 : T Ent} {nx : Nat} : ∀ {l : List (Nat × Ent)} {lp : LP} {m : Mt}, heapM h0 nx lp l = some m → MOk ρ ρ' β β' m → (∀ p ∈ lp, Maps ρ β β' p) → ∀ n x, (n, x) ∈ l →
    n < nx ∧ x.blk.below nx ∧ ((∃ l' y, (n, LM.lab l') ∈ lp ++ m.lp ∧ h0.get l' = some y ∧ (x.wr = true → y.wr = true) ∧ (x.blk.hb β' ↔ y.blk.hb β) ∧ ∀ w, y.blk.sat ρ β (β.b l') w → x.blk.sat ρ' β' (β'.b n) w) ∨ (¬ x.blk.hb β' ∧ (∀ b w, x.blk.sat ρ' β' b w) ∧ ((n, LM.nil) ∈ lp ++ m.lp ∨ x.blk = .dead)))
  | [], lp, m, h, he, hlp, n, x, hm => by cases hm
  | (l, ⟨wr, b⟩) :: r, lp, m, h, he, hlp, n, x, hm => by
    simp only [heapM] at h
    split at h
    · rename_i p hp
      split at h
      · rename_i q hq
        cases h
        obtain ⟨hep, heq⟩ := MOk.app_iff he
        rcases List.mem_cons.1 hm with e | hm
        · cases e
          obtain ⟨h1, h2, h3⟩ := heapM1_ok hp hep hlp
          refine ⟨h1, h2, h3.imp ?_ fun ⟨z1, z2, z3⟩ => ⟨z1, z2, z3.imp (List.mem_append_left _) id⟩⟩
          rintro ⟨l', y, h4, h5⟩
          exact ⟨l', y, List.mem_append_left _ h4, h5⟩
        · obtain ⟨h1, h2, h3⟩ := heapM_ok hq heq (fun p' hp' => by
            rcases List.mem_append.1 hp' with h | h
            · exact hlp p' h
            · exact hep.lp p' h) n x hm
          refine ⟨h1, h2, h3.imp ?_ fun ⟨z1, z2, z3⟩ => ⟨z1, z2, z3.imp (fun z => by rw [List.append_assoc] at z; exact z) id⟩⟩
          rintro ⟨l', y, h4, h5⟩
          refine ⟨l', y, ?_, h5⟩
          rw [List.append_assoc] at h4
          exact h4
      · cases h
    · cases h
theorem putSets_mem {s : Sets} {l : Nat} {x : Ent} (h : (putSets .leaf s).get l = some x) : (l, x) ∈ s := by
  have := putSets_get s .leaf l x h
  unfold Heap.set at this
  split at this
  · rename_i y hy
    cases this
    exact Sets.find_pair hy
  · simp [T.get_leaf] at this
theorem lmSame_eq {a b : LM} (h : lmSame a b = true) : a = b := by
  cases a <;> cases b <;> simp only [lmSame, Bool.false_eq_true] at h
  · rw [Nat.eq_of_beq_eq_true h]
  · rfl
theorem lpOk1_ok {a : Nat} {m : LM} : ∀ {lp : LP}, lpOk1 a m lp = true → ∀ b x, (b, x) ∈ lp → (a = b → m = x) ∧ (a ≠ b → ∀ p q, m = .lab p → x = .lab q → p ≠ q)
  | [], _, b, x, h => by cases h
  | (c, y) :: r, h, b, x, hm => by
    simp only [lpOk1] at h
    split at h
    · rename_i hb
      have hb := Nat.eq_of_beq_eq_true hb
      subst hb
      simp only [Bool.and_eq_true] at h
      rcases List.mem_cons.1 hm with e | hm
      · cases e
        exact ⟨fun _ => lmSame_eq h.1, fun hne => absurd rfl hne⟩
      · exact lpOk1_ok h.2 b x hm
    · rename_i hb
      have hb := Nat.ne_of_beq_eq_false hb
      simp only [Bool.and_eq_true] at h
      rcases List.mem_cons.1 hm with e | hm
      · cases e
        refine ⟨fun e => absurd e hb, fun _ p q hp hq => ?_⟩
        have := h.1
        rw [hp, hq] at this
        simp only [Bool.not_eq_true'] at this
        exact Nat.ne_of_beq_eq_false this
      · exact lpOk1_ok h.2 b x hm
theorem lpOk_ok : ∀ {lp : LP}, lpOk lp = true → ∀ a m b x, (a, m) ∈ lp → (b, x) ∈ lp → (a = b → m = x) ∧ (a ≠ b → ∀ p q, m = .lab p → x = .lab q → p ≠ q)
  | [], _, a, m, b, x, h, _ => by cases h
  | (c, y) :: r, h, a, m, b, x, h1, h2 => by
    simp only [lpOk, Bool.and_eq_true] at h
    rcases List.mem_cons.1 h1 with e | h1
    · cases e
      rcases List.mem_cons.1 h2 with e | h2
      · cases e
        exact ⟨fun _ => rfl, fun hne => absurd rfl hne⟩
      · exact lpOk1_ok h.1 b x h2
    · rcases List.mem_cons.1 h2 with e | h2
      · cases e
        have := lpOk1_ok h.1 a m h1
        exact ⟨fun e => (this.1 e.symm).symm, fun hne p q hp hq => (this.2 (Ne.symm hne) q p hq hp).symm⟩
      · exact lpOk_ok h.2 a m b x h1 h2
theorem lpGet_of_mem : ∀ {lp : LP} {a : Nat} {m : LM}, (a, m) ∈ lp → ∃ m', lpGet lp a = some m'
  | [], a, m, h => by cases h
  | (b, x) :: r, a, m, h => by
    simp only [lpGet]
    split
    · exact ⟨_, rfl⟩
    · rename_i hb
      rcases List.mem_cons.1 h with e | h
      · cases e
        rw [Nat.beq_refl] at hb
        cases hb
      · exact lpGet_of_mem h
theorem maps_all {lp : LP} (h : lpOk lp = true) (n0 : Nat) : ∀ p ∈ lp, Maps ρ β (labOf ρ β n0 lp) p := by
  intro p hp
  obtain ⟨a, m⟩ := p
  obtain ⟨m', hm'⟩ := lpGet_of_mem hp
  have e : m = m' := (lpOk_ok h a m a m' hp (lpGet_mem hm')).1 rfl
  subst e
  unfold Maps labOf
  cases m with
  | lab l' => simp only [hm', and_self]
  | nil => simp only [hm']
  | val c => simp only [hm']
theorem lpFix_cons {n0 b : Nat} {x : LM} {r : LP} (h : lpFix n0 ((b, x) :: r) = true) : lpFix n0 r = true ∧ (b < n0 → x = .lab b) := by
  simp only [lpFix] at h
  split at h
  · rename_i hb
    refine ⟨h, fun hlt => ?_⟩
    have : Nat.blt b n0 = true := by simpa using hlt
    rw [this] at hb
    cases hb
  · split at h
    · split at h
      · rename_i hb
        exact ⟨h, fun _ => by rw [Nat.eq_of_beq_eq_true hb]⟩
      · cases h
    · cases h
theorem lpFix_mem {n0 : Nat} : ∀ {lp : LP}, lpFix n0 lp = true → ∀ a m, (a, m) ∈ lp → a < n0 → m = .lab a
  | [], _, a, m, h, _ => by cases h
  | (b, x) :: r, hf, a, m, h, ha => by
    have h2 := lpFix_cons hf
    rcases List.mem_cons.1 h with e | h
    · cases e; exact h2.2 ha
    · exact lpFix_mem h2.1 a m h ha
theorem labOf_fix {lp : LP} {n0 : Nat} (h : lpFix n0 lp = true) : β.agree n0 (labOf ρ β n0 lp) := by
  intro l hl
  unfold labOf
  simp only
  cases hg : lpGet lp l with
  | none => simp only [if_pos hl, and_self]
  | some m =>
    have := lpFix_mem h _ _ (lpGet_mem hg) hl
    subst this
    exact ⟨rfl, rfl⟩
/-- What has to hold of numbers and tables. -/
structure Eqs (ρ ρ' : Env) (ps : Pairs) (ts : TPairs) : Prop where
  ps : ∀ p ∈ ps, p.1.den ρ = p.2.den ρ'
  ts : ∀ p ∈ ts, TEqP ρ ρ' p
/-- What heap blocks, listed, are. -/
structure SatL (ρ : Env) (β : Lab) (n : Nat) (h : List (Nat × Ent)) (w : World) : Prop where
  blk : ∀ p ∈ h, p.1 < n ∧ p.2.blk.below n ∧ (p.2.blk.hb β → β.b p.1 < w.heap.size) ∧ p.2.blk.sat ρ β (β.b p.1) w
  inj : ∀ p ∈ h, ∀ p' ∈ h, p.1 ≠ p'.1 → (p.2.wr || p'.2.wr) = true → p.2.blk.hb β → p'.2.blk.hb β → β.b p.1 ≠ β.b p'.1
/-- What a heap held against another comes to. -/
theorem heapL_ok {n0 : Nat} {s : S} {nx : Nat} {lp : LP} {h : List (Nat × Ent)} {q : Mt} (hq : heapM s.heap nx lp h = some q) (hok : lpOk (lp ++ q.lp) = true) (hqm : MOk ρ ρ' β (labOf ρ β n0 (lp ++ q.lp)) q)
    {C : Ctx} {w : World} {m : Nat} (hsh : SatH ρ β m s.heap.get w) (hown : ∀ l x, s.heap.get l = some x → x.wr = true → x.blk.hb β → C.W.heap.size ≤ β.b l ∨ C.S (β.b l)) :
    SatL ρ' (labOf ρ β n0 (lp ++ q.lp)) nx h w ∧ ∀ p ∈ h, p.2.wr = true → p.2.blk.hb (labOf ρ β n0 (lp ++ q.lp)) → C.W.heap.size ≤ (labOf ρ β n0 (lp ++ q.lp)).b p.1 ∨ C.S ((labOf ρ β n0 (lp ++ q.lp)).b p.1) := by
  have hmaps := maps_all (ρ := ρ) (β := β) hok n0
  have h2 := heapM_ok hq hqm (fun p hp => hmaps p (List.mem_append_left _ hp))
  refine ⟨⟨fun p hp => ?_, fun p hp p' hp' hne hw hb hb' => ?_⟩, fun p hp hw hb => ?_⟩
  · obtain ⟨l, x⟩ := p
    obtain ⟨hl, hb, hor⟩ := h2 l x hp
    rcases hor with ⟨l', y, hlm, hy, _, hhb, hsat⟩ | ⟨hnb, hsat, _⟩
    · obtain ⟨_, _, h5, h6⟩ := hsh.blk l' y hy
      refine ⟨hl, hb, fun hh => ?_, hsat w h6⟩
      rw [(hmaps _ hlm).1]
      exact h5 (hhb.1 hh)
    · exact ⟨hl, hb, fun hh => absurd hh hnb, hsat _ w⟩
  · obtain ⟨l, x⟩ := p
    obtain ⟨l', x'⟩ := p'
    rcases (h2 l x hp).2.2 with ⟨p1, y, hlm, hy, e, hhb, _⟩ | ⟨hnb, _⟩
    · rcases (h2 l' x' hp').2.2 with ⟨p2, y', hlm', hy', e', hhb', _⟩ | ⟨hnb, _⟩
      · have hpq := (lpOk_ok hok _ _ _ _ hlm hlm').2 hne p1 p2 rfl rfl
        rw [(hmaps _ hlm).1, (hmaps _ hlm').1]
        exact hsh.inj p1 p2 y y' hy hy' hpq (or_imp e e' hw) (hhb.1 hb) (hhb'.1 hb')
      · exact absurd hb' hnb
    · exact absurd hb hnb
  · obtain ⟨l, x⟩ := p
    rcases (h2 l x hp).2.2 with ⟨p1, y, hlm, hy, e, hhb, _⟩ | ⟨hnb, _⟩
    · rw [(hmaps _ hlm).1]
      exact hown p1 y hy (e hw) (hhb.1 hb)
    · exact absurd hb hnb
theorem matchS_ok {s : S} {t : Tm} {m : Mt} (h : matchS s t = some m) (he : Eqs ρ ρ' m.ps m.ts) {C : Ctx} (hf : Fix C.ρ0 ρ') (hn : C.n0 ≤ t.n0) {nt : Nat} {a : Act} {w : World} (hs : TS C ρ β nt s a w) : ∃ β', TS C ρ' β' nt t.toS a w := by
  unfold matchS at h
  split at h
  · rename_i p hp
    split at h
    · rename_i q hq
      split at h
      · rename_i hok
        cases h
        simp only [Bool.and_eq_true] at hok
        obtain ⟨hok, hfx, hle⟩ := hok
        refine ⟨labOf ρ β t.n0 ((p.lp ++ idLp t.n0) ++ q.lp), ?_⟩
        have hmaps := maps_all (ρ := ρ) (β := β) hok t.n0
        have hall : MOk ρ ρ' β (labOf ρ β t.n0 ((p.lp ++ idLp t.n0) ++ q.lp)) (p.app q) := by
          refine ⟨he.ps, he.ts, fun z hz => ?_⟩
          rcases List.mem_append.1 hz with hz | hz
          · exact hmaps z (List.mem_append_left _ (List.mem_append_left _ hz))
          · exact hmaps z (List.mem_append_right _ hz)
        obtain ⟨hpm, hqm⟩ := MOk.app_iff hall
        have h1 := slotsM_ok hp hpm
        have h2 := heapL_ok (n0 := t.n0) hq hok hqm (C := C) hs.sat.sh hs.own
        refine ⟨⟨⟨fun n v hv => ?_, hs.sat.sa.defers⟩, hs.sat.sz, ⟨fun l x hx => h2.1.blk _ (putSets_mem hx), fun l l' x x' hx hx' hne hw hb hb' => h2.1.inj _ (putSets_mem hx) _ (putSets_mem hx') hne hw hb hb'⟩⟩, hs.frm, fun l x hx hw hb => h2.2 _ (putSets_mem hx) hw hb, hf, fun l hl => ?_, Nat.le_trans hn (Nat.le_of_ble_eq_true hle)⟩
        · obtain ⟨hb, y, hy, hd⟩ := h1 n v (slOf_mem hv)
          exact ⟨hb, by rw [(hs.sat.sa.slot n y hy).2, hd]⟩
        · have h3 := labOf_fix (ρ := ρ) (β := β) hfx l (Nat.lt_of_lt_of_le hl hn)
          exact ⟨h3.1.trans (hs.lab l hl).1, h3.2.trans (hs.lab l hl).2⟩
      · cases h
    · cases h
  · cases h
end

/-! ### a function's end -/
/-- What a function hands back, and the blocks behind it. -/
structure Res where
  vs : List V1
  heap : List (Nat × Ent)
  nx : Nat
  n0 : Nat
def REnd (C : Ctx) (R : Res) (e : Ending) (w' : World) : Prop :=
  ∃ β', Frm C.S C.W w' ∧ SatL C.ρ0 β' R.nx R.heap w' ∧ C.β0.agree C.n0 β' ∧ (∀ p ∈ R.heap, p.2.wr = true → p.2.blk.hb β' → C.W.heap.size ≤ β'.b p.1 ∨ C.S (β'.b p.1)) ∧ (svOfList R.vs).below R.nx ∧ e = .returned ((svOfList R.vs).den C.ρ0 β')

/-- At a body's end; the calls that are put off are Δ. -/
def bodyPostE (P : Program) (fn : Func) (Δ : List Deferred) (R : Ending → World → Prop) : Exit → Act → World → Prop
  | .normal, a, w | .ret, a, w => a.defers = Δ ∧ ∃ v, (∀ w', CellsKept w w' → (results fn a.tmps).run P w' = .ok v w') ∧ R (.returned v) w
  | .panic chain, a, w => a.defers = Δ ∧ R (.panicked chain) w
  | .outgrown, _, w => R .outgrown w
  | _, _, _ => False
theorem bodyPostE_nil {P : Program} {fn : Func} {R : Ending → World → Prop} {e : Exit} {a : Act} {w : World} (h : bodyPostE P fn [] R e a w) : bodyPost P fn R e a w := by
  cases e with
  | normal => exact ⟨h.1, h.2.imp fun v hv => ⟨hv.1 w (CellsKept.refl w), hv.2⟩⟩
  | ret => exact ⟨h.1, h.2.imp fun v hv => ⟨hv.1 w (CellsKept.refl w), hv.2⟩⟩
  | _ => exact h
def EndAt (P : Program) (fn : Func) (C : Ctx) : Option Res → Exit → Act → World → Prop
  | none => bodyPostE P fn C.Δ fun e w' => e = .returned (.bool true) ∧ Frm C.S C.W w'
  | some R => bodyPostE P fn C.Δ (REnd C R)
def retE (ty : Tys) (fn : Func) (s : S) : Option E := match resOf ty s fn.results.toList with
  | some [.one (.bool e)] => some e
  | _ => none
theorem ret_TS {P : Program} {ty : Tys} (hty : TysOk P ty) {fn : Func} {C : Ctx} {ρ : Env} {β : Lab} {nt : Nat} {s : S} {a : Act} {w : World} (hs : TS C ρ β nt s a w) {e : E} (he : retE ty fn s = some e) (h : e.den ρ ≠ 0) {x : Exit} (hx : x = .ret ∨ x = .normal) : EndAt P fn C none x a w := by
  unfold retE at he
  split at he
  · rename_i e' hr
    cases he
    have this : ∀ w', CellsKept w w' → _ := fun w' hw => (results_kept (cf := mkCfg ty fun _ => none) hty hs.sat hr hw).1
    have hv : (svOfList [V1.one (CV.bool e)]).den ρ β = .bool true := by simp [svOfList, SV.den, V1.den, CV.den, h]
    rw [hv] at this
    rcases hx with rfl | rfl <;> exact ⟨hs.sat.sa.defers, _, this, rfl, hs.frm⟩
  · cases he
/-- Does it name numbers and tables below 100 alone? -/
def E.low : E → Bool
  | .lit _ => true
  | .var i => Nat.blt i 100
  | .tv q => Nat.blt q 100
  | .get t i _ => t.low && i.low
  | .upd t i _ v => t.low && (i.low && v.low)
  | .un _ a => a.low
  | .bin _ a b => a.low && b.low
  | .ite c a b => c.low && (a.low && b.low)
  | .app _ a b => a.low && b.low
theorem E.low_den {ρ ρ' : Env} (h : Fix ρ ρ') : ∀ {e : E}, e.low = true → e.den ρ' = e.den ρ ∧ e.tden ρ' = e.tden ρ ∧ e.t2den ρ' = e.t2den ρ := by
  intro e
  induction e with
  | lit n => intro _; exact ⟨rfl, rfl, rfl⟩
  | var i => intro hl; exact ⟨(h i (by simpa [E.low] using hl)).1, rfl, rfl⟩
  | tv q => intro hl; exact ⟨rfl, (h q (by simpa [E.low] using hl)).2, rfl⟩
  | get t i j ht hi =>
    intro hl
    simp only [E.low, Bool.and_eq_true] at hl
    obtain ⟨h1, h2, h3⟩ := ht hl.1
    obtain ⟨g1, g2, g3⟩ := hi hl.2
    exact ⟨by simp only [E.den, h2, g1], rfl, rfl⟩
  | upd t i j v ht hi hv =>
    intro hl
    simp only [E.low, Bool.and_eq_true] at hl
    obtain ⟨h1, h2, h3⟩ := ht hl.1
    obtain ⟨g1, g2, g3⟩ := hi hl.2.1
    obtain ⟨f1, f2, f3⟩ := hv hl.2.2
    exact ⟨rfl, by simp only [E.tden, h2, g1, f1], rfl⟩
  | un o a ha =>
    intro hl
    obtain ⟨h1, h2, h3⟩ := ha hl
    exact ⟨by simp only [E.den, h1], rfl, rfl⟩
  | bin o a b ha hb =>
    intro hl
    simp only [E.low, Bool.and_eq_true] at hl
    obtain ⟨h1, h2, h3⟩ := ha hl.1
    obtain ⟨g1, g2, g3⟩ := hb hl.2
    exact ⟨by simp only [E.den, h1, g1], rfl, rfl⟩
  | ite c a b hc ha hb =>
    intro hl
    simp only [E.low, Bool.and_eq_true] at hl
    obtain ⟨h1, h2, h3⟩ := hc hl.1
    obtain ⟨g1, g2, g3⟩ := ha hl.2.1
    obtain ⟨f1, f2, f3⟩ := hb hl.2.2
    exact ⟨by simp only [E.den, h1, g1, f1], by simp only [E.tden, h1, g2, f2], rfl⟩
  | app f a b ha hb =>
    intro hl
    simp only [E.low, Bool.and_eq_true] at hl
    obtain ⟨h1, h2, h3⟩ := ha hl.1
    obtain ⟨g1, g2, g3⟩ := hb hl.2
    exact ⟨by simp only [E.den, h1, h2, h3, g1, g2, g3], by simp only [E.tden, h1, h2, h3, g1, g2, g3], by simp only [E.t2den, h1, h2, h3, g1, g2, g3]⟩
def v1sM (nx : Nat) : List V1 → List V1 → Option Mt
  | [], [] => some Mt.none_
  | x :: r, y :: r' => match y.bel nx with
    | true => (match v1M x y, v1sM nx r r' with | some p, some q => some (p.app q) | _, _ => none)
    | false => none
  | _, _ => none
def matchR (s : S) (vs : List V1) (R : Res) : Option Mt := match v1sM R.nx vs R.vs with
  | some p => (match heapM s.heap R.nx (p.lp ++ idLp R.n0) R.heap with
    | some q => (match lpOk ((p.lp ++ idLp R.n0) ++ q.lp) && (lpFix R.n0 ((p.lp ++ idLp R.n0) ++ q.lp) && Nat.ble R.n0 R.nx) with | true => some (p.app q) | false => none)
    | none => none)
  | none => none
/-- What a function hands back, held against what it should. -/
def retM (ty : Tys) (fn : Func) (s : S) (R : Res) : Option Mt := match resOf ty s fn.results.toList with
  | some vs => (match matchR s vs R with
    | some m => (match m.ps.all (fun p => p.2.low) && m.ts.all (fun p => p.2.1.low) with | true => some m | false => none)
    | none => none)
  | none => none
section
variable {ρ ρ' : Env} {β β' : Lab}
theorem v1M_ok {x x' : V1} {m : Mt} (h : v1M x x' = some m) (he : MOk ρ ρ' β β' m) : x.den ρ β = x'.den ρ' β' := svM_ok (x := .v x) (x' := .v x') h he
theorem v1sM_ok {nx : Nat} : ∀ {l l' : List V1} {m : Mt}, v1sM nx l l' = some m → MOk ρ ρ' β β' m → l.map (V1.den ρ β) = l'.map (V1.den ρ' β') ∧ ∀ x ∈ l', V1.below nx x
  | [], [], m, h, he => ⟨rfl, fun x hx => (by cases hx)⟩
  | x :: r, y :: r', m, h, he => by
    simp only [v1sM] at h
    split at h
    · rename_i hb
      split at h
      · rename_i p q hp hq
        cases h
        obtain ⟨h1, h2⟩ := MOk.app_iff he
        obtain ⟨i1, i2⟩ := v1sM_ok hq h2
        refine ⟨by simp only [List.map_cons, v1M_ok hp h1, i1], fun z hz => ?_⟩
        rcases List.mem_cons.1 hz with rfl | hz
        · exact SV.bel_ok (x := .v z) hb
        · exact i2 z hz
      · cases h
    · cases h
  | [], _ :: _, m, h, he => by simp [v1sM] at h
  | _ :: _, [], m, h, he => by simp [v1sM] at h
theorem svOfList_map {l l' : List V1} (h : l.map (V1.den ρ β) = l'.map (V1.den ρ' β')) : (svOfList l).den ρ β = (svOfList l').den ρ' β' := by
  simp only [svOfList_den, h]
theorem retM_ok {P : Program} {ty : Tys} (hty : TysOk P ty) {fn : Func} {C : Ctx} {R : Res} {nt : Nat} {s : S} {a : Act} {w : World} (hs : TS C ρ β nt s a w) {m : Mt} (h : retM ty fn s R = some m) (he : Eqs ρ ρ m.ps m.ts) (hn : C.n0 ≤ R.n0) {x : Exit} (hx : x = .ret ∨ x = .normal) : EndAt P fn C (some R) x a w := by
  unfold retM at h
  split at h
  · rename_i vs hr
    split at h
    · rename_i m' hm
      split at h
      · rename_i hlow
        cases h
        simp only [Bool.and_eq_true, List.all_eq_true] at hlow
        unfold matchR at hm
        split at hm
        · rename_i p hp
          split at hm
          · rename_i q hq
            split at hm
            · rename_i hok
              cases hm
              simp only [Bool.and_eq_true] at hok
              obtain ⟨hok, hfx, hle⟩ := hok
              have hmaps := maps_all (ρ := ρ) (β := β) hok R.n0
              have hall : MOk ρ C.ρ0 β (labOf ρ β R.n0 ((p.lp ++ idLp R.n0) ++ q.lp)) (p.app q) := by
                refine ⟨fun z hz => ?_, fun z hz => ?_, fun z hz => ?_⟩
                · rw [he.ps z hz, (E.low_den hs.fix (hlow.1 z hz)).1]
                · have h1 := he.ts z hz
                  have h2 := (E.low_den hs.fix (hlow.2 z hz)).2.1
                  unfold TEqP at h1 ⊢
                  rw [← h2]
                  exact h1
                · rcases List.mem_append.1 hz with hz | hz
                  · exact hmaps z (List.mem_append_left _ (List.mem_append_left _ hz))
                  · exact hmaps z (List.mem_append_right _ hz)
              obtain ⟨hpm, hqm⟩ := MOk.app_iff hall
              have h1 := v1sM_ok hp hpm
              have h2 := heapL_ok (n0 := R.n0) hq hok hqm (C := C) hs.sat.sh hs.own
              have h3 : ∀ w', CellsKept w w' → _ := fun w' hw => (results_kept (cf := mkCfg ty fun _ => none) hty hs.sat hr hw).1
              rw [svOfList_map h1.1] at h3
              have key : REnd C R (.returned ((svOfList R.vs).den C.ρ0 (labOf ρ β R.n0 ((p.lp ++ idLp R.n0) ++ q.lp)))) w := by
                refine ⟨_, hs.frm, h2.1, fun l hl => ?_, h2.2, svOfList_below h1.2, rfl⟩
                have h4 := labOf_fix (ρ := ρ) (β := β) hfx l (Nat.lt_of_lt_of_le hl hn)
                exact ⟨h4.1.trans (hs.lab l hl).1, h4.2.trans (hs.lab l hl).2⟩
              rcases hx with rfl | rfl <;> exact ⟨hs.sat.sa.defers, _, h3, key⟩
            · cases hm
          · cases hm
        · cases hm
      · cases h
    · cases h
  · cases h
end
/-- The beginning of a law. -/
def Ctx.law (W : World) (β : Lab) (ρ : Env) : Ctx := ⟨W, fun _ => False, 0, β, ρ, []⟩
end
end Go.Sx
/-
  SX: LOOPS, WHAT IS LEFT TO SHOW: the run of a part, as tests and equations.
-/
namespace Go.Sx
set_option linter.unusedSimpArgs false
set_option linter.unusedVariables false
set_option linter.unusedSectionVars false
noncomputable section
set_option linter.unusedVariables false

inductive What where
  | next (F : List Fact) (ps : Pairs) (ts : TPairs) | out (i : Nat) (F : List Fact) (ps : Pairs) (ts : TPairs) | done (e : E) | fin (ps : Pairs) (ts : TPairs)
abbrev Ob := List (E × Bool) × What
/-- Where a part should come to: a template, what is known there, counts that stay or go up to a bound; other templates that will do. -/
structure Tgt where
  t : Tm
  F : List Fact
  c : List (Nat × Option Int)
  m : List (Tm × List Fact)
abbrev Tgt.alts (g : Tgt) : List (Tm × List Fact) := (g.t, g.F) :: g.m
/-- A number that is told, and not the one that should be. -/
def rngIn (j : Nat) : List Fact → Option (Int × Int)
  | [] => none
  | .rng (.var i) (some a, some b) :: r => (match Nat.beq i j with | true => some (a, b) | false => rngIn j r)
  | _ :: r => rngIn j r
def litsNe (k : Known) (F : List Fact) : Pairs → Bool
  | [] => false
  | (a, .lit n) :: r => (match a with
    | .lit m => !(ile m n && ile n m) || litsNe k F r
    | e => (match norm k e with | .lit m => !(ile m n && ile n m) || litsNe k F r | _ => litsNe k F r))
  | (a, .var j) :: r => (match rngIn j F with
    | some (lo, hi) => (match ieq lo hi with
      | true => (match norm k a with | .lit m => !(ieq lo m) || litsNe k F r | _ => litsNe k F r)
      | false => litsNe k F r)
    | none => litsNe k F r)
  | _ :: r => litsNe k F r
/-- Of the pairs, two numbers that are told and not the same. -/
def litLit : Pairs → Bool
  | [] => false
  | (.lit m, .lit n) :: r => (match ieq m n with | true => litLit r | false => true)
  | _ :: r => litLit r
/-- Numbers that are told, of slots; templates that part from these are passed over (a hint). -/
def keyCV (k : Known) : CV → Option Int
  | .int _ e => (match norm k e with | .lit n => some n | _ => none)
  | _ => none
def svCells : SV → List CV
  | .v (.one c) => [c]
  | .v (.agg cs) => cs
  | _ => []
def optK {R : Type} (o : Option Int) (f : Option Int → R) : R := match o with | none => f none | some n => intK n fun n => f (some n)
def keysK {R : Type} (k : Known) : List CV → (List (Option Int) → R) → R
  | [], f => f []
  | c :: r, f => optK (keyCV k c) fun a => keysK k r fun b => f (a :: b)
def slotKeysK {R : Type} (k : Known) (s : Sl) : List (Nat × SV) → (List (List (Option Int)) → R) → R
  | [], f => f []
  | (n, _) :: r, f => keysK k (match s.get n with | some x => svCells x | none => []) fun a => slotKeysK k s r fun b => f (a :: b)
def neKey : List (Option Int) → List CV → Bool
  | some m :: r, .int _ (.lit n) :: q => (match ieq m n with | true => neKey r q | false => true)
  | _ :: r, _ :: q => neKey r q
  | _, _ => false
def neKeys : List (List (Option Int)) → List (Nat × SV) → Bool
  | a :: r, (_, v) :: q => (match neKey a (svCells v) with | true => true | false => neKeys r q)
  | _, _ => false
def neCells : List CV → List CV → Bool
  | .int _ (.lit m) :: r, .int _ (.lit n) :: q => (match ieq m n with | true => neCells r q | false => true)
  | _ :: r, _ :: q => neCells r q
  | _, _ => false
def neHeap (h : T Ent) : List (Nat × Ent) → Bool
  | [] => false
  | (l, ⟨_, .cells cs _⟩) :: r => (match h.get l with
    | some ⟨_, .cells ds _⟩ => (match neCells ds cs with | true => true | false => neHeap h r)
    | _ => neHeap h r)
  | _ :: r => neHeap h r
def siftQ (key : List (List (Option Int))) (h : T Ent) : List (Tm × List Fact) → List (Tm × List Fact)
  | [] => []
  | p :: r => (match neKeys key p.1.slots with
    | true => siftQ key h r
    | false => (match neHeap h p.1.heap with | true => siftQ key h r | false => p :: siftQ key h r))
theorem siftQ_mem {key : List (List (Option Int))} {h : T Ent} : ∀ {l : List (Tm × List Fact)} {p}, p ∈ siftQ key h l → p ∈ l
  | [], p, hp => by cases hp
  | q :: r, p, hp => by
    unfold siftQ at hp
    split at hp
    · exact List.mem_cons_of_mem _ (siftQ_mem hp)
    · split at hp
      · exact List.mem_cons_of_mem _ (siftQ_mem hp)
      · rcases List.mem_cons.1 hp with rfl | hp
        · exact List.mem_cons_self ..
        · exact List.mem_cons_of_mem _ (siftQ_mem hp)
theorem optK_eq {R : Type} (o : Option Int) (f : Option Int → R) : optK o f = f o := by cases o <;> simp only [optK, intK_eq]
theorem keysK_eq {R : Type} (k : Known) : ∀ (l : List CV) (f : List (Option Int) → R), keysK k l f = f (l.map (keyCV k))
  | [], f => rfl
  | c :: r, f => by simp only [keysK, optK_eq, keysK_eq k r, List.map_cons]
theorem slotKeysK_ex {R : Type} (k : Known) (s : Sl) : ∀ (l : List (Nat × SV)), ∃ a, ∀ (f : List (List (Option Int)) → R), slotKeysK k s l f = f a
  | [] => ⟨[], fun f => rfl⟩
  | (n, v) :: r => by
    obtain ⟨a, ha⟩ := slotKeysK_ex (R := R) k s r
    exact ⟨_, fun f => by rw [slotKeysK, keysK_eq, ha]⟩
/-- The first template that fits. -/
def pickB (k : Known) (s : S) : List (Tm × List Fact) → Option (List Fact × Mt)
  | [] => none
  | [(t, F)] => (match matchS s t with | some m => some (F, m) | none => none)
  | (t, F) :: r => match slotsM s.slots t.nx t.slots with
    | some p => (match litsNe k F p.ps with
      | true => pickB k s r
      | false => (match matchS s t with
        | some m => (match litLit m.ps with | true => pickB k s r | false => some (F, m))
        | none => pickB k s r))
    | none => pickB k s r
def pickA (k : Known) (s : S) (l : List (Tm × List Fact)) : Option (List Fact × Mt) := match l with
  | a :: b :: c :: d :: e :: f :: g :: h => slotKeysK k s.slots a.1.slots fun key => pickB k s (siftQ key s.heap (a :: b :: c :: d :: e :: f :: g :: h))
  | l => pickB k s l
def nextOf : Option (List Fact × Mt) → Option What
  | some (F, m) => some (.next F m.ps m.ts)
  | none => none
def outOf (i : Nat) : Option (List Fact × Mt) → Option What
  | some (F, m) => some (.out i F m.ps m.ts)
  | none => none
def finOf : Option Mt → Option What
  | some m => some (.fin m.ps m.ts)
  | none => none
def doneOf : Option E → Option What
  | some e => some (.done e)
  | none => none
/-- At a function's end. -/
def endOf (ty : Tys) (fn : Func) (R : Option Res) (s : S) : Option What := match R with
  | none => doneOf (retE ty fn s)
  | some R => finOf (retM ty fn s R)
def tgtOf : List (Nat × Tgt) → Nat → Option Tgt
  | [], _ => none
  | (b, g) :: r, id => match Nat.beq id b with | true => some g | false => tgtOf r id
def whatOf (k : Known) (ty : Tys) (fn : Func) (R : Option Res) (N : Option Tgt) (X : List (Nat × Tgt)) (x : XK) (s : S) : Option What :=
  match x with
  | .nrm => (match N with | some g => nextOf (pickA k s ((g.t, g.F) :: g.m)) | none => endOf ty fn R s)
  | .ret => endOf ty fn R s
  | .ext id => (match tgtOf X id with | some g => outOf id (pickA k s ((g.t, g.F) :: g.m)) | none => none)
/-- The tests of a path. -/
def Path (ρ : Env) (ts : List (E × Bool)) : Prop := ∀ p ∈ ts, (p.1.den ρ ≠ 0 ↔ p.2 = true)
/-- An environment, one number of it another. -/
def Env.put (ρ : Env) (i : Nat) (x : Int) : Env := ⟨fun j => if j = i then x else ρ.v j, ρ.t⟩
theorem put_v (ρ : Env) (i j : Nat) (x : Int) : (ρ.put i x).v j = if j = i then x else ρ.v j := rfl
theorem rng_iff {ρ : Env} {e : E} {a b : Int} : Fact.holds ρ (.rng e (some a, some b)) ↔ a ≤ e.den ρ ∧ e.den ρ ≤ b :=
  ⟨fun h => ⟨h.1 a rfl, h.2 b rfl⟩, fun h => ⟨fun m hm => by cases hm; exact h.1, fun m hm => by cases hm; exact h.2⟩⟩
theorem tr_iff {ρ : Env} {e : E} {b : Bool} : Fact.holds ρ (.tr e b) ↔ (e.den ρ ≠ 0 ↔ b = true) := Iff.rfl
theorem wrap_u64 (z : Int) : IntKind.u64.wrap z = z % 18446744073709551616 := by
  obtain ⟨t, ht⟩ := wrap_congr .u64 z
  have h1 : (0 : Int) ≤ IntKind.u64.wrap z := (wrap_range .u64 z).1
  have h2 : IntKind.u64.wrap z ≤ (18446744073709551615 : Int) := (wrap_range .u64 z).2
  have hk : ((kmod .u64 : Nat) : Int) = 18446744073709551616 := rfl
  rw [hk] at ht
  omega
theorem wrap_i64 {z : Int} (h : -9223372036854775808 ≤ z ∧ z ≤ 9223372036854775807) : IntKind.i64.wrap z = z := wrap_in (by simpa [kmin, kmax] using h)
theorem lt_iff {ρ : Env} {a b : E} {t : Bool} : ((E.bin .lt a b).den ρ ≠ 0 ↔ t = true) ↔ (a.den ρ < b.den ρ ↔ t = true) := by
  simp only [E.den, BO.den]; by_cases h : a.den ρ < b.den ρ <;> simp [h]
theorem eq_iff {ρ : Env} {a b : E} {t : Bool} : ((E.bin .eq a b).den ρ ≠ 0 ↔ t = true) ↔ (a.den ρ = b.den ρ ↔ t = true) := by
  simp only [E.den, BO.den]; by_cases h : a.den ρ = b.den ρ <;> simp [h]
/-! ### a law with one loop -/
def bodyOf (fn : Func) : Code := fn.body.getD .skip
def loopBody (l : List Code) (i : Nat) : Code := match l[i]? with
  | some (.block _ (.loop c)) => c
  | _ => .skip
theorem cut_at {l : List Code} {i : Nat} {c : Code} (h : l[i]? = some c) : l = l.take i ++ (c :: l.drop (i + 1)) := by
  obtain ⟨hlt, he⟩ := List.getElem?_eq_some_iff.1 h
  rw [← he, ← List.drop_eq_getElem_cons hlt, List.take_append_drop]
def cntLt1 (ρ ρ' : Env) (c : Nat) : Option Int → Prop
  | none => ρ'.v c = ρ.v c
  | some B => (B - ρ'.v c).toNat < (B - ρ.v c).toNat
def cntLt (ρ ρ' : Env) (l : List (Nat × Option Int)) : Prop := ∀ p ∈ l, cntLt1 ρ ρ' p.1 p.2
/-- An environment that will do. -/
def Tgt.ok (ρ : Env) (g : Tgt) (F : List Fact) (ρ' : Env) : Prop := Fix ρ ρ' ∧ (∀ f ∈ F, Fact.holds ρ' f) ∧ cntLt ρ ρ' g.c
theorem pickB_mem {k : Known} {s : S} {F : List Fact} {m : Mt} : ∀ {l : List (Tm × List Fact)}, pickB k s l = some (F, m) → ∃ t, (t, F) ∈ l ∧ matchS s t = some m
  | [], h => by cases h
  | [(t, F')], h => by
    simp only [pickB] at h
    split at h
    · rename_i m' hm
      cases h
      exact ⟨t, List.mem_cons_self .., hm⟩
    · cases h
  | (t, F') :: q :: r, h => by
    have go : pickB k s (q :: r) = some (F, m) → ∃ t', (t', F) ∈ (t, F') :: q :: r ∧ matchS s t' = some m := fun h => by
      obtain ⟨t', h1, h2⟩ := pickB_mem h
      exact ⟨t', List.mem_cons_of_mem _ h1, h2⟩
    simp only [pickB] at h
    split at h
    · split at h
      · exact go h
      · split at h
        · rename_i m' hm
          split at h
          · exact go h
          · cases h
            exact ⟨t, List.mem_cons_self .., hm⟩
        · exact go h
    · exact go h
/-- What is left to show, in the numbers of the path. -/
inductive Rsd where
  | eqn (a b : E) | teq (x y : E) (n : Option (E × Nat)) | fact (f : Fact) | done (e : E) | bad
def Rsd.holds (ρ : Env) : Rsd → Prop
  | .eqn a b => a.den ρ = b.den ρ
  | .teq x y n => TEqP ρ ρ (x, y, n)
  | .fact f => Fact.holds ρ f
  | .done e => e.den ρ ≠ 0
  | .bad => False
/-- What a path leaves: its tests, what is left to show. -/
abbrev Lft := List (E × Bool) × List Rsd
/-- What a part's obligations ask. -/
def ObsOk (ρ : Env) (obs : List Lft) : Prop := ∀ ob ∈ obs, Path ρ ob.1 → ∀ r ∈ ob.2, r.holds ρ
theorem pickA_mem {k : Known} {s : S} {F : List Fact} {m : Mt} {l : List (Tm × List Fact)} (h : pickA k s l = some (F, m)) : ∃ t, (t, F) ∈ l ∧ matchS s t = some m := by
  unfold pickA at h
  split at h
  · rename_i a b c d e f g r
    obtain ⟨key, hk⟩ := slotKeysK_ex (R := Option (List Fact × Mt)) k s.slots a.1.slots
    rw [hk] at h
    obtain ⟨t, h1, h2⟩ := pickB_mem h
    exact ⟨t, siftQ_mem h1, h2⟩
  · exact pickB_mem h
end
end Go.Sx
/-
  SX: ARGUMENTS THAT ARE SLICES: their elements as tables.
-/
namespace Go.Sx
set_option linter.unusedSimpArgs false
set_option linter.unusedVariables false
set_option linter.unusedSectionVars false
noncomputable section
set_option linter.unusedVariables false

/-! ### what a type's cells hold -/
def kindsFs (f : TypeId → Option (List CK)) : List Field → Nat → Option (List CK)
  | [], _ => some []
  | g :: r, o => match Nat.beq g.offset o with
    | true => (match f g.type with
      | some ks => (match kindsFs f r (o + ks.length) with | some rs => some (ks ++ rs) | none => none)
      | none => none)
    | false => none
def rep (n : Nat) (ks : List CK) : List CK := match n with
  | 0 => []
  | n + 1 => ks ++ rep n ks
def sized (P : Program) (t : TypeId) : Option (List CK) → Option (List CK)
  | some ks => match Nat.beq (P.cellsOf t) ks.length with | true => some ks | false => none
  | none => none
def kindsOf (P : Program) : Nat → TypeId → Option (List CK)
  | 0, _ => none
  | d + 1, t => sized P t (match P.underlying t with
    | some (.int k) => some [.int k]
    | some .bool => some [.bool]
    | some (.struct fs) => kindsFs (kindsOf P d) fs.toList 0
    | some (.array n e) => (match kindsOf P d e with | some ks => some (rep n ks) | none => none)
    | _ => none)
def numOf : Value → Int
  | .int _ n => n
  | .bool b => b01 b
  | _ => 0
def Fits (k : CK) (v : Value) : Prop := v = k.val (numOf v)
theorem fits_int {k : IntKind} {n : Int} (h : (Lit.int k n).wf = true) : Fits (.int k) (.int k n) := by
  simp only [Lit.wf, Bool.and_eq_true, decide_eq_true_eq, kmin_eq, kmax_eq] at h
  simp only [Fits, CK.val, numOf, wrap_in h]
theorem fits_bool (b : Bool) : Fits .bool (.bool b) := by cases b <;> simp [Fits, CK.val, numOf, b01]
theorem sized_some {P : Program} {t : TypeId} {o : Option (List CK)} {ks : List CK} (h : sized P t o = some ks) : o = some ks ∧ P.cellsOf t = ks.length := by
  unfold sized at h
  split at h
  · split at h
    · rename_i hb
      cases h
      exact ⟨rfl, Nat.eq_of_beq_eq_true hb⟩
    · cases h
  · cases h
section
variable {H : Type} {enc : TypeId × Value → H} {P : Program} {w : World} {base : Nat} {spare : Nat → Bool} {held : Bool}
def AllFit (cs : List Value) (ks : List CK) (o : Nat) : Prop := ∀ (j : Nat) (k : CK), ks[j]? = some k → ∃ v, cs[o + j]? = some v ∧ Fits k v
theorem AllFit.append {cs : List Value} {ks rs : List CK} {o : Nat} (h : AllFit cs ks o) (h' : AllFit cs rs (o + ks.length)) : AllFit cs (ks ++ rs) o := by
  intro j k hk
  by_cases hj : j < ks.length
  · exact h j k (by rwa [List.getElem?_append_left hj] at hk)
  · rw [List.getElem?_append_right (by omega)] at hk
    obtain ⟨v, h1, h2⟩ := h' _ k hk
    exact ⟨v, by rw [← h1]; congr 1; omega, h2⟩
theorem AllFit.piece {cs : List Value} {ks : List CK} {o n : Nat} (h : AllFit ((cs.drop o).take n) ks 0) : AllFit cs ks o := by
  intro j k hk
  obtain ⟨v, h1, h2⟩ := h j k hk
  rw [Nat.zero_add, List.getElem?_take] at h1
  split at h1
  · rw [List.getElem?_drop] at h1
    exact ⟨v, h1, h2⟩
  · cases h1
theorem kindsFs_fit {f : TypeId → Option (List CK)} {cs : List Value} : ∀ {fs : List Field} {o : Nat} {ks : List CK}, kindsFs f fs o = some ks →
    (∀ g ∈ fs, ∀ kg, f g.type = some kg → AllFit ((cs.drop g.offset).take (P.cellsOf g.type)) kg 0) → AllFit cs ks o
  | [], o, ks, h, hf => by
    cases h
    intro j k hk
    simp at hk
  | g :: r, o, ks, h, hf => by
    unfold kindsFs at h
    split at h
    · rename_i ho
      have ho := Nat.eq_of_beq_eq_true ho
      split at h
      · rename_i kg hkg
        split at h
        · rename_i rs hrs
          cases h
          have h1 := hf g (List.mem_cons_self ..) kg hkg
          rw [ho] at h1
          exact AllFit.append (AllFit.piece h1) (kindsFs_fit hrs fun g' hg' => hf g' (List.mem_cons_of_mem _ hg'))
        · cases h
      · cases h
    · cases h
theorem rep_fit {cs : List Value} {ks : List CK} {sz : Nat} (hsz : sz = ks.length) : ∀ (n i : Nat), (∀ m, i ≤ m → m < i + n → AllFit ((cs.drop (m * sz)).take sz) ks 0) → AllFit cs (rep n ks) (i * sz)
  | 0, i, h => by intro j k hk; simp [rep] at hk
  | n + 1, i, h => by
    unfold rep
    refine AllFit.append (AllFit.piece (h i (Nat.le_refl _) (by omega))) ?_
    have := rep_fit hsz n (i + 1) fun m h1 h2 => h m (by omega) (by omega)
    rw [show i * sz + ks.length = (i + 1) * sz by rw [Nat.add_mul, hsz]; omega]
    exact this
theorem mapM_get_some {α β : Type} {f : α → Option β} : ∀ {l : List α} {r : List β}, l.mapM f = some r → ∀ (i : Nat) (x : α), l[i]? = some x → (f x).isSome = true := by
  intro l
  induction l with
  | nil => intro r h i x hx; simp at hx
  | cons a l ih =>
    intro r h i x hx
    simp only [List.mapM_cons, Option.bind_eq_bind, Option.bind_eq_some_iff] at h
    obtain ⟨b, hb, rs, hrs, _⟩ := h
    cases i with
    | zero => simp only [List.getElem?_cons_zero, Option.some.injEq] at hx; subst hx; rw [hb]; rfl
    | succ i => exact ih hrs i x (by simpa using hx)
theorem trod_array {fuel : Nat} {t e : TypeId} {n : Nat} {cs : List Value} {x : DataW H × List MemPlace} (ht : P.underlying t = some (.array n e)) (h : DataW.trod enc P w base spare held fuel t cs = some x) :
    ∃ (fuel' : Nat) (xs : List (DataW H × List MemPlace)), (List.range n).mapM (fun i => DataW.trod enc P w base spare held fuel' e ((cs.drop (i * P.cellsOf e)).take (P.cellsOf e))) = some xs := by
  cases fuel with
  | zero => simp [DataW.trod] at h
  | succ m =>
    unfold DataW.trod at h
    rw [ht] at h
    split at h <;> simp_all
    obtain ⟨hl, xs, hp, hd⟩ := h
    exact ⟨m, xs, hp⟩
theorem trod_fit : ∀ (d : Nat) {fuel : Nat} {t : TypeId} {cs : List Value} {x : DataW H × List MemPlace} {ks : List CK}, DataW.trod enc P w base spare held fuel t cs = some x → kindsOf P d t = some ks → AllFit cs ks 0
  | 0, fuel, t, cs, x, ks, h, hk => by simp [kindsOf] at hk
  | d + 1, fuel, t, cs, x, ks, h, hk => by
    unfold kindsOf at hk
    obtain ⟨hk, hsz⟩ := sized_some hk
    split at hk
    · rename_i k hu
      cases hk
      obtain ⟨n, rfl, _, hw⟩ := DataW.trod_int hu h
      intro j k' hj
      cases j with
      | zero => cases hj; exact ⟨_, rfl, fits_int hw⟩
      | succ j => simp at hj
    · rename_i hu
      cases hk
      obtain ⟨b, rfl, _⟩ := DataW.trod_bool hu h
      intro j k' hj
      cases j with
      | zero => cases hj; exact ⟨_, rfl, fits_bool b⟩
      | succ j => simp at hj
    · rename_i fs hu
      obtain ⟨xs, n, _, _, _, hlen, hget⟩ := DataW.trod_struct hu h
      refine kindsFs_fit (P := P) hk fun g hg kg hkg => ?_
      obtain ⟨i, hi⟩ := List.getElem?_of_mem hg
      have hi' : fs[i]? = some g := by simpa using hi
      have := hget i g hi'
      have hlt : i < xs.length := by
        have := (Array.getElem?_eq_some_iff.1 hi').1
        omega
      rw [List.getElem?_eq_getElem hlt] at this
      exact trod_fit d this hkg
    · rename_i n e hu
      split at hk
      · rename_i ke hke
        cases hk
        have hse : P.cellsOf e = ke.length := by
          cases d with
          | zero => simp [kindsOf] at hke
          | succ d => unfold kindsOf at hke; exact (sized_some hke).2
        have hall : ∀ m, m < n → ∃ fuel' y, DataW.trod enc P w base spare held fuel' e ((cs.drop (m * P.cellsOf e)).take (P.cellsOf e)) = some y := by
          intro m hm
          obtain ⟨fuel', xs, hp⟩ := trod_array hu h
          have := mapM_get_some hp m m (by simp [hm])
          obtain ⟨y, hy⟩ := Option.isSome_iff_exists.1 this
          exact ⟨fuel', y, hy⟩
        have := rep_fit (cs := cs) hse n 0 fun m _ hm => by
          obtain ⟨fuel', y, hy⟩ := hall m (by omega)
          exact trod_fit d hy hke
        simpa using this
      · cases hk
    · cases hk
end

/-! ### arguments -/
/-- How many elements a slice that comes in has at most. -/
def lenMax (P : Program) (e : TypeId) : Int := match P.bytesOf e with
  | 0 => .ofNat 9223372036854775807
  | b + 1 => .ofNat (reachBytes / (b + 1))
/-- Cells of which nothing is known. -/
def opqs (q m : Nat) : List CV := (List.range m).map fun i => .opq (q + i)
def symArgT (P : Program) (t : TypeId) (n q : Nat) (isNil : Bool) : Option (V1 × List (Nat × Ent) × List Fact × Nat × Nat) :=
  match P.underlying t with
  | some (.slice e) => (match isNil with
    | true => some (.one .nils, [], [], n + 2, q + 1)
    | false => (match kindsOf P 12 e with
      | some ks => some (.one (.tslc q ks.length (.lit (.ofNat 0)) (.var n) (.var (n + 1))), [(q, ⟨false, .tab q (.tv q) (.var n) ks⟩)],
          [.rng (.var n) (some (.ofNat 0), some (lenMax P e)), .rng (.var (n + 1)) (some (.ofNat 0), some (.ofNat 9223372036854775807))], n + 2, q + 1)
      | none => some (.one (.tslc q (P.cellsOf e) (.lit (.ofNat 0)) (.var n) (.var (n + 1))), [],
          [.rng (.var n) (some (.ofNat 0), some (lenMax P e)), .rng (.var (n + 1)) (some (.ofNat 0), some (.ofNat 9223372036854775807))], n + 2, q + 1)))
  | _ => (match symArg P t n with
    | some (x, k, m) => some (x, [], k, m, q)
    | none => (match aggB P t with
      | true => some (.agg (opqs q (P.cellsOf t)), [], [], n, q + P.cellsOf t)
      | false => none))
def symArgsT (P : Program) : List TypeId → Nat → Nat → List Bool → Option (List V1 × List (Nat × Ent) × List Fact × Nat × Nat)
  | [], n, q, _ => some ([], [], [], n, q)
  | t :: ts, n, q, fl => match symArgT P t n q (fl.headD false) with
    | some (x, hs, k, m, q') => (match symArgsT P ts m q' fl.tail with
      | some (xs, hs', k', m', q'') => some (x :: xs, hs ++ hs', k ++ k', m', q'')
      | none => none)
    | none => none
def isNilV : Value → Bool
  | .slice none _ _ => true
  | _ => false
/-- Numbers, tables and blocks from an index on. -/
structure FromN (ρ : Env) (β : Lab) (n q : Nat) (L : List Int) (Ts : List (Int → Nat → Int)) (Bs : List (Nat × Value)) : Prop where
  v : ρ.from n L
  t : ∀ i T, Ts[i]? = some T → ρ.t (q + i) = T
  b : ∀ i b, Bs[i]? = some b → β.b (q + i) = b.1 ∧ β.o (q + i) = b.2
def HeapIn (ρ : Env) (β : Lab) (W : World) (q q' : Nat) (hs : List (Nat × Ent)) : Prop :=
  ∀ x ∈ hs, q ≤ x.1 ∧ x.1 < q' ∧ x.2.wr = false ∧ x.2.blk.below q' ∧ β.b x.1 < W.heap.size ∧ x.2.blk.sat ρ β (β.b x.1) W
section
variable {H : Type} {enc : TypeId × Value → H} {P : Program} {W : World} {base : Nat} {spare : Nat → Bool} {held : Bool} {r : Reach}
theorem symArgT_ok {t : TypeId} {n q : Nat} {x : V1} {hs : List (Nat × Ent)} {k : List Fact} {m q' : Nat} {v : Value} (h : symArgT P t n q (isNilV v) = some (x, hs, k, m, q')) (hv : Value.okWide P W r base t v) {d : DataW H} {ps : List MemPlace} (ht : DataW.Trod enc P W 0 spare held t v d ps) (hwt : ∀ x ∈ d.weights P t, x ≤ reachBytes) :
    ∃ (L : List Int) (Ts : List (Int → Nat → Int)) (Bs : List (Nat × Value)), m = n + L.length ∧ q' = q + Ts.length ∧ Bs.length = Ts.length ∧ ∀ (ρ : Env) (β : Lab), FromN ρ β n q L Ts Bs →
      x.den ρ β = v ∧ (∀ g ∈ k, Fact.holds ρ g) ∧ V1.below q' x ∧ HeapIn ρ β W q q' hs := by
  unfold symArgT at h
  split at h
  · rename_i e hu
    obtain ⟨fuel, htr⟩ := ht
    unfold Value.okWide at hv
    rw [hu] at hv
    simp only at hv
    unfold Cell.okWide at hv
    rw [hu] at hv
    split at h
    · rename_i hnil
      cases h
      cases v <;> simp only [isNilV, Bool.false_eq_true] at hnil <;> try contradiction
      rename_i a len cap
      cases a with
      | some a => simp at hnil
      | none =>
        have hz : len = 0 ∧ cap = 0 := by
          unfold Cell.ok at hv
          rw [hu] at hv
          simp only at hv
          split at hv <;> simp_all
        refine ⟨[0, 0], [fun _ _ => 0], [(0, .bool true)], rfl, rfl, rfl, fun ρ β _ => ⟨?_, fun g hg => (by cases hg), trivial, fun x hx => (by cases hx)⟩⟩
        rw [hz.1, hz.2]
        rfl
    · rename_i hnil
      split at h
      · rename_i ks hks
        cases h
        have hv' : ∃ a len cap, v = .slice (some a) len cap ∧ len ≤ cap ∧ (cap : Int) ≤ IntKind.i64.max ∧ W.has P r base a e cap := by
          cases v with
          | slice a len cap =>
            cases a with
            | none => simp [isNilV] at hnil
            | some a =>
              unfold Cell.ok at hv
              rw [hu] at hv
              exact ⟨a, len, cap, rfl, hv⟩
          | _ => unfold Cell.ok at hv; rw [hu] at hv; simp at hv
        obtain ⟨a, len, cap, rfl, hlc, hcap, hhas⟩ := hv'
        obtain ⟨_, hspot, row, cells, hshape, _⟩ := hhas
        obtain ⟨b, off, sp⟩ := a
        simp only at hspot hshape
        subst hspot
        have hsz : P.cellsOf e = ks.length := by unfold kindsOf at hks; exact (sized_some hks).2
        have hblt : b < W.heap.size := by
          unfold World.shape? at hshape
          cases hb : W.heap[b]? with
          | none => rw [hb] at hshape; cases hshape
          | some o => exact (Array.getElem?_eq_some_iff.1 hb).1
        have hmax : (len : Int) ≤ lenMax P e := by
          rcases DataW.trod_slice hu htr with ⟨hc, _⟩ | ⟨a', len', cap', elems, rest, n', _, hc, hd, _, _, _, hlen, _, _⟩
          · simp [Value.cells] at hc
          · simp only [Value.cells, List.cons.injEq, Value.slice.injEq, Option.some.injEq, and_true] at hc
            obtain ⟨rfl, rfl, rfl⟩ := hc
            simp only [Prod.mk.injEq] at hd
            have h1 : (elems.length + rest.length) * P.bytesOf e ≤ reachBytes := by
              refine hwt _ ?_
              rw [hd.1]
              simp only [DataW.weights, hu, List.length_map]
              exact List.mem_cons_self ..
            unfold lenMax
            have hi64 : (IntKind.i64.max : Int) = 9223372036854775807 := by decide
            split
            · show (len : Int) ≤ 9223372036854775807
              omega
            · rename_i b' hb'
              rw [hb'] at h1
              have : len ≤ reachBytes / (b' + 1) := by
                rw [Nat.le_div_iff_mul_le (Nat.succ_pos _)]
                exact Nat.le_trans (Nat.mul_le_mul_right _ (by omega)) h1
              simp only [Int.ofNat_eq_natCast]
              omega
        have hel : ∀ i : Nat, i < len → ∀ (j : Nat) (kd : CK), ks[j]? = some kd → ∃ v, W.cell? ⟨b, off + i * ks.length + j, none⟩ = some v ∧ Fits kd v := by
          intro i hi j kd hj
          rcases DataW.trod_slice hu htr with ⟨hc, _⟩ | ⟨a', len', cap', elems, rest, n', _, hc, _, _, _, _, hlen, hget, _⟩
          · simp [Value.cells] at hc
          · simp only [Value.cells, List.cons.injEq, Value.slice.injEq, Option.some.injEq, and_true] at hc
            obtain ⟨rfl, rfl, rfl⟩ := hc
            have h1 := hget i hi
            rw [List.getElem?_eq_getElem (by omega)] at h1
            obtain ⟨cs, h2, h3⟩ := Option.bind_eq_some_iff.1 h1
            obtain ⟨_, h4, h5⟩ := World.cells?_some h2
            obtain ⟨v, h6, h7⟩ := trod_fit 12 h3 hks j kd hj
            have hjl : j < ks.length := (List.getElem?_eq_some_iff.1 hj).1
            have h8 := h5 j (by omega)
            rw [Addr.add_lit, Addr.add_lit, hsz] at h8
            exact ⟨v, by rw [h8, ← h6, Nat.zero_add], h7⟩
        refine ⟨[(len : Int), (cap : Int)], [fun i j => numOf ((W.cell? ⟨b, off + i.toNat * ks.length + j, none⟩).getD (.bool false))], [(b, .int .i64 off)], rfl, rfl, rfl, fun ρ β hf => ?_⟩
        have e1 : ρ.v n = len := (Env.from_cons hf.v).1
        have e2 : ρ.v (n + 1) = cap := (Env.from_cons (Env.from_cons hf.v).2).1
        have e3 := hf.t 0 _ rfl
        have e4 := hf.b 0 _ rfl
        simp only [Nat.add_zero] at e3 e4
        have e5 : β.f q = off := by unfold Lab.f; rw [e4.2]; simp
        have hi64 : (IntKind.i64.max : Int) = 9223372036854775807 := by decide
        refine ⟨?_, fun g hg => ?_, Nat.lt_succ_self _, fun x hx => ?_⟩
        · simp only [V1.den, CV.den, E.den, e1, e2, e4.1, e5]
          simp
        · simp only [List.mem_cons, List.not_mem_nil, or_false] at hg
          rcases hg with rfl | rfl
          · rw [rng_iff]; simp only [E.den, e1]; constructor
            · exact Int.natCast_nonneg _
            · exact hmax
          · rw [rng_iff]; simp only [E.den, e2]; constructor
            · exact Int.natCast_nonneg _
            · show (cap : Int) ≤ 9223372036854775807
              omega
        · simp only [List.mem_cons, List.not_mem_nil, or_false] at hx
          subst hx
          refine ⟨Nat.le_refl _, Nat.lt_succ_self _, rfl, Nat.lt_succ_self _, by rw [e4.1]; exact hblt, ?_⟩
          intro i hi j kd hj
          simp only [E.den, e1] at hi
          obtain ⟨v, h1, h2⟩ := hel i (by omega) j kd hj
          rw [e4.1, e5]
          simp only [E.tden, e3, Int.toNat_natCast, h1, Option.getD_some]
          rw [← h2]
      · rename_i hks
        cases h
        have hv' : ∃ a len cap, v = .slice (some a) len cap ∧ len ≤ cap ∧ (cap : Int) ≤ IntKind.i64.max ∧ W.has P r base a e cap := by
          cases v with
          | slice a len cap =>
            cases a with
            | none => simp [isNilV] at hnil
            | some a =>
              unfold Cell.ok at hv
              rw [hu] at hv
              exact ⟨a, len, cap, rfl, hv⟩
          | _ => unfold Cell.ok at hv; rw [hu] at hv; simp at hv
        obtain ⟨a, len, cap, rfl, hlc, hcap, hhas⟩ := hv'
        obtain ⟨_, hspot, row, cells, hshape, _⟩ := hhas
        obtain ⟨b, off, sp⟩ := a
        simp only at hspot hshape
        subst hspot
        have hblt : b < W.heap.size := by
          unfold World.shape? at hshape
          cases hb : W.heap[b]? with
          | none => rw [hb] at hshape; cases hshape
          | some o => exact (Array.getElem?_eq_some_iff.1 hb).1
        have hmax : (len : Int) ≤ lenMax P e := by
          rcases DataW.trod_slice hu htr with ⟨hc, _⟩ | ⟨a', len', cap', elems, rest, n', _, hc, hd, _, _, _, hlen, _, _⟩
          · simp [Value.cells] at hc
          · simp only [Value.cells, List.cons.injEq, Value.slice.injEq, Option.some.injEq, and_true] at hc
            obtain ⟨rfl, rfl, rfl⟩ := hc
            simp only [Prod.mk.injEq] at hd
            have h1 : (elems.length + rest.length) * P.bytesOf e ≤ reachBytes := by
              refine hwt _ ?_
              rw [hd.1]
              simp only [DataW.weights, hu, List.length_map]
              exact List.mem_cons_self ..
            unfold lenMax
            have hi64 : (IntKind.i64.max : Int) = 9223372036854775807 := by decide
            split
            · show (len : Int) ≤ 9223372036854775807
              omega
            · rename_i b' hb'
              rw [hb'] at h1
              have : len ≤ reachBytes / (b' + 1) := by
                rw [Nat.le_div_iff_mul_le (Nat.succ_pos _)]
                exact Nat.le_trans (Nat.mul_le_mul_right _ (by omega)) h1
              simp only [Int.ofNat_eq_natCast]
              omega
        refine ⟨[(len : Int), (cap : Int)], [fun _ _ => 0], [(b, .int .i64 off)], rfl, rfl, rfl, fun ρ β hf => ?_⟩
        have e1 : ρ.v n = len := (Env.from_cons hf.v).1
        have e2 : ρ.v (n + 1) = cap := (Env.from_cons (Env.from_cons hf.v).2).1
        have e4 := hf.b 0 _ rfl
        simp only [Nat.add_zero] at e4
        have e5 : β.f q = off := by unfold Lab.f; rw [e4.2]; simp
        have hi64 : (IntKind.i64.max : Int) = 9223372036854775807 := by decide
        refine ⟨?_, fun g hg => ?_, Nat.lt_succ_self _, fun x hx => by cases hx⟩
        · simp only [V1.den, CV.den, E.den, e1, e2, e4.1, e5]
          simp
        · simp only [List.mem_cons, List.not_mem_nil, or_false] at hg
          rcases hg with rfl | rfl
          · rw [rng_iff]; simp only [E.den, e1]; constructor
            · exact Int.natCast_nonneg _
            · exact hmax
          · rw [rng_iff]; simp only [E.den, e2]; constructor
            · exact Int.natCast_nonneg _
            · show (cap : Int) ≤ 9223372036854775807
              omega
  · rename_i hns
    split at h
    · rename_i x' k' m' hx
      cases h
      obtain ⟨L, hL, hr⟩ := symArg_ok hx hv
      exact ⟨L, [], [], hL, rfl, rfl, fun ρ β hf => ⟨(hr ρ β hf.v).1, (hr ρ β hf.v).2.1, (hr ρ β hf.v).2.2 _, fun x hx => (by cases hx)⟩⟩
    · split at h
      · rename_i hag
        cases h
        have hv' : ∃ cs, v = .agg cs ∧ cs.size = P.cellsOf t := by
          unfold aggB at hag
          unfold Value.okWide at hv
          split at hag
          · rename_i hu; rw [hu] at hv; exact hv.imp fun cs h => ⟨h.1, h.2.1⟩
          · rename_i hu; rw [hu] at hv; exact hv.imp fun cs h => ⟨h.1, h.2.1⟩
          · cases hag
        obtain ⟨cs, rfl, hsz⟩ := hv'
        refine ⟨[], List.replicate cs.size (fun _ _ => 0), cs.toList.map (fun v => (0, v)), rfl, by simp [hsz], by simp, fun ρ β hf => ⟨?_, fun g hg => (by cases hg), fun c hc => ?_, fun x hx => (by cases hx)⟩⟩
        · simp only [V1.den]
          congr 1
          apply Array.toList_inj.1
          simp only [opqs]
          apply List.ext_getElem?
          intro i
          simp only [List.map_map, List.getElem?_map, Array.getElem?_toList]
          by_cases hi : i < cs.size
          · rw [List.getElem?_range (by omega), Array.getElem?_eq_getElem hi]
            have := hf.b i (0, cs[i]) (by simp [hi])
            simp only [Option.map_some, Function.comp_apply, CV.den, this.2]
          · rw [List.getElem?_eq_none (by simp; omega), Array.getElem?_eq_none (by omega)]
            rfl
        · simp only [opqs, List.mem_map, List.mem_range] at hc
          obtain ⟨i, hi, rfl⟩ := hc
          simp only [CV.below]
          omega
      · cases h
theorem FromN.split {ρ : Env} {β : Lab} {n q : Nat} {L L' : List Int} {Ts Ts' : List (Int → Nat → Int)} {Bs Bs' : List (Nat × Value)} (hl : Bs.length = Ts.length) (h : FromN ρ β n q (L ++ L') (Ts ++ Ts') (Bs ++ Bs')) :
    FromN ρ β n q L Ts Bs ∧ FromN ρ β (n + L.length) (q + Ts.length) L' Ts' Bs' := by
  refine ⟨⟨Env.from_left h.v, fun i T hi => h.t i T ?_, fun i b hi => h.b i b ?_⟩, ⟨Env.from_right h.v, fun i T hi => ?_, fun i b hi => ?_⟩⟩
  · rw [List.getElem?_append_left (List.getElem?_eq_some_iff.1 hi).1]; exact hi
  · rw [List.getElem?_append_left (List.getElem?_eq_some_iff.1 hi).1]; exact hi
  · have := h.t (Ts.length + i) T (by rw [List.getElem?_append_right (by omega)]; simpa using hi)
    rwa [← Nat.add_assoc] at this
  · have := h.b (Bs.length + i) b (by rw [List.getElem?_append_right (by omega)]; simpa using hi)
    rwa [hl, ← Nat.add_assoc] at this
theorem symArgsT_ok : ∀ {ts : List TypeId} {n q : Nat} {xs : List V1} {hs : List (Nat × Ent)} {k : List Fact} {m q' : Nat} {vs : List Value} {ds : List (DataW H)} {ps : List MemPlace}, symArgsT P ts n q (vs.map isNilV) = some (xs, hs, k, m, q') →
    (∀ (j : Nat) (t : TypeId) (v : Value), ts[j]? = some t → vs[j]? = some v → Value.okWide P W r base t v) → DataW.TrodAll enc P W 0 spare held ts vs ds ps → (∀ x ∈ DataW.weightsEach P ts ds, x ≤ reachBytes) →
    ∃ (L : List Int) (Ts : List (Int → Nat → Int)) (Bs : List (Nat × Value)), m = n + L.length ∧ q' = q + Ts.length ∧ Bs.length = Ts.length ∧ ∀ (ρ : Env) (β : Lab), FromN ρ β n q L Ts Bs →
      xs.map (V1.den ρ β) = vs ∧ (∀ g ∈ k, Fact.holds ρ g) ∧ (∀ x ∈ xs, V1.below q' x) ∧ HeapIn ρ β W q q' hs
  | [], n, q, xs, hs, k, m, q', [], [], ps, h, hv, ht, _ => by
    cases h
    exact ⟨[], [], [], rfl, rfl, rfl, fun ρ β _ => ⟨rfl, fun g hg => (by cases hg), fun x hx => (by cases hx), fun x hx => (by cases hx)⟩⟩
  | [], n, q, xs, hs, k, m, q', _ :: _, _, ps, h, hv, ht, _ => by simp [DataW.TrodAll] at ht
  | [], n, q, xs, hs, k, m, q', [], _ :: _, ps, h, hv, ht, _ => by simp [DataW.TrodAll] at ht
  | _ :: _, n, q, xs, hs, k, m, q', [], _, ps, h, hv, ht, _ => by simp [DataW.TrodAll] at ht
  | _ :: _, n, q, xs, hs, k, m, q', _ :: _, [], ps, h, hv, ht, _ => by simp [DataW.TrodAll] at ht
  | t :: ts, n, q, xs, hs, k, m, q', v :: vs, d :: ds, ps, h, hv, ⟨p1, p2, ht1, ht2, _⟩, hwt => by
    simp only [symArgsT, List.map_cons, List.headD_cons, List.tail_cons] at h
    split at h
    · rename_i x hs1 k1 m1 q1 hx
      split at h
      · rename_i xs' hs2 k2 m2 q2 hxs
        cases h
        obtain ⟨L, Ts, Bs, a1, a2, a3, a4⟩ := symArgT_ok hx (hv 0 t v rfl rfl) ht1 (fun x hx => hwt x (by simp only [DataW.weightsEach]; exact List.mem_append_left _ hx))
        obtain ⟨L', Ts', Bs', b1, b2, b3, b4⟩ := symArgsT_ok hxs (fun j t v ht hj => hv (j + 1) t v ht hj) ht2 (fun x hx => hwt x (by simp only [DataW.weightsEach]; exact List.mem_append_right _ hx))
        refine ⟨L ++ L', Ts ++ Ts', Bs ++ Bs', by rw [b1, a1, List.length_append]; omega, by rw [b2, a2, List.length_append]; omega, by simp [a3, b3], fun ρ β hf => ?_⟩
        obtain ⟨f1, f2⟩ := FromN.split a3 hf
        rw [← a1, ← a2] at f2
        obtain ⟨c1, c2, c3, c4⟩ := a4 ρ β f1
        obtain ⟨d1, d2, d3, d4⟩ := b4 ρ β f2
        refine ⟨by rw [List.map_cons, c1, d1], fun g hg => ?_, fun y hy => ?_, fun y hy => ?_⟩
        · rcases List.mem_append.1 hg with hg | hg
          · exact c2 g hg
          · exact d2 g hg
        · rcases List.mem_cons.1 hy with rfl | hy
          · exact V1.below_mono (by omega) c3
          · exact d3 y hy
        · rcases List.mem_append.1 hy with hy | hy
          · obtain ⟨e1, e2, e3, e4, e5, e6⟩ := c4 y hy
            exact ⟨e1, by omega, e3, Blk.below_mono (by omega) e4, e5, e6⟩
          · obtain ⟨e1, e2, e3, e4, e5, e6⟩ := d4 y hy
            exact ⟨by omega, e2, e3, e4, e5, e6⟩
      · cases h
    · cases h
theorem isNilV_slice {t : TypeId} {v : Value} (hv : Value.okWide P W r base t v) (hn : isNilV v = true) : ∃ e, P.underlying t = some (.slice e) := by
  cases v <;> simp only [isNilV, Bool.false_eq_true] at hn
  unfold Value.okWide at hv
  cases hu : P.underlying t with
  | none => rw [hu] at hv; simp only [Cell.okWide, Cell.ok, hu] at hv
  | some d =>
    rw [hu] at hv
    cases d <;> first
      | exact ⟨_, rfl⟩
      | (obtain ⟨cs, h, _⟩ := hv; cases h; done)
      | (simp only [Cell.okWide, Cell.ok, hu] at hv; done)
      | (simp [Cell.okWide, Cell.ok, hu] at hv; done)
def flagsAll (P : Program) : List TypeId → List (List Bool)
  | [] => [[]]
  | t :: ts => (flagsAll P ts).flatMap fun fl => match P.underlying t with
    | some (.slice _) => [true :: fl, false :: fl]
    | _ => [false :: fl]
theorem flags_mem : ∀ {ts : List TypeId} {vs : List Value}, vs.length = ts.length → (∀ (j : Nat) (t : TypeId) (v : Value), ts[j]? = some t → vs[j]? = some v → Value.okWide P W r base t v) → vs.map isNilV ∈ flagsAll P ts
  | [], [], _, _ => by simp [flagsAll]
  | t :: ts, v :: vs, hl, hv => by
    have ih := flags_mem (ts := ts) (vs := vs) (by simpa using hl) (fun j t v ht hj => hv (j + 1) t v ht hj)
    simp only [flagsAll, List.map_cons, List.mem_flatMap]
    refine ⟨_, ih, ?_⟩
    cases hn : isNilV v with
    | true =>
      obtain ⟨e, he⟩ := isNilV_slice (hv 0 t v rfl rfl) hn
      rw [he]
      simp
    | false => split <;> simp
theorem law_TST {f : FuncId} {fn : Func} {body : Code} (hf : P.funcs[f]? = some fn) (hb : fn.body = some body) {ts : List TypeId}
    (hw : ∀ fl ∈ flagsAll P ts, ∃ xs hs k m q, symArgsT P ts 0 0 fl = some (xs, hs, k, m, q) ∧ ∀ ρ : Env, (∀ g ∈ k, Fact.holds ρ g) → ∀ (β : Lab) (W : World) (a : Act), TS (Ctx.law W β ρ) ρ β fn.ntmps ⟨argSlots xs 0 .nil, putSets .leaf hs, q, []⟩ a W → WPs P (Sx.flat body) (EndAt P fn (Ctx.law W β ρ) none) a W)
    {args : Array Value} {ds : List (DataW H)} {ps : List MemPlace} (hsz : args.size = ts.length) (hv : ∀ (j : Nat) (t : TypeId) (v : Value), ts[j]? = some t → args[j]? = some v → Value.okWide P W r base t v) (ht : DataW.TrodAll enc P W 0 spare held ts args.toList ds ps) (hwt : ∀ x ∈ DataW.weightsEach P ts ds, x ≤ reachBytes) :
    Calls P f args W fun e w' => e = .returned (.bool true) ∧ Kept W w' := by
  have hv' : ∀ (j : Nat) (t : TypeId) (v : Value), ts[j]? = some t → args.toList[j]? = some v → Value.okWide P W r base t v := fun j t v ht hj => hv j t v ht (by simpa using hj)
  obtain ⟨xs, hs, k, m, q, hsym, hrun⟩ := hw _ (flags_mem (vs := args.toList) (by simpa using hsz) hv')
  obtain ⟨L, Ts, Bs, a1, a2, a3, a4⟩ := symArgsT_ok hsym hv' ht hwt
  let ρ : Env := ⟨fun i => L.getD i 0, fun i => Ts.getD i (fun _ _ => 0)⟩
  let β : Lab := ⟨fun i => (Bs.getD i (0, .bool true)).1, fun i => (Bs.getD i (0, .bool true)).2⟩
  have hfr : FromN ρ β 0 0 L Ts Bs := ⟨fun i _ => by simp [ρ], fun i T hi => by simp [ρ, List.getD, hi], fun i b hi => by simp [β, List.getD, hi]⟩
  obtain ⟨h1, h2, h3, h4⟩ := a4 ρ β hfr
  refine calls_of_wp hf hb ?_
  have hheap : ∀ l x, (putSets .leaf hs).get l = some x → (l, x) ∈ hs := fun l x hx => putSets_mem hx
  have hi := SatS.init (ρ := ρ) (β := β) (args := xs) (heap := putSets .leaf hs) (nx := q) (w := W) (nt := fn.ntmps) h3 ⟨fun l x hx => by
      obtain ⟨e1, e2, e3, e4, e5, e6⟩ := h4 _ (hheap l x hx)
      exact ⟨e2, e4, fun _ => e5, e6⟩, fun l l' x x' hx hx' hne hw _ _ => by
      have e3 := (h4 _ (hheap l x hx)).2.2.1
      have e3' := (h4 _ (hheap l' x' hx')).2.2.1
      simp only at e3 e3'
      rw [e3, e3'] at hw
      cases hw⟩
  rw [h1, Array.toArray_toList] at hi
  have := WPs.flat (hrun ρ h2 β W _ ⟨hi, Frm.refl _ _, fun l x hx hw _ => absurd hw (by
    have e3 := (h4 _ (hheap l x hx)).2.2.1
    simp only at e3
    rw [e3]
    exact Bool.false_ne_true), Fix.refl _, fun l hl => absurd hl (Nat.not_lt_zero _), Nat.zero_le _⟩)
  refine wp_mono this fun e a w he => ?_
  unfold EndAt at he
  have fin : ∀ e w', (e = Ending.returned (.bool true) ∧ Frm (Ctx.law W β ρ).S (Ctx.law W β ρ).W w') → e = .returned (.bool true) ∧ Kept W w' := fun e w' h => ⟨h.1, h.2.grown fun _ h => h, fun k hk => h.2.old k hk id⟩
  cases e with
  | normal => exact ⟨he.1, he.2.imp fun v hv => ⟨hv.1 w (CellsKept.refl w), fin _ _ hv.2⟩⟩
  | ret => exact ⟨he.1, he.2.imp fun v hv => ⟨hv.1 w (CellsKept.refl w), fin _ _ hv.2⟩⟩
  | panic ch => exact ⟨he.1, fin _ _ he.2⟩
  | outgrown => exact fin _ _ he
  | exit id => exact he
  | goto l => exact he
end
end
end Go.Sx
/-
  SX: LOOPS, BY THEMSELVES: the next round's numbers read off the equations; the template's facts shown again by the executor's own reckoning; rounds counted.
-/
namespace Go.Sx
set_option linter.unusedSimpArgs false
set_option linter.unusedVariables false
set_option linter.unusedSectionVars false
noncomputable section
set_option linter.unusedVariables false

abbrev Asg := List (Nat × E)
def asgGet : Asg → Nat → Option E
  | [], _ => none
  | (j, e) :: r, i => match Nat.beq j i with | true => some e | false => asgGet r i
/-- Other numbers, other tables. -/
def Env.puts (ρ : Env) (a b : Asg) : Env := ⟨fun i => match asgGet a i with | some e => e.den ρ | none => ρ.v i, fun q => match asgGet b q with | some e => e.tden ρ | none => ρ.t q⟩
def varSb (a : Asg) (i : Nat) : E := match asgGet a i with | some e => e | none => .var i
def tvSb (b : Asg) (q : Nat) : E := match asgGet b q with | some e => e | none => .tv q
def E.sb (a b : Asg) : E → E
  | .lit n => .lit n
  | .var i => varSb a i
  | .tv q => tvSb b q
  | .get t i j => .get (t.sb a b) (i.sb a b) j
  | .upd t i j v => .upd (t.sb a b) (i.sb a b) j (v.sb a b)
  | .un o x => .un o (x.sb a b)
  | .bin o x y => .bin o (x.sb a b) (y.sb a b)
  | .ite c x y => .ite (c.sb a b) (x.sb a b) (y.sb a b)
  | .app f x y => .app f (x.sb a b) (y.sb a b)
theorem varSb_den (ρ : Env) (a b : Asg) (i : Nat) : (varSb a i).den ρ = (ρ.puts a b).v i := by
  unfold varSb Env.puts
  simp only
  cases asgGet a i <;> rfl
theorem tvSb_den (ρ : Env) (a b : Asg) (q : Nat) : (tvSb b q).tden ρ = (ρ.puts a b).t q := by
  unfold tvSb Env.puts
  simp only
  cases asgGet b q <;> rfl
/-- Is it a number (0), a table (1), a pair of tables (2) by its looks? -/
def shapeI : E → Nat → Bool
  | .lit _, n => Nat.beq n 0
  | .var _, n => Nat.beq n 0
  | .tv _, n => Nat.beq n 1
  | .get t i _, n => Nat.beq n 0 && (shapeI t 1 && shapeI i 0)
  | .upd t i _ v, n => Nat.beq n 1 && (shapeI t 1 && (shapeI i 0 && shapeI v 0))
  | .un _ a, n => Nat.beq n 0 && shapeI a 0
  | .bin _ a b, n => Nat.beq n 0 && (shapeI a 0 && shapeI b 0)
  | .ite c a b, n => shapeI c 0 && (Nat.blt n 2 && (shapeI a n && shapeI b n))
  | .app f a b, n => match f with
      | 0 => Nat.beq n 1 && (shapeI a 1 && shapeI b 0)
      | 1 => Nat.beq n 0 && (shapeI a 2 && shapeI b 0)
      | 2 => Nat.beq n 2 && (shapeI a 1 && shapeI b 1)
      | 3 => Nat.beq n 1 && (shapeI a 2 && shapeI b 0)
      | 4 => Nat.beq n 1 && (shapeI a 1 && shapeI b 0)
      | f => (match Nat.ble 48 f with | true => Nat.beq n 0 | false => Nat.beq n 1) && (shapeI a 2 && shapeI b 0)
theorem sb_all (ρ : Env) (a b : Asg) (e : E) : (shapeI e 0 = true → (e.sb a b).den ρ = e.den (ρ.puts a b)) ∧ (shapeI e 1 = true → (e.sb a b).tden ρ = e.tden (ρ.puts a b)) ∧
    (shapeI e 2 = true → (e.sb a b).tden ρ = e.tden (ρ.puts a b) ∧ (e.sb a b).t2den ρ = e.t2den (ρ.puts a b)) := by
  induction e with
  | lit n => exact ⟨fun _ => rfl, fun h => by simp [shapeI] at h, fun h => by simp [shapeI] at h⟩
  | var i => exact ⟨fun _ => varSb_den ρ a b i, fun h => by simp [shapeI] at h, fun h => by simp [shapeI] at h⟩
  | tv q => exact ⟨fun h => by simp [shapeI] at h, fun _ => tvSb_den ρ a b q, fun h => by simp [shapeI] at h⟩
  | get t i j ht hi =>
    refine ⟨fun h => ?_, fun h => by simp [shapeI] at h, fun h => by simp [shapeI] at h⟩
    simp only [shapeI, Bool.and_eq_true] at h
    simp only [E.sb, E.den, ht.2.1 h.2.1, hi.1 h.2.2]
  | upd t i j v ht hi hv =>
    refine ⟨fun h => by simp [shapeI] at h, fun h => ?_, fun h => by simp [shapeI] at h⟩
    simp only [shapeI, Bool.and_eq_true] at h
    simp only [E.sb, E.tden, ht.2.1 h.2.1, hi.1 h.2.2.1, hv.1 h.2.2.2]
  | un o x hx =>
    refine ⟨fun h => ?_, fun h => by simp [shapeI] at h, fun h => by simp [shapeI] at h⟩
    simp only [shapeI, Bool.and_eq_true] at h
    simp only [E.sb, E.den, hx.1 h.2]
  | bin o x y hx hy =>
    refine ⟨fun h => ?_, fun h => by simp [shapeI] at h, fun h => by simp [shapeI] at h⟩
    simp only [shapeI, Bool.and_eq_true] at h
    simp only [E.sb, E.den, hx.1 h.2.1, hy.1 h.2.2]
  | ite c x y hc hx hy =>
    refine ⟨fun h => ?_, fun h => ?_, fun h => ?_⟩
    · simp only [shapeI, Bool.and_eq_true] at h
      simp only [E.sb, E.den, hc.1 h.1, hx.1 h.2.2.1, hy.1 h.2.2.2]
    · simp only [shapeI, Bool.and_eq_true] at h
      simp only [E.sb, E.tden, hc.1 h.1, hx.2.1 h.2.2.1, hy.2.1 h.2.2.2]
    · simp [shapeI] at h
  | app f x y hx hy =>
    match f with
    | 0 =>
      refine ⟨fun h => by simp [shapeI] at h, fun h => ?_, fun h => by simp [shapeI] at h⟩
      simp only [shapeI, Bool.and_eq_true] at h
      simp only [E.sb, E.tden, hx.2.1 h.2.1, hy.1 h.2.2]
    | 1 =>
      refine ⟨fun h => ?_, fun h => by simp [shapeI] at h, fun h => by simp [shapeI] at h⟩
      simp only [shapeI, Bool.and_eq_true] at h
      simp only [E.sb, E.den, (hx.2.2 h.2.1).1, (hx.2.2 h.2.1).2, hy.1 h.2.2]
    | 2 =>
      refine ⟨fun h => by simp [shapeI] at h, fun h => by simp [shapeI] at h, fun h => ?_⟩
      simp only [shapeI, Bool.and_eq_true] at h
      simp only [E.sb, E.tden, E.t2den, hx.2.1 h.2.1, hy.2.1 h.2.2, and_self]
    | 3 =>
      refine ⟨fun h => by simp [shapeI] at h, fun h => ?_, fun h => by simp [shapeI] at h⟩
      simp only [shapeI, Bool.and_eq_true] at h
      simp only [E.sb, E.tden, (hx.2.2 h.2.1).1, (hx.2.2 h.2.1).2, hy.1 h.2.2]
    | 4 =>
      refine ⟨fun h => by simp [shapeI] at h, fun h => ?_, fun h => by simp [shapeI] at h⟩
      simp only [shapeI, Bool.and_eq_true] at h
      simp only [E.sb, E.tden, hx.2.1 h.2.1, hy.1 h.2.2]
    | n + 5 =>
      refine ⟨fun h => ?_, fun h => ?_, fun h => ?_⟩
      · simp only [shapeI, Bool.and_eq_true] at h
        simp only [E.sb, E.den, (hx.2.2 h.2.1).1, (hx.2.2 h.2.1).2, hy.1 h.2.2]
      · simp only [shapeI, Bool.and_eq_true] at h
        simp only [E.sb, E.tden, (hx.2.2 h.2.1).1, (hx.2.2 h.2.1).2, hy.1 h.2.2]
      · simp only [shapeI, Bool.and_eq_true] at h
        have := h.1
        split at this <;> simp at this
def E.flatT (e : E) : Bool := shapeI e 0
def E.flatB (e : E) : Bool := shapeI e 1
theorem sb_den (ρ : Env) (a b : Asg) (e : E) (h : e.flatT = true) : (e.sb a b).den ρ = e.den (ρ.puts a b) := (sb_all ρ a b e).1 h
theorem sb_tden (ρ : Env) (a b : Asg) (e : E) (h : e.flatB = true) : (e.sb a b).tden ρ = e.tden (ρ.puts a b) := (sb_all ρ a b e).2.1 h
def asgOf : Pairs → Asg → Asg
  | [], a => a
  | (e, .var i) :: r, a => match Nat.ble 100 i && (asgGet a i).isNone with
    | true => e.deepK fun e => asgOf r ((i, e) :: a)
    | false => asgOf r a
  | _ :: r, a => asgOf r a
def tasgOf : TPairs → Asg → Asg
  | [], a => a
  | (e, .tv i, _) :: r, a => match Nat.ble 100 i && (asgGet a i).isNone with
    | true => e.deepK fun e => tasgOf r ((i, e) :: a)
    | false => tasgOf r a
  | _ :: r, a => tasgOf r a
/-- Is it 0 or 1? -/
def isB (e : E) : Bool := match e with
  | .bin .eq _ _ => true
  | .bin .lt _ _ => true
  | .bin .beq _ _ => true
  | .un .not _ => true
  | _ => false
theorem isB_den {e : E} (h : isB e = true) (ρ : Env) : e.den ρ = 0 ∨ e.den ρ = 1 := by
  cases e with
  | bin o a b => cases o <;> simp only [isB, Bool.false_eq_true] at h <;> (simp only [E.den, BO.den]; split <;> simp)
  | un o a => cases o <;> simp only [isB, Bool.false_eq_true] at h <;> (simp only [E.den, UO.den]; split <;> simp)
  | _ => simp only [isB, Bool.false_eq_true] at h
/-- A test that is decided, and a literal. -/
def sameB (k : Known) (n : Int) (y : E) : Bool := match isB y with
  | true => (match dec k y with
    | some true => ieq n 1
    | some false => ieq n 0
    | none => false)
  | false => false
theorem sameB_ok {ρ : Env} {k : Known} (hk : Known.holds ρ k) {n : Int} {y : E} (h : sameB k n y = true) : n = y.den ρ := by
  unfold sameB at h
  split at h
  · rename_i hb
    have hb := isB_den hb ρ
    split at h
    · rename_i hd
      have := (dec_sound hk hd).2 rfl
      rw [ieq_eq h]; omega
    · rename_i hd
      have := dec_sound hk hd
      have : y.den ρ = 0 := by
        by_cases h0 : y.den ρ = 0
        · exact h0
        · exact absurd (this.1 h0) (by simp)
      rw [ieq_eq h, this]
    · cases h
  · cases h
def sameN (k : Known) (x y : E) : Bool := match x with
  | .lit n => sameB k n y
  | x => (match y with
    | .lit n => sameB k n x
    | _ => false)
theorem sameN_ok {ρ : Env} {k : Known} (hk : Known.holds ρ k) {x y : E} (h : sameN k x y = true) : x.den ρ = y.den ρ := by
  unfold sameN at h
  split at h
  · exact sameB_ok hk h
  · split at h
    · exact (sameB_ok hk h).symm
    · cases h
/-- A choice that is decided. -/
def resolve (k : Known) : E → E
  | .ite c a b => (match dec k c with
    | some true => resolve k a
    | some false => resolve k b
    | none => .ite c a b)
  | e => e
theorem resolve_den {ρ : Env} {k : Known} (hk : Known.holds ρ k) : ∀ e : E, (resolve k e).den ρ = e.den ρ
  | .ite c a b => by
    unfold resolve
    split
    · rename_i hd
      have h1 := (dec_sound hk hd).2 rfl
      rw [resolve_den hk a]
      simp only [E.den]
      rw [if_neg h1]
    · rename_i hd
      have h1 : c.den ρ = 0 := by
        have := dec_sound hk hd
        by_cases h0 : c.den ρ = 0
        · exact h0
        · exact absurd (this.1 h0) (by simp)
      rw [resolve_den hk b]
      simp only [E.den]
      rw [if_pos h1]
    · rfl
  | .lit _ | .var _ | .tv _ | .get _ _ _ | .un _ _ | .bin _ _ _ | .upd _ _ _ _ | .app _ _ _ => by simp only [resolve]
/-- Is one at most the other? By looks, by a comparison, by bounds. -/
def leK (k : Known) (x y : E) : Bool := match relLe0 k 0 x y with
  | true => true
  | false => (match relLe0 k 0 (norm k x) (norm k y) with
    | true => true
    | false => (match (bnd k (norm k x)).2, (bnd k (norm k y)).1 with
      | some h, some l => ile h l
      | _, _ => false))
theorem leK_ok {ρ : Env} {k : Known} (hk : Known.holds ρ k) {x y : E} (h : leK k x y = true) : x.den ρ ≤ y.den ρ := by
  unfold leK at h
  split at h
  · rename_i h1; have := relLe0_ok hk h1; omega
  · split at h
    · rename_i h1
      have := relLe0_ok hk h1
      rw [norm_den hk, norm_den hk] at this
      omega
    · split at h
      · rename_i a b ha hb
        have h1 := (bnd_has hk (norm k x)).2 _ ha
        have h2 := (bnd_has hk (norm k y)).1 _ hb
        rw [norm_den hk] at h1 h2
        have := ile_iff.1 h
        omega
      · cases h
def sameK (k : Known) (x y : E) : Bool := match x.same y with
  | true => true
  | false => (match isT (dec k (.bin .eq x y)) with
    | true => true
    | false => (match sameN k (norm k x) (norm k y) with
      | true => true
      | false => (match (norm k (resolve k (norm k x))).same (norm k (resolve k (norm k y))) with
        | true => true
        | false => leK k x y && leK k y x)))
theorem sameK_ok {ρ : Env} {k : Known} (hk : Known.holds ρ k) {x y : E} (h : sameK k x y = true) : x.den ρ = y.den ρ := by
  unfold sameK at h
  split at h
  · rename_i hs; rw [E.same_eq hs]
  · split at h
    · rename_i hT
      cases hd : dec k (.bin .eq x y) with
      | none => rw [hd] at hT; cases hT
      | some b =>
        rw [hd] at hT
        simp only [isT] at hT
        subst hT
        exact (eq_iff.1 (dec_sound hk hd)).2 rfl
    · split at h
      · rename_i h3
        have h2 := sameN_ok hk h3
        rwa [norm_den hk, norm_den hk] at h2
      · split at h
        · rename_i h3
          have h2 := congrArg (E.den ρ) (E.same_eq h3)
          rwa [norm_den hk, norm_den hk, resolve_den hk, resolve_den hk, norm_den hk, norm_den hk] at h2
        · simp only [Bool.and_eq_true] at h
          have h1 := leK_ok hk h.1
          have h2 := leK_ok hk h.2
          omega
def eqsOk (k : Known) (a b : Asg) : Pairs → Bool
  | [] => true
  | (e, e') :: r => match e'.flatT && sameK k e (e'.sb a b) with | true => eqsOk k a b r | false => false
theorem eqsOk_ok {ρ : Env} {k : Known} (hk : Known.holds ρ k) {a b : Asg} : ∀ {ps : Pairs}, eqsOk k a b ps = true → ∀ p ∈ ps, p.1.den ρ = p.2.den (ρ.puts a b)
  | [], _, p, h => by cases h
  | (e, e') :: r, h, p, hp => by
    unfold eqsOk at h
    split at h
    · rename_i hs
      simp only [Bool.and_eq_true] at hs
      rcases List.mem_cons.1 hp with rfl | hp
      · rw [← sb_den ρ a b e' hs.1]; exact sameK_ok hk hs.2
      · exact eqsOk_ok hk h p hp
    · cases h
def loOk (a : Option Int) : Option Int → Bool
  | none => true
  | some n => match a with | some m => ile n m | none => false
def hiOk (a : Option Int) : Option Int → Bool
  | none => true
  | some n => match a with | some m => ile m n | none => false
theorem ile_le {a b : Int} (h : ile a b = true) : a ≤ b := ile_iff.1 h
theorem bd_in {r s : Bd} {n : Int} (h : r.has n) (h1 : loOk r.1 s.1 = true) (h2 : hiOk r.2 s.2 = true) : s.has n := by
  constructor
  · intro m hm
    rw [hm] at h1
    unfold loOk at h1
    simp only at h1
    split at h1
    · rename_i x hx; exact Int.le_trans (ile_le h1) (h.1 _ hx)
    · cases h1
  · intro m hm
    rw [hm] at h2
    unfold hiOk at h2
    simp only at h2
    split at h2
    · rename_i x hx; exact Int.le_trans (h.2 _ hx) (ile_le h2)
    · cases h2
def bdOk1 (k : Known) (e : E) (r : Bd) : Bool := (norm k e).deepK fun e => match bnd k e with | (lo, hi) => loOk lo r.1 && hiOk hi r.2
def bdOk (k : Known) (e : E) (r : Bd) : Bool := match bdOk1 k e r with
  | true => true
  | false => match r with
    | (some lo, some hi) => ieq lo hi && isT (dec k (.bin .eq e (.lit lo)))
    | _ => false
theorem bdOk1_ok {ρ : Env} {k : Known} (hk : Known.holds ρ k) {e : E} {r : Bd} (h : bdOk1 k e r = true) : r.has (e.den ρ) := by
  unfold bdOk1 at h
  rw [E.deepK_eq] at h
  simp only [Bool.and_eq_true] at h
  have := bnd_has hk (norm k e)
  rw [norm_den hk] at this
  exact bd_in this h.1 h.2
theorem bdOk_ok {ρ : Env} {k : Known} (hk : Known.holds ρ k) {e : E} {r : Bd} (h : bdOk k e r = true) : r.has (e.den ρ) := by
  unfold bdOk at h
  split at h
  · rename_i h1; exact bdOk1_ok hk h1
  · obtain ⟨lo?, hi?⟩ := r
    cases lo? <;> cases hi? <;> simp only [Bool.false_eq_true] at h
    · rename_i lo hi
      simp only [Bool.and_eq_true] at h
      have e1 := (ieq_eq h.1).symm
      subst e1
      cases hd : dec k (.bin .eq e (.lit lo)) with
      | none => rw [hd] at h; cases h.2
      | some b =>
        rw [hd] at h
        have hb : b = true := h.2
        subst hb
        have := (eq_iff.1 (dec_sound hk hd)).2 rfl
        simp only [E.den] at this
        exact ⟨fun m hm => by cases hm; omega, fun m hm => by cases hm; omega⟩
/-! ### what follows from a comparison -/
def relT (k : Known) (y x : E × Int) (t : E × Bool) : Bool := match t with
  | (.bin .lt a b, v) => (match exactOff k (norm k a), exactOff k (norm k b) with
    | some (ba, oa), some (bb, ob) => (match v with
      | false => bb.same y.1 && (ba.same x.1 && ile ((oa - x.2) + (y.2 - ob)) 0)
      | true => ba.same y.1 && (bb.same x.1 && ile ((ob - x.2) + (y.2 - oa)) 1))
    | _, _ => false)
  | _ => false
theorem relT_ok {ρ : Env} {k : Known} (hk : Known.holds ρ k) {y x : E × Int} {t : E × Bool} (ht : t.1.den ρ ≠ 0 ↔ t.2 = true) (h : relT k y x t = true) : y.1.den ρ + y.2 ≤ x.1.den ρ + x.2 := by
  unfold relT at h
  split at h
  · rename_i a b v
    split at h
    · rename_i ba oa bb ob h1 h2
      have e1 := exactOff_ok hk h1
      have e2 := exactOff_ok hk h2
      rw [norm_den hk] at e1 e2
      have hl := lt_den ht
      split at h
      · simp only [Bool.and_eq_true] at h
        have g1 := E.same_eq h.1; have g2 := E.same_eq h.2.1; have g3 := ile_iff.1 h.2.2
        rw [g1] at e2; rw [g2] at e1
        simp only [Bool.false_eq_true, iff_false] at hl
        omega
      · simp only [Bool.and_eq_true] at h
        have g1 := E.same_eq h.1; have g2 := E.same_eq h.2.1; have g3 := ile_iff.1 h.2.2
        rw [g1] at e1; rw [g2] at e2
        simp only [iff_true] at hl
        omega
    · cases h
  · cases h
/-- Is y, and d, at most x? -/
def relLe (k : Known) (d : Int) (y x : E) : Bool := match exactOff k (norm k y), exactOff k (norm k x) with
  | some (by_, oy), some x' => (by_.same x'.1 && ile (oy + d) x'.2) || k.tr.any (relT k (by_, oy + d) x')
  | _, _ => false
theorem relLe_ok {ρ : Env} {k : Known} (hk : Known.holds ρ k) {d : Int} {y x : E} (h : relLe k d y x = true) : y.den ρ + d ≤ x.den ρ := by
  unfold relLe at h
  split at h
  · rename_i by_ oy x' h1 h2
    have e1 := exactOff_ok hk h1
    have e2 := exactOff_ok hk (show exactOff k (norm k x) = some (x'.1, x'.2) from h2)
    rw [norm_den hk] at e1 e2
    rcases Bool.or_eq_true_iff.1 h with h | h
    · simp only [Bool.and_eq_true] at h
      have g1 := E.same_eq h.1; have g2 := ile_iff.1 h.2
      rw [g1] at e1
      omega
    · obtain ⟨t, ht, hr⟩ := List.any_eq_true.1 h
      have := relT_ok hk (hk.tr t ht) hr
      simp only at this
      omega
  · cases h
def relH (k : Known) (y : E × Int) (hi : Int) (t : E × Bool) : Bool := match t with
  | (.bin .lt a b, v) => (match v with
    | false => (match exactOff k (norm k b), (bnd k (norm k a)).2 with
      | some (bb, ob), some h => bb.same y.1 && ile (h + (y.2 - ob)) hi
      | _, _ => false)
    | true => (match exactOff k (norm k a), (bnd k (norm k b)).2 with
      | some (ba, oa), some h => ba.same y.1 && ile (h + (y.2 - oa)) (hi + 1)
      | _, _ => false))
  | _ => false
theorem relH_ok {ρ : Env} {k : Known} (hk : Known.holds ρ k) {y : E × Int} {hi : Int} {t : E × Bool} (ht : t.1.den ρ ≠ 0 ↔ t.2 = true) (h : relH k y hi t = true) : y.1.den ρ + y.2 ≤ hi := by
  unfold relH at h
  split at h
  · rename_i a b v
    have hl := lt_den ht
    split at h
    · split at h
      · rename_i bb ob m h1 h2
        have e1 := exactOff_ok hk h1
        have e2 := (bnd_has hk (norm k a)).2 _ h2
        rw [norm_den hk] at e1 e2
        simp only [Bool.and_eq_true] at h
        have g1 := E.same_eq h.1; have g2 := ile_iff.1 h.2
        rw [g1] at e1
        simp only [Bool.false_eq_true, iff_false] at hl
        omega
      · cases h
    · split at h
      · rename_i ba oa m h1 h2
        have e1 := exactOff_ok hk h1
        have e2 := (bnd_has hk (norm k b)).2 _ h2
        rw [norm_den hk] at e1 e2
        simp only [Bool.and_eq_true] at h
        have g1 := E.same_eq h.1; have g2 := ile_iff.1 h.2
        rw [g1] at e1
        simp only [iff_true] at hl
        omega
      · cases h
  · cases h
def relHi (k : Known) (e : E) (hi : Int) : Bool := match exactOff k (norm k e) with
  | some y => k.tr.any (relH k y hi)
  | none => false
theorem relHi_ok {ρ : Env} {k : Known} (hk : Known.holds ρ k) {e : E} {hi : Int} (h : relHi k e hi = true) : e.den ρ ≤ hi := by
  unfold relHi at h
  split at h
  · rename_i y h1
    have e1 := exactOff_ok hk (show exactOff k (norm k e) = some (y.1, y.2) from h1)
    rw [norm_den hk] at e1
    obtain ⟨t, ht, hr⟩ := List.any_eq_true.1 h
    have := relH_ok hk (hk.tr t ht) hr
    omega
  · cases h
/-- Bounds, the upper one from a comparison. -/
def bdOkR (k : Known) (e : E) (r : Bd) : Bool := match bdOk k e r with
  | true => true
  | false => (match r with
    | (lo, some hi) => bdOk k e (lo, none) && relHi k e hi
    | _ => false)
theorem bdOkR_ok {ρ : Env} {k : Known} (hk : Known.holds ρ k) {e : E} {r : Bd} (h : bdOkR k e r = true) : r.has (e.den ρ) := by
  unfold bdOkR at h
  split at h
  · rename_i h1; exact bdOk_ok hk h1
  · split at h
    · rename_i lo hi
      simp only [Bool.and_eq_true] at h
      have h1 := bdOk_ok hk h.1
      have h2 := relHi_ok hk h.2
      exact ⟨fun m hm => h1.1 m hm, fun m hm => by cases hm; exact h2⟩
    · cases h
/-- A comparison from another one. -/
def ltOk (k : Known) (v : Bool) : E → Bool
  | .bin .lt x y => (match v with | false => relLe k 0 y x | true => relLe k 1 x y)
  | _ => false
theorem ltOk_ok {ρ : Env} {k : Known} (hk : Known.holds ρ k) {v : Bool} {e : E} (h : ltOk k v e = true) : e.den ρ ≠ 0 ↔ v = true := by
  unfold ltOk at h
  split at h
  · rename_i x y
    refine lt_iff.2 ?_
    cases v
    · have := relLe_ok hk h
      constructor
      · intro hh; omega
      · intro hh; cases hh
    · have := relLe_ok hk h
      constructor
      · intro; rfl
      · intro; omega
  · cases h
def factOk (k : Known) (a b : Asg) : Fact → Bool
  | .tr e v => match e.flatT with | true => (match dec k (e.sb a b) with | some c => eqB01 v c | none => ltOk k v (e.sb a b)) | false => false
  | .rng e r => e.flatT && bdOkR k (e.sb a b) r
  | .rep _ _ => false
  | .sem _ _ _ _ => false
theorem factOk_ok {ρ : Env} {k : Known} (hk : Known.holds ρ k) {a b : Asg} {g : Fact} (h : factOk k a b g = true) : Fact.holds (ρ.puts a b) g := by
  cases g with
  | tr e v =>
    simp only [factOk] at h
    split at h
    · rename_i hf
      split at h
      · rename_i c hc
        have := dec_sound hk hc
        rw [sb_den ρ a b e hf] at this
        rw [eqB01_eq h]
        exact this
      · have := ltOk_ok hk h
        rw [sb_den ρ a b e hf] at this
        exact this
    · cases h
  | rng e r =>
    simp only [factOk, Bool.and_eq_true] at h
    have := bdOkR_ok hk h.2
    rw [sb_den ρ a b e h.1] at this
    exact this
  | rep i j => cases h
  | sem n P ts es => cases h
def factsOk (k : Known) (a b : Asg) : List Fact → Bool
  | [] => true
  | g :: r => match factOk k a b g with | true => factsOk k a b r | false => false
theorem factsOk_ok {ρ : Env} {k : Known} (hk : Known.holds ρ k) {a b : Asg} : ∀ {l : List Fact}, factsOk k a b l = true → ∀ g ∈ l, Fact.holds (ρ.puts a b) g
  | [], _, g, hg => by cases hg
  | x :: r, h, g, hg => by
    unfold factsOk at h
    split at h
    · rename_i hx
      rcases List.mem_cons.1 hg with rfl | hg
      · exact factOk_ok hk hx
      · exact factsOk_ok hk h g hg
    · cases h
/-- Counts: one that stays; one that goes up by one, and had not come to its end. -/
def cntOk1 (k : Known) (a : Asg) (c : Nat) : Option Int → Bool
  | none => (match asgGet a c with | none => true | some e => sameK k e (.var c))
  | some B => match asgGet a c with
    | some e => sameK k e (.bin (.add .i64) (.var c) (.lit (.ofNat 1))) && (bdOkR k (.var c) (some (.negSucc 9223372036854775807), some (B - 1)) && ile B (.ofNat 9223372036854775807))
    | none => false
def cntOk (k : Known) (a : Asg) : List (Nat × Option Int) → Bool
  | [] => true
  | (c, B) :: r => match cntOk1 k a c B with | true => cntOk k a r | false => false
theorem cntOk1_ok {ρ : Env} {k : Known} (hk : Known.holds ρ k) {a b : Asg} {c : Nat} {B : Option Int} (h : cntOk1 k a c B = true) : cntLt1 ρ (ρ.puts a b) c B := by
  cases B with
  | none =>
    simp only [cntOk1] at h
    simp only [cntLt1, Env.puts]
    cases hg : asgGet a c with
    | none => rfl
    | some e =>
      rw [hg] at h
      have := sameK_ok hk h
      simpa [E.den] using this
  | some B =>
    simp only [cntOk1] at h
    cases hg : asgGet a c with
    | none => rw [hg] at h; cases h
    | some e =>
      rw [hg] at h
      simp only [Bool.and_eq_true] at h
      have h1 := sameK_ok hk h.1
      have h2 := bdOkR_ok hk h.2.1
      have h3 : B ≤ 9223372036854775807 := ile_le h.2.2
      have hlo : (-9223372036854775808 : Int) ≤ ρ.v c := h2.1 _ rfl
      have hhi : ρ.v c ≤ B - 1 := h2.2 _ rfl
      simp only [E.den, BO.den] at h1
      have h4 := h1.trans (wrap_i64 (z := ρ.v c + 1) (by omega))
      simp only [cntLt1, Env.puts, hg, h4]
      omega
theorem cntOk_ok {ρ : Env} {k : Known} (hk : Known.holds ρ k) {a b : Asg} : ∀ {l : List (Nat × Option Int)}, cntOk k a l = true → cntLt ρ (ρ.puts a b) l
  | [], _, p, hp => by cases hp
  | (c, B) :: r, h, p, hp => by
    simp only [cntOk] at h
    split at h
    · rename_i h1
      rcases List.mem_cons.1 hp with rfl | hp
      · exact cntOk1_ok hk h1
      · exact cntOk_ok hk h p hp
    · cases h
/-- A table without what was written behind row n. -/
def stripR (k : Known) (n : E) : E → E
  | .upd t i j v => (match relLe k 0 n i with | true => stripR k n t | false => .upd (stripR k n t) i j v)
  | .app 6 (.app 2 a b) m => (match relLe k 0 n m with | true => stripR k n a | false => .app 6 (.app 2 a b) m)
  | .app 3 (.app 2 a b) m => (match relLe k 0 n m with | true => stripR k n a | false => .app 3 (.app 2 a b) m)
  | .app 16 (.app 2 a _) _ => .app 16 (.app 2 (stripR k n a) (.tv 0)) (.lit (.ofNat 0))
  | e => e
theorem ordS_congr {t t' : Int → Nat → Int} {n : Int} (h : ∀ x, x < n → ∀ j, t x j = t' x j) : ∀ i : Nat, (i : Int) < n → ordS t i = ordS t' i
  | 0, _ => rfl
  | i + 1, hi => by
    have h1 := ordS_congr h i (by omega)
    have h2 := h i (by omega)
    have h3 := h ((i : Int) + 1) (by omega)
    simp only [ordS, h1, waitS, h2, h3]
theorem stripR_ok {ρ : Env} {k : Known} (hk : Known.holds ρ k) {n : E} (e : E) : ∀ {x : Int}, x < n.den ρ → ∀ jj : Nat, (stripR k n e).tden ρ x jj = e.tden ρ x jj := by
  fun_induction stripR k n e with
  | case1 t i j v h ih =>
    intro x hx jj
    have := relLe_ok hk h
    rw [ih hx]
    simp only [E.tden]
    rw [if_neg (by omega)]
  | case2 t i j v h ih => intro x hx jj; simp only [E.tden, ih hx]
  | case3 a b m h ih =>
    intro x hx jj
    have := relLe_ok hk h
    rw [ih hx]
    simp only [E.tden, specT]
    rw [if_pos (by omega)]
  | case4 a b m h => intro x hx jj; rfl
  | case5 a b m h ih =>
    intro x hx jj
    have := relLe_ok hk h
    rw [ih hx]
    simp only [E.tden]
    rw [if_pos (by omega)]
  | case6 a b m h => intro x hx jj; rfl
  | case7 a b m ih =>
    intro x hx jj
    simp only [E.tden, specT]
    split
    · rcases Int.lt_or_le x 0 with h0 | h0
      · rw [Int.toNat_of_nonpos (by omega)]; rfl
      · exact ordS_congr (fun y hy j => ih hy j) x.toNat (by omega)
    · rfl
  | case8 e _ _ _ _ => intro x hx jj; rfl
def colsOk (k : Known) (x y : E) (i : Nat) : Nat → Bool
  | 0 => true
  | c + 1 => match sameK k (mkGetK k x (.lit (.ofNat i)) c) (mkGetK k y (.lit (.ofNat i)) c) with | true => colsOk k x y i c | false => false
def rowsOk (k : Known) (x y : E) (c : Nat) : Nat → Bool
  | 0 => true
  | m + 1 => match colsOk k x y m c with | true => rowsOk k x y c m | false => false
theorem colsOk_ok {ρ : Env} {k : Known} (hk : Known.holds ρ k) {x y : E} {i : Nat} : ∀ {c : Nat}, colsOk k x y i c = true → ∀ j, j < c → x.tden ρ i j = y.tden ρ i j
  | 0, _, j, hj => absurd hj (Nat.not_lt_zero _)
  | c + 1, h, j, hj => by
    simp only [colsOk] at h
    split at h
    · rename_i hs
      have := sameK_ok hk hs
      rw [mkGetK_den hk, mkGetK_den hk] at this
      rcases Nat.lt_succ_iff_lt_or_eq.1 hj with hj | rfl
      · exact colsOk_ok hk h j hj
      · exact this
    · cases h
theorem rowsOk_ok {ρ : Env} {k : Known} (hk : Known.holds ρ k) {x y : E} {c : Nat} : ∀ {m : Nat}, rowsOk k x y c m = true → ∀ i, i < m → ∀ j, j < c → x.tden ρ (i : Int) j = y.tden ρ (i : Int) j
  | 0, _, i, hi => absurd hi (Nat.not_lt_zero _)
  | m + 1, h, i, hi => by
    simp only [rowsOk] at h
    split at h
    · rename_i hs
      rcases Nat.lt_succ_iff_lt_or_eq.1 hi with hi | rfl
      · exact rowsOk_ok hk h i hi
      · exact colsOk_ok hk hs
    · cases h
/-- Tables of few rows, row by row. -/
def fewOk (k : Known) (x y n : E) (c : Nat) : Bool := match n with
  | .lit (.ofNat m) => (match Nat.ble m 16 with | true => rowsOk k x y c m | false => false)
  | _ => false
def teqOk (k : Known) (x y : E) : Option (E × Nat) → Bool
  | none => x.same y
  | some (n, c) => (match x.same y with
    | true => true
    | false => (match (stripR k n x).same (stripR k n y) with
      | true => true
      | false => fewOk k x y (norm k n) c))
def teqsOk (k : Known) (a b : Asg) : TPairs → Bool
  | [] => true
  | (e, e', n) :: r => match e'.flatB && teqOk k (normT k e) (normT k (e'.sb a b)) n with | true => teqsOk k a b r | false => false
theorem teqsOk_ok {ρ : Env} {k : Known} (hk : Known.holds ρ k) {a b : Asg} : ∀ {ps : TPairs}, teqsOk k a b ps = true → ∀ p ∈ ps, TEqP ρ (ρ.puts a b) p
  | [], _, p, h => by cases h
  | (e, e', n) :: r, h, p, hp => by
    unfold teqsOk at h
    split at h
    · rename_i hs
      simp only [Bool.and_eq_true] at hs
      rcases List.mem_cons.1 hp with rfl | hp
      · have key : e'.tden (ρ.puts a b) = (normT k (e'.sb a b)).tden ρ := by rw [(norm2_den hk _).2.1, sb_tden ρ a b e' hs.1]
        have key2 : e.tden ρ = (normT k e).tden ρ := (norm2_den hk e).2.1.symm
        have h2 := hs.2
        cases n with
        | none =>
          simp only [teqOk] at h2
          simp only [TEqP]
          rw [key, key2, E.same_eq h2]
        | some nc =>
          obtain ⟨n, c⟩ := nc
          simp only [TEqP]
          simp only [teqOk] at h2
          intro i hi j hj
          rw [key, key2]
          split at h2
          · rename_i h3; rw [E.same_eq h3]
          · split at h2
            · rename_i h3
              have := congrArg (fun t => E.tden ρ t i j) (E.same_eq h3)
              simp only [stripR_ok hk _ hi j] at this
              exact this
            · unfold fewOk at h2
              split at h2
              · rename_i m hm
                have hn := norm_den hk n
                rw [hm] at hn
                simp only [E.den, Int.ofNat_eq_natCast] at hn
                split at h2
                · exact rowsOk_ok hk h2 i (by omega) j hj
                · cases h2
              · cases h2
      · exact teqsOk_ok hk h p hp
    · cases h
/-! ### rows that are the same -/
def ckvE (d : Nat) (e : E) : E := match Nat.beq d 9 with
  | true => .un .not (.un .not e)
  | false => .un (.wrap (kof (Nat.pred d))) e
theorem ckvE_den (ρ : Env) (d : Nat) (e : E) : (ckvE d e).den ρ = ckv d (e.den ρ) := by
  unfold ckvE ckv
  split
  · rename_i h
    rw [if_pos (Nat.eq_of_beq_eq_true h)]
    simp only [E.den, UO.den]
    by_cases h0 : e.den ρ = 0 <;> simp [h0]
  · rename_i h
    rw [if_neg (Nat.ne_of_beq_eq_false h)]
    rfl
def rowK (k : Known) (t u i : E) : List Nat → Nat → Bool
  | [], _ => true
  | d :: r, j => match sameK k (ckvE d (.get t i j)) (ckvE d (.get u i j)) with | true => rowK k t u i r (j + 1) | false => false
theorem rowK_ok {ρ : Env} {k : Known} (hk : Known.holds ρ k) {t u i : E} : ∀ {ds : List Nat} {j : Nat}, rowK k t u i ds j = true → rowEq (t.tden ρ) (u.tden ρ) (i.den ρ) ds j = true
  | [], _, _ => rfl
  | d :: r, j, h => by
    simp only [rowK] at h
    split at h
    · rename_i hs
      have := sameK_ok hk hs
      rw [ckvE_den, ckvE_den] at this
      simp only [E.den] at this
      simp only [rowEq, this, decide_true, rowK_ok hk h, Bool.and_self]
    · cases h
def rowsKnown (k : Known) (f : Nat) (t u n : E) : Bool := k.tr.any fun p => match p with
  | (.app f' (.app 2 t' u') m, true) => Nat.beq f f' && (t.same t' && (u.same u' && leK k n m))
  | _ => false
theorem eqRowsK_le {ds : List Nat} {t u : Int → Nat → Int} {n m : Int} (h : n ≤ m) (hm : eqRowsK ds t u m = true) : eqRowsK ds t u n = true := by
  unfold eqRowsK at hm ⊢
  rw [List.all_eq_true] at hm ⊢
  exact fun i hi => hm i (List.mem_range.2 (by have := List.mem_range.1 hi; omega))
theorem eqRowsK_succ {ds : List Nat} {t u : Int → Nat → Int} {n : Int} (h0 : 0 ≤ n) (h : eqRowsK ds t u n = true) (hr : rowEq t u n ds 0 = true) : eqRowsK ds t u (n + 1) = true := by
  unfold eqRowsK at h ⊢
  rw [List.all_eq_true] at h ⊢
  intro i hi
  have := List.mem_range.1 hi
  by_cases hin : i < n.toNat
  · exact h i (List.mem_range.2 hin)
  · have : (i : Int) = n := by omega
    rw [this]; exact hr
theorem app64_den {ρ : Env} {f : Nat} {t u n : E} (h : Nat.ble 64 f = true) : (E.app f (.app 2 t u) n).den ρ = b01 (eqRowsK (digs 60 (f - 64)) (t.tden ρ) (u.tden ρ) (n.den ρ)) := by
  have hne : f ≠ 1 := by rintro rfl; cases h
  simp only [E.den, specN, h, E.tden, E.t2den]
theorem b01_ne {b : Bool} : b01 b ≠ 0 ↔ b = true := by cases b <;> simp [b01]
theorem rowsKnown_ok {ρ : Env} {k : Known} (hk : Known.holds ρ k) {f : Nat} (h64 : Nat.ble 64 f = true) {t u n : E} (h : rowsKnown k f t u n = true) : eqRowsK (digs 60 (f - 64)) (t.tden ρ) (u.tden ρ) (n.den ρ) = true := by
  unfold rowsKnown at h
  obtain ⟨p, hp, hx⟩ := List.any_eq_true.1 h
  have ht := hk.tr p hp
  split at hx
  · rename_i f' t' u' m
    simp only [Bool.and_eq_true] at hx
    have e1 := Nat.eq_of_beq_eq_true hx.1
    have e2 := E.same_eq hx.2.1
    have e3 := E.same_eq hx.2.2.1
    have e4 := leK_ok hk hx.2.2.2
    subst e1; subst e2; subst e3
    simp only [app64_den h64, b01_ne, iff_true] at ht
    exact eqRowsK_le e4 ht
  · cases hx
/-- Are the rows of two tables known to be the same? -/
def rowsTrue (k : Known) (e : E) : Bool := match e with
  | .app f (.app 2 t u) n => (match Nat.ble 64 f with
    | true => (match rowsKnown k f t u n with
      | true => true
      | false => (match exactOff k n with
        | some (m, a) => ieq a 1 && (geZ k m && (rowsKnown k f t u m && rowK k t u m (digs 60 (f - 64)) 0))
        | none => false))
    | false => false)
  | _ => false
theorem rowsTrue_ok {ρ : Env} {k : Known} (hk : Known.holds ρ k) {e : E} (h : rowsTrue k e = true) : e.den ρ = 1 := by
  unfold rowsTrue at h
  split at h
  · rename_i f t u n
    split at h
    · rename_i h64
      have key : eqRowsK (digs 60 (f - 64)) (t.tden ρ) (u.tden ρ) (n.den ρ) = true := by
        split at h
        · rename_i h1; exact rowsKnown_ok hk h64 h1
        · split at h
          · rename_i m a hm
            simp only [Bool.and_eq_true] at h
            have e1 := exactOff_ok hk hm
            have e2 := ieq_eq h.1
            rw [e1, e2]
            exact eqRowsK_succ (geZ_ok hk h.2.1) (rowsKnown_ok hk h64 h.2.2.1) (rowK_ok hk h.2.2.2)
          · cases h
      rw [app64_den h64, key]
      rfl
    · cases h
  · cases h
/-- A row held against another, column by column: do the rows' kinds say so too? -/
def eqCol (ds : List Nat) (t u i : E) : E → Bool
  | .bin .eq (.un (.wrap q) (.get t' i' j)) (.un (.wrap q') (.get u' i'' j')) => keq q q' && (Nat.beq j j' && (t.same t' && (u.same u' && (i.same i' && (i.same i'' && (match ds[j]? with | some d => Nat.beq d (kcode q + 1) | none => false))))))
  | .bin .beq (.un .not (.un .not (.get t' i' j))) (.un .not (.un .not (.get u' i'' j'))) => Nat.beq j j' && (t.same t' && (u.same u' && (i.same i' && (i.same i'' && (match ds[j]? with | some d => Nat.beq d 9 | none => false)))))
  | _ => false
def rowTest (ds : List Nat) (t u i : E) : E → Bool
  | .ite c r (.lit n) => ieq n 0 && (eqCol ds t u i c && rowTest ds t u i r)
  | .lit n => !ieq n 0
  | c => eqCol ds t u i c
theorem rowEq_get {t u : Int → Nat → Int} {i : Int} : ∀ {ds : List Nat} {j0 : Nat}, rowEq t u i ds j0 = true → ∀ (j d : Nat), ds[j]? = some d → ckv d (t i (j0 + j)) = ckv d (u i (j0 + j))
  | [], _, _, j, d, hd => by simp at hd
  | d0 :: r, j0, h, j, d, hd => by
    simp only [rowEq, Bool.and_eq_true, decide_eq_true_eq] at h
    cases j with
    | zero => simp only [List.getElem?_cons_zero, Option.some.injEq] at hd; subst hd; exact h.1
    | succ j =>
      simp only [List.getElem?_cons_succ] at hd
      have := rowEq_get h.2 j d hd
      rw [show j0 + (j + 1) = j0 + 1 + j by omega]
      exact this
theorem eqCol_ok {ρ : Env} {ds : List Nat} {t u i : E} {c : E} (h : eqCol ds t u i c = true) (hr : rowEq (t.tden ρ) (u.tden ρ) (i.den ρ) ds 0 = true) : c.den ρ ≠ 0 := by
  unfold eqCol at h
  split at h
  · rename_i q t' i' j q' u' i'' j'
    simp only [Bool.and_eq_true] at h
    obtain ⟨h1, h2, h3, h4, h5, h6, h7⟩ := h
    have h1 := keq_eq h1
    have h2 := Nat.eq_of_beq_eq_true h2
    have h3 := E.same_eq h3; have h4 := E.same_eq h4; have h5 := E.same_eq h5; have h6 := E.same_eq h6
    subst h1; subst h2; subst h3; subst h4; subst h5; subst h6
    split at h7
    · rename_i d hd
      have h7 := Nat.eq_of_beq_eq_true h7
      subst h7
      have := rowEq_get hr j _ hd
      simp only [Nat.zero_add] at this
      have hck : ∀ x, ckv (kcode q + 1) x = q.wrap x := fun x => by
        unfold ckv
        rw [if_neg (by cases q <;> decide), Nat.add_sub_cancel, kof_kcode]
      rw [hck, hck] at this
      simp only [E.den, UO.den, BO.den, this, if_true]
      omega
    · cases h7
  · rename_i t' i' j u' i'' j'
    simp only [Bool.and_eq_true] at h
    obtain ⟨h2, h3, h4, h5, h6, h7⟩ := h
    have h2 := Nat.eq_of_beq_eq_true h2
    have h3 := E.same_eq h3; have h4 := E.same_eq h4; have h5 := E.same_eq h5; have h6 := E.same_eq h6
    subst h2; subst h3; subst h4; subst h5; subst h6
    split at h7
    · rename_i d hd
      have h7 := Nat.eq_of_beq_eq_true h7
      subst h7
      have := rowEq_get hr j _ hd
      simp only [Nat.zero_add] at this
      unfold ckv at this
      simp only [if_true] at this
      simp only [E.den, UO.den, BO.den]
      by_cases a0 : t.tden ρ (i.den ρ) j = 0 <;> by_cases b0 : u.tden ρ (i.den ρ) j = 0 <;> simp [a0, b0] at this ⊢
    · cases h7
  · cases h
theorem rowTest_ok {ρ : Env} {ds : List Nat} {t u i : E} (hr : rowEq (t.tden ρ) (u.tden ρ) (i.den ρ) ds 0 = true) : ∀ {c : E}, rowTest ds t u i c = true → c.den ρ ≠ 0 := by
  intro c h
  fun_induction rowTest ds t u i c with
  | case1 c r n ih =>
    simp only [Bool.and_eq_true] at h
    simp only [E.den]
    rw [if_neg (eqCol_ok h.2.1 hr)]
    exact ih h.2.2
  | case2 n =>
    simp only [E.den]
    exact ieq_ne (by simpa using h)
  | case3 c _ _ => exact eqCol_ok h hr
/-- The row that a test is about. -/
def rowOf : E → Option E
  | .ite c _ _ => rowOf c
  | .bin .eq (.un _ (.get _ i _)) _ => some i
  | .bin .beq (.un .not (.un .not (.get _ i _))) _ => some i
  | _ => none
def rowsFalse (k : Known) (e : E) : Bool := match e with
  | .app f (.app 2 t u) n => (match Nat.ble 64 f with
    | true => k.tr.any fun p => match p with
      | (c, false) => (match rowOf c with
        | some i => rowTest (digs 60 (f - 64)) t u i c && (geZ k i && relLe0 k 1 i n)
        | none => false)
      | _ => false
    | false => false)
  | _ => false
theorem rowsFalse_ok {ρ : Env} {k : Known} (hk : Known.holds ρ k) {e : E} (h : rowsFalse k e = true) : e.den ρ = 0 := by
  unfold rowsFalse at h
  split at h
  · rename_i f t u n
    split at h
    · rename_i h64
      obtain ⟨p, hp, hx⟩ := List.any_eq_true.1 h
      have ht := hk.tr p hp
      split at hx
      · rename_i c
        split at hx
        · rename_i i hi
          simp only [Bool.and_eq_true] at hx
          have h1 := geZ_ok hk hx.2.1
          have h2 := relLe0_ok hk hx.2.2
          rw [app64_den h64]
          cases hb : eqRowsK (digs 60 (f - 64)) (t.tden ρ) (u.tden ρ) (n.den ρ) with
          | false => rfl
          | true =>
            unfold eqRowsK at hb
            rw [List.all_eq_true] at hb
            have h3 := hb (i.den ρ).toNat (List.mem_range.2 (by omega))
            rw [show (((i.den ρ).toNat : Nat) : Int) = i.den ρ by omega] at h3
            have := rowTest_ok h3 hx.1
            exact absurd (ht.1 this) Bool.false_ne_true
        · cases hx
      · cases hx
    · cases h
  · cases h
/-- Sameness, rows among it. -/
def sameX1 (k : Known) (x y : E) : Bool := match x with
  | .lit n => (match ieq n 1 with | true => rowsTrue k y | false => ieq n 0 && rowsFalse k y)
  | x => (match y with
    | .lit n => (match ieq n 1 with | true => rowsTrue k x | false => ieq n 0 && rowsFalse k x)
    | _ => false)
theorem sameX1_ok {ρ : Env} {k : Known} (hk : Known.holds ρ k) {x y : E} (h : sameX1 k x y = true) : x.den ρ = y.den ρ := by
  unfold sameX1 at h
  split at h
  · rename_i n
    split at h
    · rename_i hn
      rw [rowsTrue_ok hk h]
      simp only [E.den]; exact ieq_eq hn
    · simp only [Bool.and_eq_true] at h
      rw [rowsFalse_ok hk h.2]
      simp only [E.den]; exact ieq_eq h.1
  · split at h
    · rename_i n
      split at h
      · rename_i hn
        rw [rowsTrue_ok hk h]
        simp only [E.den]; exact (ieq_eq hn).symm
      · simp only [Bool.and_eq_true] at h
        rw [rowsFalse_ok hk h.2]
        simp only [E.den]; exact (ieq_eq h.1).symm
    · cases h
def sameX (k : Known) (x y : E) : Bool := match sameK k x y with
  | true => true
  | false => sameX1 k (norm k x) (norm k y)
theorem sameX_ok {ρ : Env} {k : Known} (hk : Known.holds ρ k) {x y : E} (h : sameX k x y = true) : x.den ρ = y.den ρ := by
  unfold sameX at h
  split at h
  · rename_i h1; exact sameK_ok hk h1
  · have := sameX1_ok hk h
    rwa [norm_den hk, norm_den hk] at this
def eqsR (k : Known) (a b : Asg) : Pairs → List Rsd
  | [] => []
  | (e, e') :: r => match e'.flatT with
    | true => (match sameX k e (e'.sb a b) with | true => eqsR k a b r | false => .eqn (norm k e) (norm k (e'.sb a b)) :: eqsR k a b r)
    | false => .bad :: eqsR k a b r
theorem eqsR_ok {ρ : Env} {k : Known} (hk : Known.holds ρ k) {a b : Asg} : ∀ {ps : Pairs}, (∀ r ∈ eqsR k a b ps, r.holds ρ) → ∀ p ∈ ps, p.1.den ρ = p.2.den (ρ.puts a b)
  | [], _, p, hp => by cases hp
  | (e, e') :: r, h, p, hp => by
    simp only [eqsR] at h
    split at h
    · rename_i hf
      split at h
      · rename_i hs
        rcases List.mem_cons.1 hp with rfl | hp
        · exact (sameX_ok hk hs).trans (sb_den ρ a b e' hf)
        · exact eqsR_ok hk h p hp
      · rcases List.mem_cons.1 hp with rfl | hp
        · have := h _ (List.mem_cons_self ..)
          simp only [Rsd.holds, norm_den hk] at this
          exact this.trans (sb_den ρ a b e' hf)
        · exact eqsR_ok hk (fun r hr => h r (List.mem_cons_of_mem _ hr)) p hp
    · exact (h _ (List.mem_cons_self ..)).elim
def teqsR (k : Known) (a b : Asg) : TPairs → List Rsd
  | [] => []
  | (e, e', n) :: r => match e'.flatB with
    | true => (match teqOk k (normT k e) (normT k (e'.sb a b)) n with | true => teqsR k a b r | false => .teq (normT k e) (normT k (e'.sb a b)) n :: teqsR k a b r)
    | false => .bad :: teqsR k a b r
theorem teqsR_ok {ρ : Env} {k : Known} (hk : Known.holds ρ k) {a b : Asg} : ∀ {ps : TPairs}, (∀ r ∈ teqsR k a b ps, r.holds ρ) → ∀ p ∈ ps, TEqP ρ (ρ.puts a b) p
  | [], _, p, hp => by cases hp
  | (e, e', n) :: r, h, p, hp => by
    simp only [teqsR] at h
    split at h
    · rename_i hf
      split at h
      · rename_i hs
        rcases List.mem_cons.1 hp with rfl | hp
        · exact teqsOk_ok hk (ps := [(e, e', n)]) (by simp only [teqsOk, hf, hs, Bool.and_self]) _ (List.mem_cons_self ..)
        · exact teqsR_ok hk h p hp
      · rcases List.mem_cons.1 hp with rfl | hp
        · have := h _ (List.mem_cons_self ..)
          simp only [Rsd.holds, TEqP, (norm2_den hk _).2.1, sb_tden ρ a b e' hf] at this ⊢
          exact this
        · exact teqsR_ok hk (fun r hr => h r (List.mem_cons_of_mem _ hr)) p hp
    · exact (h _ (List.mem_cons_self ..)).elim
def factR (k : Known) (a b : Asg) : Fact → List Rsd
  | .tr e v => (match factOk k a b (.tr e v) with | true => [] | false => (match e.flatT with | true => (match v && rowsTrue k (norm k (e.sb a b)) with | true => [] | false => [.fact (.tr (norm k (e.sb a b)) v)]) | false => [.bad]))
  | .rng e r => (match factOk k a b (.rng e r) with | true => [] | false => (match e.flatT with | true => [.fact (.rng (norm k (e.sb a b)) r)] | false => [.bad]))
  | .rep _ _ => [.bad]
  | .sem n P ts es => (match ts.all E.flatB && es.all E.flatT with | true => [.fact (.sem n P (ts.map fun e => normT k (e.sb a b)) (es.map fun e => norm k (e.sb a b)))] | false => [.bad])
theorem factR_ok {ρ : Env} {k : Known} (hk : Known.holds ρ k) {a b : Asg} {g : Fact} (h : ∀ r ∈ factR k a b g, r.holds ρ) : Fact.holds (ρ.puts a b) g := by
  cases g with
  | tr e v =>
    simp only [factR] at h
    split at h
    · rename_i h1; exact factOk_ok hk h1
    · split at h
      · rename_i hf
        split at h
        · rename_i hv
          simp only [Bool.and_eq_true] at hv
          have := rowsTrue_ok hk hv.2
          rw [norm_den hk, sb_den ρ a b e hf] at this
          simp only [Fact.holds, this, hv.1, iff_true]
          omega
        · have := h _ (List.mem_cons_self ..)
          simp only [Rsd.holds, Fact.holds, norm_den hk, sb_den ρ a b e hf] at this ⊢
          exact this
      · exact (h _ (List.mem_cons_self ..)).elim
  | rng e r =>
    simp only [factR] at h
    split at h
    · rename_i h1; exact factOk_ok hk h1
    · split at h
      · rename_i hf
        have := h _ (List.mem_cons_self ..)
        simp only [Rsd.holds, Fact.holds, norm_den hk, sb_den ρ a b e hf] at this ⊢
        exact this
      · exact (h _ (List.mem_cons_self ..)).elim
  | rep i j => exact (h _ (List.mem_cons_self ..)).elim
  | sem n P ts es =>
    simp only [factR] at h
    split at h
    · rename_i hf
      simp only [Bool.and_eq_true, List.all_eq_true] at hf
      have := h _ (List.mem_cons_self ..)
      simp only [Rsd.holds, Fact.holds, List.map_map] at this ⊢
      have h1 : ts.map ((fun e => e.tden ρ) ∘ fun e => normT k (e.sb a b)) = ts.map fun e => e.tden (ρ.puts a b) := List.map_congr_left fun e he => by
        show (normT k (e.sb a b)).tden ρ = _
        rw [(norm2_den hk _).2.1, sb_tden ρ a b e (hf.1 e he)]
      have h2 : es.map ((fun e => e.den ρ) ∘ fun e => norm k (e.sb a b)) = es.map fun e => e.den (ρ.puts a b) := List.map_congr_left fun e he => by
        simp only [Function.comp_apply, norm_den hk, sb_den ρ a b e (hf.2 e he)]
      rw [← h1, ← h2]
      exact this
    · exact (h _ (List.mem_cons_self ..)).elim
def factsR (k : Known) (a b : Asg) : List Fact → List Rsd
  | [] => []
  | g :: r => factR k a b g ++ factsR k a b r
theorem factsR_ok {ρ : Env} {k : Known} (hk : Known.holds ρ k) {a b : Asg} : ∀ {l : List Fact}, (∀ r ∈ factsR k a b l, r.holds ρ) → ∀ g ∈ l, Fact.holds (ρ.puts a b) g
  | [], _, g, hg => by cases hg
  | f :: r, h, g, hg => by
    simp only [factsR] at h
    rcases List.mem_cons.1 hg with rfl | hg
    · exact factR_ok hk fun x hx => h x (List.mem_append_left _ hx)
    · exact factsR_ok hk (fun x hx => h x (List.mem_append_right _ hx)) g hg
def cntR (k : Known) (a : Asg) (l : List (Nat × Option Int)) : List Rsd := match cntOk k a l with | true => [] | false => [.bad]
def solved (k : Known) (g : Tgt) (F : List Fact) (ps : Pairs) (ts : TPairs) : List Rsd :=
  match asgOf ps [], tasgOf ts [] with
  | a, b => eqsR k a b ps ++ (teqsR k a b ts ++ (factsR k a b F ++ cntR k a g.c))
theorem asgOf_high : ∀ {ps : Pairs} {a : Asg}, (∀ i, i < 100 → asgGet a i = none) → ∀ i, i < 100 → asgGet (asgOf ps a) i = none
  | [], a, h, i, hi => h i hi
  | (e, e') :: r, a, h, i, hi => by
    unfold asgOf
    split
    · rename_i h2; cases h2
    · rename_i e2 j r2 heq
      cases heq
      split
      · rename_i hj
        rw [E.deepK_eq]
        simp only [Bool.and_eq_true] at hj
        have := Nat.le_of_ble_eq_true hj.1
        refine asgOf_high (fun m hm => ?_) i hi
        simp only [asgGet]
        split
        · rename_i hb
          have := Nat.eq_of_beq_eq_true hb
          omega
        · exact h m hm
      · exact asgOf_high h i hi
    · rename_i heq
      cases heq
      exact asgOf_high h i hi
theorem tasgOf_high : ∀ {ps : TPairs} {a : Asg}, (∀ i, i < 100 → asgGet a i = none) → ∀ i, i < 100 → asgGet (tasgOf ps a) i = none
  | [], a, h, i, hi => h i hi
  | (e, e', n) :: r, a, h, i, hi => by
    unfold tasgOf
    split
    · rename_i h2; cases h2
    · rename_i e2 j n2 r2 heq
      cases heq
      split
      · rename_i hj
        rw [E.deepK_eq]
        simp only [Bool.and_eq_true] at hj
        have := Nat.le_of_ble_eq_true hj.1
        refine tasgOf_high (fun m hm => ?_) i hi
        simp only [asgGet]
        split
        · rename_i hb
          have := Nat.eq_of_beq_eq_true hb
          omega
        · exact h m hm
      · exact tasgOf_high h i hi
    · rename_i heq
      cases heq
      exact tasgOf_high h i hi
theorem puts_fix (ρ : Env) (ps : Pairs) (ts : TPairs) : Fix ρ (ρ.puts (asgOf ps []) (tasgOf ts [])) := fun i hi => by
  have h1 := asgOf_high (ps := ps) (a := []) (fun _ _ => rfl) i hi
  have h2 := tasgOf_high (ps := ts) (a := []) (fun _ _ => rfl) i hi
  simp only [Env.puts, h1, h2, and_self]
theorem solved_ok {ρ : Env} {k : Known} (hk : Known.holds ρ k) {g : Tgt} {F : List Fact} {ps : Pairs} {ts : TPairs} (h : ∀ r ∈ solved k g F ps ts, r.holds ρ) : ∃ ρ', Eqs ρ ρ' ps ts ∧ g.ok ρ F ρ' := by
  simp only [solved] at h
  have h4 : cntOk k (asgOf ps []) g.c = true := by
    have := fun r hr => h r (List.mem_append_right _ (List.mem_append_right _ (List.mem_append_right _ hr)))
    unfold cntR at this
    split at this
    · assumption
    · exact (this _ (List.mem_cons_self ..)).elim
  exact ⟨_, ⟨eqsR_ok hk fun r hr => h r (List.mem_append_left _ hr), teqsR_ok hk fun r hr => h r (List.mem_append_right _ (List.mem_append_left _ hr))⟩, puts_fix ρ ps ts,
    factsR_ok hk fun r hr => h r (List.mem_append_right _ (List.mem_append_right _ (List.mem_append_left _ hr))), cntOk_ok hk h4⟩
def settled (k : Known) (N : Option Tgt) (X : List (Nat × Tgt)) : What → List Rsd
  | .next F ps ts => (match N with | some g => solved k g F ps ts | none => [.bad])
  | .out i F ps ts => (match tgtOf X i with | some g => solved k g F ps ts | none => [.bad])
  | .done e => (match isT (dec k e) with | true => [] | false => [.done (norm k e)])
  | .fin ps ts => eqsR k [] [] ps ++ teqsR k [] [] ts
/-- How a run is made: types, functions, hints, fuel; the function, and what it should hand back. -/
structure Rn where
  ty : Tys
  fm : FuncId → Option Func
  hn : Hn
  n : Nat
  fn : Func
  R : Option Res
def lftOf (k : Known) : List Rsd → List Lft → List Lft
  | [], os => os
  | r :: rs, os => (k.tr, r :: rs) :: os
def obsB (x : Rn) (N : Option Tgt) (X : List (Nat × Tgt)) : Outs → Option (List Lft)
  | [] => some []
  | (k, y, s) :: r => match whatOf k x.ty x.fn x.R N X y s, obsB x N X r with
    | some o, some os => some (lftOf k (settled k N X o) os)
    | _, _ => none
def runBk (x : Rn) (l : List Code) (k : Known) (s : S) (N : Option Tgt) (X : List (Nat × Tgt)) : Option (List Lft) :=
  match execL (mkCfgM x.ty x.fm x.hn) x.n x.fn.ntmps l k s with
    | some outs => obsB x N X outs
    | none => none
/-- On a path of tests. -/
def runBP (x : Rn) (l : List Code) (facts : List Fact) (s : S) (N : Option Tgt) (X : List (Nat × Tgt)) (path : List (E × Bool)) : Option (List Lft) :=
  Known.addsK Known.nil facts fun k => assumesK k path fun k => runBk x l k s N X
theorem lftOf_ok {k : Known} {rs : List Rsd} {os : List Lft} : (∀ ob ∈ os, ob ∈ lftOf k rs os) ∧ (rs = [] ∨ (k.tr, rs) ∈ lftOf k rs os) := by
  cases rs with
  | nil => exact ⟨fun _ h => h, .inl rfl⟩
  | cons r rs => exact ⟨fun _ h => List.mem_cons_of_mem _ h, .inr (List.mem_cons_self ..)⟩
theorem obsB_ok {x : Rn} {N : Option Tgt} {X : List (Nat × Tgt)} : ∀ {outs : Outs} {obs : List Lft}, obsB x N X outs = some obs → ∀ o ∈ outs,
    ∃ wh, whatOf o.1 x.ty x.fn x.R N X o.2.1 o.2.2 = some wh ∧ ∀ ρ, Known.holds ρ o.1 → ObsOk ρ obs → ∀ r ∈ settled o.1 N X wh, r.holds ρ
  | [], obs, h, o, ho => by cases ho
  | (k, y, s) :: r, obs, h, o, ho => by
    simp only [obsB] at h
    split at h
    · rename_i wh os hw hos
      have ih := obsB_ok hos
      cases h
      have hl := lftOf_ok (k := k) (rs := settled k N X wh) (os := os)
      rcases List.mem_cons.1 ho with rfl | ho
      · refine ⟨wh, hw, fun ρ hk hob r hr => ?_⟩
        rcases hl.2 with h0 | h0
        · simp only at hr
          rw [h0] at hr
          cases hr
        · exact hob _ h0 hk.tr r hr
      · obtain ⟨wh', h1, h2⟩ := ih o ho
        exact ⟨wh', h1, fun ρ hk hob => h2 ρ hk fun ob hm => hob ob (hl.1 ob hm)⟩
    · cases h
def GoodP (x : Rn) (l : List Code) (facts : List Fact) (s : S) (N : Option Tgt) (X : List (Nat × Tgt)) (p : List (E × Bool)) : Prop :=
  ∃ obs, runBP x l facts s N X p = some obs ∧ ∀ ρ, (∀ g ∈ facts, Fact.holds ρ g) → ObsOk ρ obs
def GoodT (x : Rn) (l : List Code) (facts : List Fact) (s : S) (N : Option Tgt) (X : List (Nat × Tgt)) (t : DT) : Prop :=
  ∀ p ∈ t.paths, GoodP x l facts s N X p
/-- A part that has come to where it should. -/
def Meets (C : Ctx) (nt : Nat) (ρ : Env) (g : Tgt) (a : Act) (w : World) : Prop := ∃ ρ' β' t F, (t, F) ∈ (g.t, g.F) :: g.m ∧ g.ok ρ F ρ' ∧ TS C ρ' β' nt t.toS a w
def Post (P : Program) (x : Rn) (C : Ctx) (ρ : Env) (N : Option Tgt) (X : List (Nat × Tgt)) : Exit → Act → World → Prop
  | .normal, a, w => match N with | some g => Meets C x.fn.ntmps ρ g a w | none => EndAt P x.fn C x.R .normal a w
  | .exit b, a, w => match tgtOf X b with | some g => Meets C x.fn.ntmps ρ g a w | none => False
  | .ret, a, w => EndAt P x.fn C x.R .ret a w
  | _, _, _ => False
/-- The labels that stay, stay in all templates. -/
def resOk (C : Ctx) : Option Res → Prop
  | some r => C.n0 ≤ r.n0
  | none => True
structure LabsOk (C : Ctx) (R : Option Res) (N : Option Tgt) (X : List (Nat × Tgt)) : Prop where
  n : ∀ g, N = some g → ∀ p ∈ (g.t, g.F) :: g.m, C.n0 ≤ p.1.n0
  x : ∀ i g, tgtOf X i = some g → ∀ p ∈ (g.t, g.F) :: g.m, C.n0 ≤ p.1.n0
  r : resOk C R
theorem labsOk_zero {C : Ctx} (h : C.n0 = 0) (R : Option Res) (N : Option Tgt) (X : List (Nat × Tgt)) : LabsOk C R N X :=
  ⟨fun _ _ _ _ => by rw [h]; exact Nat.zero_le _, fun _ _ _ _ _ => by rw [h]; exact Nat.zero_le _, by cases R with | none => trivial | some r => simp only [resOk, h]; exact Nat.zero_le _⟩
section
variable {P : Program} {x : Rn} (hm : P.follows .mixedOrders = true) (hty : TysOk P x.ty) (hfn : FnOk P x.fm) (hct : ∀ ρ, CallOk P ρ x.hn.ct)
include hm hty hfn hct in
theorem run_Bk {l : List Code} {k0 : Known} {s : S} {N : Option Tgt} {X : List (Nat × Tgt)} {obs : List Lft}
    (hrun : runBk x l k0 s N X = some obs) {ρ : Env} (hk : Known.holds ρ k0) {C : Ctx} (hC : LabsOk C x.R N X) {β : Lab} {a : Act} {w : World} (hs : TS C ρ β x.fn.ntmps s a w) (hob : ObsOk ρ obs) : WPs P l (Post P x C ρ N X) a w := by
  unfold runBk at hrun
  split at hrun
  · rename_i outs houts
    refine execL_TS hm hty hfn hct houts hk hs fun o ho hok β' a' w' hts => ?_
    obtain ⟨wh, hwh, hin⟩ := obsB_ok hrun o ho
    obtain ⟨k, y, s'⟩ := o
    have done : ∀ y, (y = .ret ∨ y = .normal) → endOf x.ty x.fn x.R s' = some wh → EndAt P x.fn C x.R y a' w' := by
      intro y hy he
      unfold endOf at he
      split at he
      · rename_i hR
        rw [hR]
        cases hr : retE x.ty x.fn s' with
        | none => rw [hr] at he; cases he
        | some e =>
          rw [hr] at he
          cases he
          refine ret_TS hty hts hr ?_ hy
          have hin := hin ρ hok hob
          simp only [settled] at hin
          split at hin
          · rename_i hx
            cases hd : dec k e with
            | none => rw [hd] at hx; cases hx
            | some b => rw [hd] at hx; simp only [isT] at hx; subst hx; exact (dec_sound hok hd).2 rfl
          · have := hin _ (List.mem_cons_self ..)
            simp only [Rsd.holds, norm_den hok] at this
            exact this
      · rename_i R hR
        have hCr := hC.r
        rw [hR] at hCr ⊢
        cases hr : retM x.ty x.fn s' R with
        | none => rw [hr] at he; cases he
        | some m =>
          rw [hr] at he
          cases he
          refine retM_ok hty hts hr ?_ hCr hy
          have hin := hin ρ hok hob
          simp only [settled] at hin
          exact ⟨eqsR_ok hok fun r hr => hin r (List.mem_append_left _ hr), teqsR_ok hok fun r hr => hin r (List.mem_append_right _ hr)⟩
    cases y with
    | nrm =>
      simp only [whatOf] at hwh
      cases N with
      | none => exact done _ (.inr rfl) hwh
      | some g =>
        simp only at hwh
        cases hr : pickA k s' ((g.t, g.F) :: g.m) with
        | none => rw [hr] at hwh; cases hwh
        | some Fm =>
          obtain ⟨F, ps⟩ := Fm
          rw [hr] at hwh
          cases hwh
          obtain ⟨t, htm, hr⟩ := pickA_mem hr
          have next : ∃ ρ', Eqs ρ ρ' ps.ps ps.ts ∧ g.ok ρ F ρ' := solved_ok hok (hin ρ hok hob)
          obtain ⟨ρ', h1, h2⟩ := next
          obtain ⟨β2, hts2⟩ := matchS_ok hr h1 (hts.fix.trans h2.1) (hC.n g rfl _ htm) hts
          exact ⟨ρ', β2, t, F, htm, h2, hts2⟩
    | ret => exact done _ (.inl rfl) hwh
    | ext id =>
      simp only [whatOf] at hwh
      split at hwh
      · rename_i g hg
        cases hr : pickA k s' ((g.t, g.F) :: g.m) with
        | none => rw [hr] at hwh; cases hwh
        | some Fm =>
          obtain ⟨F, ps⟩ := Fm
          rw [hr] at hwh
          cases hwh
          obtain ⟨t, htm, hr⟩ := pickA_mem hr
          have out : ∃ ρ', Eqs ρ ρ' ps.ps ps.ts ∧ g.ok ρ F ρ' := by
            have hin := hin ρ hok hob
            simp only [settled, hg] at hin
            exact solved_ok hok hin
          obtain ⟨ρ', h1, h2⟩ := out
          obtain ⟨β2, hts2⟩ := matchS_ok hr h1 (hts.fix.trans h2.1) (hC.x id g hg _ htm) hts
          show Post P x C ρ N X (.exit id) a' w'
          simp only [Post, hg]
          exact ⟨ρ', β2, t, F, htm, h2, hts2⟩
      · cases hwh
  · cases hrun
include hm hty hfn hct in
/-- By cases. -/
theorem run_T {l : List Code} {facts lem : List Fact} {s : S} {N : Option Tgt} {X : List (Nat × Tgt)} {t : DT}
    (hg : GoodT x l (facts ++ lem) s N X t) (hlem : ∀ ρ, (∀ g ∈ facts, Fact.holds ρ g) → ∀ g ∈ lem, Fact.holds ρ g) {ρ : Env} (hk : ∀ g ∈ facts, Fact.holds ρ g)
    {C : Ctx} (hC : LabsOk C x.R N X) {β : Lab} {a : Act} {w : World} (hs : TS C ρ β x.fn.ntmps s a w) : WPs P l (Post P x C ρ N X) a w := by
  obtain ⟨p, hp, hc⟩ := DT.cover ρ t
  obtain ⟨obs, hrun, hob⟩ := hg p hp
  have hall : ∀ g ∈ facts ++ lem, Fact.holds ρ g := fun g hg => by
    rcases List.mem_append.1 hg with h | h
    · exact hk g h
    · exact hlem ρ hk g h
  unfold runBP at hrun
  rw [Known.addsK_eq, assumesK_eq] at hrun
  exact run_Bk hm hty hfn hct hrun (assumes_holds (Known.adds_holds (Known.nil_holds ρ) hall) hc) hC hs (hob ρ hall)
/-- A part whose beginning is known by its template. -/
def From (P : Program) (x : Rn) (C : Ctx) (s : S) (F : List Fact) (l : List Code) (N : Option Tgt) (X : List (Nat × Tgt)) : Prop :=
  ∀ ρ β a w, (∀ g ∈ F, Fact.holds ρ g) → TS C ρ β x.fn.ntmps s a w → WPs P l (Post P x C ρ N X) a w
theorem cntLt_keep {ρ ρ' ρ'' : Env} {l : List (Nat × Option Int)} {c : List Nat} (h : cntLt ρ ρ' (c.map fun i => (i, none))) (h' : cntLt ρ' ρ'' l) (hc : ∀ p ∈ l, p.1 ∈ c) : cntLt ρ ρ'' l := by
  intro p hp
  have h1 := h' p hp
  have h2 := h (p.1, none) (List.mem_map.2 ⟨_, hc p hp, rfl⟩)
  simp only at h2
  obtain ⟨i, B⟩ := p
  cases B with
  | none => exact Eq.trans h1 h2
  | some B =>
    simp only [cntLt1] at h1 h2 ⊢
    rw [← h2]
    exact h1
/-- A part from each of a target's templates. -/
def AllF (P : Program) (x : Rn) (C : Ctx) (g : Tgt) (l : List Code) (N : Option Tgt) (X : List (Nat × Tgt)) : Prop := ∀ p ∈ (g.t, g.F) :: g.m, From P x C p.1.toS p.2 l N X
theorem AllF.one {C : Ctx} {t : Tm} {F : List Fact} {c : List (Nat × Option Int)} {l : List Code} {N : Option Tgt} {X : List (Nat × Tgt)} (h : From P x C t.toS F l N X) : AllF P x C ⟨t, F, c, []⟩ l N X := by
  intro p hp
  simp only [List.mem_singleton] at hp
  subst hp
  exact h
theorem AllF.cons {C : Ctx} {t : Tm} {F : List Fact} {q : Tm × List Fact} {m : List (Tm × List Fact)} {c : List (Nat × Option Int)} {l : List Code} {N : Option Tgt} {X : List (Nat × Tgt)} (h : From P x C t.toS F l N X) (hs : AllF P x C ⟨q.1, q.2, c, m⟩ l N X) : AllF P x C ⟨t, F, c, q :: m⟩ l N X := by
  intro p hp
  rcases List.mem_cons.1 hp with rfl | hp
  · exact h
  · exact hs p hp
/-- One part behind another; what the second counts, the first keeps. -/
theorem From.seq {C : Ctx} {s : S} {F : List Fact} {l r : List Code} {g : Tgt} {N : Option Tgt} {X : List (Nat × Tgt)} (h : From P x C s F l (some g) X) (h' : AllF P x C g r N X) {c : List Nat} (hc : g.c = c.map fun i => (i, none))
    (hN : ∀ g', N = some g' → ∀ p ∈ g'.c, p.1 ∈ c) (hX : ∀ i g', tgtOf X i = some g' → ∀ p ∈ g'.c, p.1 ∈ c) : From P x C s F (l ++ r) N X := by
  intro ρ β a w hF hs
  refine WPs.append ((h ρ β a w hF hs).mono fun e a w he => ?_)
  cases e with
  | normal =>
    obtain ⟨ρ', β', t, F', htm, hok, hts⟩ := he
    refine (h' _ htm ρ' β' a w hok.2.1 hts).mono fun e a w he => ?_
    have key : ∀ g' : Tgt, (∀ p ∈ g'.c, p.1 ∈ c) → Meets C x.fn.ntmps ρ' g' a w → Meets C x.fn.ntmps ρ g' a w := by
      rintro g' hg' ⟨ρ2, β2, t2, F2, htm2, hok2, hts2⟩
      refine ⟨ρ2, β2, t2, F2, htm2, ⟨hok.1.trans hok2.1, hok2.2.1, cntLt_keep (c := c) ?_ hok2.2.2 hg'⟩, hts2⟩
      rw [← hc]
      exact hok.2.2
    cases e with
    | normal =>
      cases N with
      | none => exact he
      | some g' => exact key g' (hN g' rfl) he
    | exit b =>
      simp only [Post] at he ⊢
      split at he
      · rename_i g' hg'
        exact key g' (hX b g' hg') he
      · exact he
    | ret => exact he
    | panic ch => exact he
    | outgrown => exact he
    | goto l => exact he
  | exit b => exact he
  | ret => exact he
  | panic ch => exact he
  | outgrown => exact he
  | goto l => exact he
/-- A loop: its body comes to its own beginning again, a count up; or out by its block's door. The doors of the body are those of the loop, and the loop's own. -/
theorem From.loop {C : Ctx} {body : Code} {b c : Nat} {B : Int} {cs : List Nat} {gE : Tgt} {X : List (Nat × Tgt)} {g g0 : Tgt} (hg0 : (g0.t, g0.F) :: g0.m = (g.t, g.F) :: g.m) (hgc : g.c = (c, some B) :: cs.map fun i => (i, none))
    (h : AllF P x C g (flat body) (some g) ((b, gE) :: X)) (hE : ∀ p ∈ gE.c, p.1 ∈ cs) (hX : ∀ i g', tgtOf X i = some g' → ∀ p ∈ g'.c, p.1 ∈ cs) : AllF P x C g0 [.block b (.loop body)] (some gE) X := by
  intro p0 hp0 ρ0 β0 a0 w0 hF0 hs0
  rw [hg0] at hp0
  show Code.wp P (.block b (.loop body)) (Exit.then (WPs P [] (Post P x C ρ0 (some gE) X)) (Post P x C ρ0 (some gE) X)) a0 w0
  refine wp_mono (Q := Post P x C ρ0 (some gE) X) ?_ fun e a w he => by cases e <;> exact he
  refine wp_block ?_
  have lift : ∀ {ρ1 ρ2 : Env}, Fix ρ0 ρ1 → cntLt ρ0 ρ1 (cs.map fun i => (i, none)) → ∀ (g' : Tgt), (∀ p ∈ g'.c, p.1 ∈ cs) → ∀ a w, Meets C x.fn.ntmps ρ1 g' a w → Meets C x.fn.ntmps ρ0 g' a w := by
    rintro ρ1 _ hf hk g' hg' a w ⟨ρ2, β2, t2, F2, htm2, hok2, hts2⟩
    exact ⟨ρ2, β2, t2, F2, htm2, ⟨hf.trans hok2.1, hok2.2.1, cntLt_keep hk hok2.2.2 hg'⟩, hts2⟩
  have key : ∀ (d : Nat) (q : Tm × List Fact), q ∈ (g.t, g.F) :: g.m → ∀ (ρ : Env) (β : Lab) (a : Act) (w : World), (B - ρ.v c).toNat < d → (∀ f ∈ q.2, Fact.holds ρ f) → Fix ρ0 ρ → cntLt ρ0 ρ (cs.map fun i => (i, none)) → TS C ρ β x.fn.ntmps q.1.toS a w →
      Code.rounds P body (Exit.inBlock b (Post P x C ρ0 (some gE) X)) d a w := by
    intro d
    induction d with
    | zero => intro q hq ρ β a w hd; omega
    | succ d ih =>
      intro q hq ρ β a w hd hf hfx hck hs
      rw [rounds_succ]
      refine WPs.flat ((h q hq ρ β a w hf hs).mono fun e a w he => ?_)
      cases e with
      | normal =>
        obtain ⟨ρ', β', t', F', htm', hok, hts⟩ := he
        have hc := hok.2.2
        rw [hgc] at hc
        have h1 := hc (c, some B) (List.mem_cons_self ..)
        simp only [cntLt1] at h1
        have h2 : cntLt ρ ρ' (cs.map fun i => (i, none)) := fun p hp => hc p (List.mem_cons_of_mem _ hp)
        exact ih _ htm' ρ' β' a w (by omega) hok.2.1 (hfx.trans hok.1) (cntLt_keep hck h2 (fun p hp => by obtain ⟨i, hi, rfl⟩ := List.mem_map.1 hp; exact hi)) hts
      | exit b' =>
        simp only [Post, tgtOf] at he
        show Exit.inBlock b _ (.exit b') a w
        simp only [Exit.inBlock]
        cases hb : Nat.beq b' b with
        | true =>
          rw [hb] at he
          have := Nat.eq_of_beq_eq_true hb
          rw [if_pos this]
          exact lift (ρ2 := ρ) hfx hck gE hE a w he
        | false =>
          rw [hb] at he
          have := Nat.ne_of_beq_eq_false hb
          rw [if_neg this]
          simp only [Post]
          simp only at he
          split at he
          · rename_i g' hg'
            exact lift (ρ2 := ρ) hfx hck g' (hX b' g' hg') a w he
          · exact he
      | ret => exact he
      | panic ch => exact he
      | outgrown => exact he
      | goto l => exact he
  exact wp_loop_rounds _ (key ((B - ρ0.v c).toNat + 1) p0 hp0 ρ0 β0 a0 w0 (by omega) hF0 (Fix.refl _) (fun p hp => by obtain ⟨i, hi, rfl⟩ := List.mem_map.1 hp; rfl) hs0)
/-- By a number's size. -/
theorem From.split {C : Ctx} {s : S} {F : List Fact} {l : List Code} {N : Option Tgt} {X : List (Nat × Tgt)} (i : Nat) (m : Int) (h1 : From P x C s (.rng (.var i) (none, some (m - 1)) :: F) l N X) (h2 : From P x C s (.rng (.var i) (some m, none) :: F) l N X) : From P x C s F l N X := by
  intro ρ β a w hF hs
  rcases Int.lt_or_le (ρ.v i) m with h | h
  · exact h1 ρ β a w (List.forall_mem_cons.2 ⟨⟨fun _ e => (by cases e), fun q e => (by cases e; simp only [E.den]; omega)⟩, hF⟩) hs
  · exact h2 ρ β a w (List.forall_mem_cons.2 ⟨⟨fun q e => (by cases e; simp only [E.den]; omega), fun _ e => (by cases e)⟩, hF⟩) hs
/-- A list of parts with a loop in it. -/
theorem From.cut {C : Ctx} {s : S} {F : List Fact} {l : List Code} {i b : Nat} {body : Code} (hl : l[i]? = some (.block b (.loop body))) {g gE : Tgt} {N : Option Tgt} {X : List (Nat × Tgt)} (h0 : From P x C s F (l.take i) (some g) X)
    (hL : AllF P x C g [.block b (.loop body)] (some gE) X) (h2 : AllF P x C gE (l.drop (i + 1)) N X) {c : List Nat} (hc : g.c = c.map fun i => (i, none)) (hcE : gE.c = c.map fun i => (i, none))
    (hN : ∀ g', N = some g' → ∀ p ∈ g'.c, p.1 ∈ c) (hX : ∀ i g', tgtOf X i = some g' → ∀ p ∈ g'.c, p.1 ∈ c) : From P x C s F l N X := by
  rw [cut_at hl]
  refine From.seq h0 ?_ hc hN hX
  intro p hp
  show From P x C p.1.toS p.2 ([.block b (.loop body)] ++ l.drop (i + 1)) N X
  exact From.seq (hL p hp) h2 hcE hN hX
include hm hty hfn hct in
theorem From.run {C : Ctx} {s : S} {facts lem : List Fact} {l : List Code} {N : Option Tgt} {X : List (Nat × Tgt)} {tr : DT} (hC : LabsOk C x.R N X) (hg : GoodT x l (facts ++ lem) s N X tr) (hlem : ∀ ρ, (∀ g ∈ facts, Fact.holds ρ g) → ∀ g ∈ lem, Fact.holds ρ g) :
    From P x C s facts l N X := fun ρ β a w hF hs => run_T hm hty hfn hct hg hlem hF hC hs
end
end
end Go.Sx
/-
  SX: CONTRACTS. What is shown of a function once, from a pattern on, is used wherever it is called and the pattern fits.
-/
namespace Go.Sx
set_option linter.unusedSimpArgs false
set_option linter.unusedVariables false
set_option linter.unusedSectionVars false
noncomputable section
set_option linter.unusedVariables false
set_option linter.unusedSimpArgs false
/-- A contract: the arguments, the blocks behind them, what is known; what is handed back. -/
structure Ctr where
  f : FuncId
  args : List V1
  heap : List (Nat × Ent)
  nx : Nat
  facts : List Fact
  R : Res
/-- The old blocks that may be written. -/
def Ctr.wrt (c : Ctr) (β : Lab) (k : Nat) : Prop := ∃ p ∈ c.heap, p.2.wr = true ∧ p.2.blk.hb β ∧ β.b p.1 = k
def Ctr.ctx (c : Ctr) (ρ : Env) (β : Lab) (w : World) : Ctx := ⟨w, c.wrt β, c.nx, β, ρ, []⟩
def Ctr.ok (P : Program) (c : Ctr) : Prop := ∀ (ρ : Env) (β : Lab) (w : World), (∀ g ∈ c.facts, Fact.holds ρ g) → SatH ρ β c.nx (putSets .leaf c.heap).get w →
  Calls P c.f (c.args.map (V1.den ρ β)).toArray w (REnd (c.ctx ρ β w) c.R)
def Ctr.s0 (c : Ctr) : S := ⟨argSlots c.args 0 .nil, putSets .leaf c.heap, c.nx, []⟩
theorem Ctr.ok_of {P : Program} {c : Ctr} {x : Rn} {body : Code} (hf : P.funcs[c.f]? = some x.fn) (hb : x.fn.body = some body) (hR : x.R = some c.R) (hbel : c.args.all (V1.bel c.nx) = true)
    (h : ∀ C, C.n0 = c.nx → From P x C c.s0 c.facts (flat body) none []) : c.ok P := by
  intro ρ β w hk hs
  refine calls_of_wp hf hb ?_
  have hi := SatS.init (ρ := ρ) (β := β) (args := c.args) (heap := putSets .leaf c.heap) (nx := c.nx) (w := w) (nt := x.fn.ntmps) (fun v hv => SV.bel_ok (x := .v v) (List.all_eq_true.1 hbel v hv)) hs
  have ht : TS (c.ctx ρ β w) ρ β x.fn.ntmps c.s0 _ w := ⟨hi, Frm.refl _ _, fun l y hy hw hh => .inr ⟨(l, y), putSets_mem hy, hw, hh, rfl⟩, Fix.refl _, Lab.agree_refl _ _, Nat.le_refl _⟩
  refine wp_mono (WPs.flat (h (c.ctx ρ β w) rfl ρ β _ w hk ht)) fun e a w he => ?_
  cases e with
  | normal => simp only [Post, hR] at he; exact bodyPostE_nil he
  | ret => simp only [Post, hR] at he; exact bodyPostE_nil he
  | panic ch => exact he.elim
  | outgrown => exact he.elim
  | exit id => exact he.elim
  | goto l => exact he.elim
/-! ### renaming -/
def asgAll : Pairs → Asg → Asg
  | [], a => a
  | (e, .var i) :: r, a => match (asgGet a i).isNone with
    | true => e.deepK fun e => asgAll r ((i, e) :: a)
    | false => asgAll r a
  | _ :: r, a => asgAll r a
def tasgAll : TPairs → Asg → Asg
  | [], a => a
  | (e, .tv i, _) :: r, a => match (asgGet a i).isNone with
    | true => e.deepK fun e => tasgAll r ((i, e) :: a)
    | false => tasgAll r a
  | _ :: r, a => tasgAll r a
structure Rnm where
  lp : LP
  n0 : Nat
  nx : Nat
  a : Asg
  b : Asg
  k : Known
def Rnm.l (r : Rnm) (l : Nat) : Option Nat := match Nat.blt l r.n0 with
  | true => (match lpGet r.lp l with | some (.lab m) => (match Nat.blt m r.nx with | true => some m | false => none) | _ => none)
  | false => some (Nat.add r.nx (Nat.sub l r.n0))
/-- Sameness of rows, what lies behind them left out. -/
def rowsX (k : Known) (e : E) : E := match e with
  | .app f (.app 2 t u) n => (match Nat.ble 64 f with
    | true => (match (stripR k n t).same (stripR k n u) with | true => .lit 1 | false => .app f (.app 2 t u) n)
    | false => .app f (.app 2 t u) n)
  | e => e
theorem rowEq_of {t u : Int → Nat → Int} {i : Int} (h : ∀ j, t i j = u i j) : ∀ (ds : List Nat) (j : Nat), rowEq t u i ds j = true
  | [], _ => rfl
  | d :: r, j => by simp only [rowEq, h j, decide_true, rowEq_of h r, Bool.and_self]
theorem rowsX_den {ρ : Env} {k : Known} (hk : Known.holds ρ k) (e : E) : (rowsX k e).den ρ = e.den ρ := by
  unfold rowsX
  split
  · rename_i f t u n
    split
    · rename_i h64
      split
      · rename_i hs
        have hs := E.same_eq hs
        have h1 : ∀ i : Nat, (i : Int) < n.den ρ → ∀ j, t.tden ρ i j = u.tden ρ i j := fun i hi j => by
          rw [← stripR_ok hk t hi j, hs, stripR_ok hk u hi j]
        have h2 : eqRowsK (digs 60 (f - 64)) (t.tden ρ) (u.tden ρ) (n.den ρ) = true := by
          unfold eqRowsK
          rw [List.all_eq_true]
          intro i hi
          exact rowEq_of (h1 i (by have := List.mem_range.1 hi; omega)) _ _
        have e1 : (E.app f (.app 2 t u) n).den ρ = specN f (t.tden ρ) (u.tden ρ) (n.den ρ) := by
          have hne : f ≠ 1 := by rintro rfl; cases h64
          simp only [E.den]
          simp only [E.tden, E.t2den]
        rw [e1]
        simp only [E.den, specN, h64, h2, b01, if_true]
      · rfl
    · rfl
  · rfl
def Rnm.e (r : Rnm) (e : E) : Option E := match e.flatT with | true => some (rowsX r.k (norm r.k (e.sb r.a r.b))) | false => none
def Rnm.t (r : Rnm) (e : E) : Option E := match e.flatB with | true => some (normT r.k (e.sb r.a r.b)) | false => none
def Rnm.cv (r : Rnm) : CV → Option CV
  | .int k e => (match r.e e with | some e => some (.int k e) | none => none)
  | .bool e => (match r.e e with | some e => some (.bool e) | none => none)
  | .ptr l o => (match r.l l with | some l => some (.ptr l o) | none => none)
  | .nilp => some .nilp
  | .nils => some .nils
  | .nilf => some .nilf
  | .osl l => (match r.l l with | some l => some (.osl l) | none => none)
  | .osub l n c => (match r.l l, r.e n, r.e c with | some l, some n, some c => some (.osub l n c) | _, _, _ => none)
  | .str t n => (match r.t t, r.e n with | some t, some n => some (.str t n) | _, _ => none)
  | _ => none
def Rnm.cvs (r : Rnm) : List CV → Option (List CV)
  | [] => some []
  | c :: cs => match r.cv c, r.cvs cs with | some c, some cs => some (c :: cs) | _, _ => none
def Rnm.v1 (r : Rnm) : V1 → Option V1
  | .one c => (match r.cv c with | some c => some (.one c) | none => none)
  | .agg cs => (match r.cvs cs with | some cs => some (.agg cs) | none => none)
def Rnm.v1s (r : Rnm) : List V1 → Option (List V1)
  | [] => some []
  | c :: cs => match r.v1 c, r.v1s cs with | some c, some cs => some (c :: cs) | _, _ => none
def Rnm.blk (r : Rnm) : Blk → Option Blk
  | .cells cs ty => (match r.cvs cs with | some cs => some (.cells cs ty) | none => none)
  | .arr t n k ty => (match r.t t with | some t => some (.arr t n k ty) | none => none)
  | .seq q t n ks ty => (match r.l q, r.t t, r.e n with | some q, some t, some n => some (.seq q t n ks ty) | _, _, _ => none)
  | .lst q cs n sz ty => (match r.l q, r.cvs cs with | some q, some cs => some (.lst q cs n sz ty) | _, _ => none)
  | .bag q n sz ty => (match r.l q, r.e n with | some q, some n => some (.bag q n sz ty) | _, _ => none)
  | .nn q => (match r.l q with | some q => some (.nn q) | none => none)
  | .dead => some .dead
  | .tab _ _ _ _ => none
def Rnm.sets (r : Rnm) : List (Nat × Ent) → Option Sets
  | [] => some []
  | (l, ⟨wr, b⟩) :: s => match r.l l, r.blk b, r.sets s with
    | some l, some b, some s => (match wr with | true => some ((l, ⟨true, b⟩) :: s) | false => none)
    | _, _, _ => none
/-- How β's labels and those of the pattern stand to each other behind the call. -/
structure RnmOk (r : Rnm) (ρ : Env) (βf β' : Lab) (n nf : Nat) : Prop where
  lab : ∀ l m, r.l l = some m → βf.b m = β'.b l ∧ βf.o m = β'.o l
  lt : ∀ l m, r.l l = some m → l < n → m < nf
  k : Known.holds ρ r.k
section
variable {r : Rnm} {ρ : Env} {βf β' : Lab} {n nf : Nat} (hr : RnmOk r ρ βf β' n nf)
include hr
theorem Rnm.e_ok {e e' : E} (h : r.e e = some e') : e'.den ρ = e.den (ρ.puts r.a r.b) := by
  unfold Rnm.e at h
  split at h
  · rename_i hf; cases h; rw [rowsX_den hr.k, norm_den hr.k, sb_den _ _ _ _ hf]
  · cases h
theorem Rnm.t_ok {e e' : E} (h : r.t e = some e') : e'.tden ρ = e.tden (ρ.puts r.a r.b) := by
  unfold Rnm.t at h
  split at h
  · rename_i hf; cases h; rw [(norm2_den hr.k _).2.1, sb_tden _ _ _ _ hf]
  · cases h
theorem Rnm.cv_ok {c c' : CV} (h : r.cv c = some c') : c'.den ρ βf = c.den (ρ.puts r.a r.b) β' ∧ (c.below n → c'.below nf) := by
  cases c <;> simp only [Rnm.cv] at h
  case int k e => split at h <;> first | cases h; done | (rename_i e' he; cases h; exact ⟨by simp only [CV.den, Rnm.e_ok hr he], fun _ => trivial⟩)
  case bool e => split at h <;> first | cases h; done | (rename_i e' he; cases h; exact ⟨by simp only [CV.den, Rnm.e_ok hr he], fun _ => trivial⟩)
  case ptr l o => split at h <;> first | cases h; done | (rename_i e' he; cases h; exact ⟨by simp only [CV.den, (hr.lab _ _ he).1], fun hb => hr.lt _ _ he hb⟩)
  case nilp => cases h; exact ⟨rfl, fun _ => trivial⟩
  case nils => cases h; exact ⟨rfl, fun _ => trivial⟩
  case nilf => cases h; exact ⟨rfl, fun _ => trivial⟩
  case osl l => split at h <;> first | cases h; done | (rename_i e' he; cases h; exact ⟨by simp only [CV.den, (hr.lab _ _ he).2], fun hb => hr.lt _ _ he hb⟩)
  case osub l m c =>
    split at h
    · rename_i l' m' c' h1 h2 h3
      cases h
      exact ⟨by simp only [CV.den, (hr.lab _ _ h1).2, Rnm.e_ok hr h2, Rnm.e_ok hr h3], fun hb => hr.lt _ _ h1 hb⟩
    · cases h
  case str t m =>
    split at h
    · rename_i t' m' h2 h3
      cases h
      exact ⟨by simp only [CV.den, Rnm.t_ok hr h2, Rnm.e_ok hr h3], fun hb => trivial⟩
    · cases h
  all_goals cases h
theorem Rnm.cvs_ok : ∀ {cs cs' : List CV}, r.cvs cs = some cs' → cs'.map (CV.den ρ βf) = cs.map (CV.den (ρ.puts r.a r.b) β') ∧ ((∀ c ∈ cs, c.below n) → ∀ c ∈ cs', c.below nf)
  | [], cs', h => by cases h; exact ⟨rfl, fun _ c hc => (by cases hc)⟩
  | c :: cs, cs', h => by
    simp only [Rnm.cvs] at h
    split at h
    · rename_i c1 cs1 h1 h2
      cases h
      have i1 := Rnm.cv_ok hr h1
      have i2 := Rnm.cvs_ok h2
      refine ⟨by simp only [List.map_cons, i1.1, i2.1], fun hb x hx => ?_⟩
      rcases List.mem_cons.1 hx with rfl | hx
      · exact i1.2 (hb _ (List.mem_cons_self ..))
      · exact i2.2 (fun y hy => hb y (List.mem_cons_of_mem _ hy)) x hx
    · cases h
theorem Rnm.v1_ok {c c' : V1} (h : r.v1 c = some c') : c'.den ρ βf = c.den (ρ.puts r.a r.b) β' ∧ (c.below n → c'.below nf) := by
  cases c with
  | one c =>
    simp only [Rnm.v1] at h
    split at h
    · rename_i c1 h1; cases h; exact Rnm.cv_ok hr h1
    · cases h
  | agg cs =>
    simp only [Rnm.v1] at h
    split at h
    · rename_i c1 h1; cases h
      have := Rnm.cvs_ok hr h1
      exact ⟨by simp only [V1.den, this.1], this.2⟩
    · cases h
theorem Rnm.v1s_ok : ∀ {cs cs' : List V1}, r.v1s cs = some cs' → cs'.map (V1.den ρ βf) = cs.map (V1.den (ρ.puts r.a r.b) β') ∧ ((∀ c ∈ cs, V1.below n c) → ∀ c ∈ cs', V1.below nf c)
  | [], cs', h => by cases h; exact ⟨rfl, fun _ c hc => (by cases hc)⟩
  | c :: cs, cs', h => by
    simp only [Rnm.v1s] at h
    split at h
    · rename_i c1 cs1 h1 h2
      cases h
      have i1 := Rnm.v1_ok hr h1
      have i2 := Rnm.v1s_ok h2
      refine ⟨by simp only [List.map_cons, i1.1, i2.1], fun hb x hx => ?_⟩
      rcases List.mem_cons.1 hx with rfl | hx
      · exact i1.2 (hb _ (List.mem_cons_self ..))
      · exact i2.2 (fun y hy => hb y (List.mem_cons_of_mem _ hy)) x hx
    · cases h
theorem Rnm.blk_ok {x x' : Blk} (h : r.blk x = some x') : (x'.hb βf ↔ x.hb β') ∧ (x.below n → x'.below nf) ∧ ∀ b w, x.sat (ρ.puts r.a r.b) β' b w → x'.sat ρ βf b w := by
  cases x with
  | cells cs ty =>
    simp only [Rnm.blk] at h
    split at h
    · rename_i c1 h1; cases h
      have := Rnm.cvs_ok hr h1
      exact ⟨Iff.rfl, this.2, fun b w hs => by simp only [Blk.sat] at hs ⊢; rw [hs, this.1]⟩
    · cases h
  | arr t m k ty =>
    simp only [Rnm.blk] at h
    split at h
    · rename_i t1 h1; cases h
      exact ⟨Iff.rfl, fun _ => trivial, fun b w hs => by simp only [Blk.sat] at hs ⊢; rw [hs, Rnm.t_ok hr h1]⟩
    · cases h
  | seq q t m ks ty =>
    simp only [Rnm.blk] at h
    split at h
    · rename_i q' t' m' h1 h2 h3
      cases h
      have := hr.lab _ _ h1
      exact ⟨by simp only [Blk.hb, this.2], fun hb => hr.lt _ _ h1 hb, fun b w hs => by simp only [Blk.sat] at hs ⊢; rw [this.2, Rnm.t_ok hr h2, Rnm.e_ok hr h3]; exact hs⟩
    · cases h
  | lst q cs m sz ty =>
    simp only [Rnm.blk] at h
    split at h
    · rename_i q' cs' h1 h2
      cases h
      have := hr.lab _ _ h1
      have hc := Rnm.cvs_ok hr h2
      exact ⟨by simp only [Blk.hb, this.2], fun hb => ⟨hr.lt _ _ h1 hb.1, hc.2 hb.2⟩, fun b w hs => by simp only [Blk.sat] at hs ⊢; rw [this.2, hc.1]; exact hs⟩
    · cases h
  | bag q m sz ty =>
    simp only [Rnm.blk] at h
    split at h
    · rename_i q' m' h1 h3
      cases h
      have := hr.lab _ _ h1
      exact ⟨by simp only [Blk.hb, this.2], fun hb => hr.lt _ _ h1 hb, fun b w hs => by simp only [Blk.sat] at hs ⊢; rw [this.2, Rnm.e_ok hr h3]; exact hs⟩
    · cases h
  | nn q =>
    simp only [Rnm.blk] at h
    split at h
    · rename_i q' h1
      cases h
      have := hr.lab _ _ h1
      exact ⟨Iff.rfl, fun hb => hr.lt _ _ h1 hb, fun b w hs => by simp only [Blk.sat] at hs ⊢; rw [this.2]; exact hs⟩
    · cases h
  | dead => cases h; exact ⟨Iff.rfl, fun _ => trivial, fun _ _ _ => trivial⟩
  | tab q t m ks => cases h
omit hr in
theorem Rnm.sets_mem : ∀ {l : List (Nat × Ent)} {s : Sets}, r.sets l = some s → (∀ p ∈ s, ∃ q ∈ l, r.l q.1 = some p.1 ∧ r.blk q.2.blk = some p.2.blk ∧ q.2.wr = true ∧ p.2.wr = true) ∧ (∀ q ∈ l, ∃ p ∈ s, r.l q.1 = some p.1 ∧ r.blk q.2.blk = some p.2.blk)
  | [], s, h => by cases h; exact ⟨fun p hp => (by cases hp), fun p hp => (by cases hp)⟩
  | (l, ⟨wr, b⟩) :: r0, s, h => by
    simp only [Rnm.sets] at h
    split at h
    · rename_i l' b' s' h1 h2 h3
      split at h
      · cases h
        have ih := Rnm.sets_mem h3
        refine ⟨fun p hp => ?_, fun q hq => ?_⟩
        · rcases List.mem_cons.1 hp with rfl | hp
          · exact ⟨_, List.mem_cons_self .., h1, h2, rfl, rfl⟩
          · obtain ⟨q, hq, hh⟩ := ih.1 p hp
            exact ⟨q, List.mem_cons_of_mem _ hq, hh⟩
        · rcases List.mem_cons.1 hq with rfl | hq
          · exact ⟨_, List.mem_cons_self .., h1, h2⟩
          · obtain ⟨p, hp, hh⟩ := ih.2 q hq
            exact ⟨p, List.mem_cons_of_mem _ hp, hh⟩
      · cases h
    · cases h
end
/-! ### a contract that is used -/
def hasL (l : Nat) : List (Nat × Ent) → Bool
  | [] => false
  | (m, _) :: r => match Nat.beq l m with | true => true | false => hasL l r
/-- An old block that is set: it was there to be written; it dies, or stays cells. -/
def oldOk (heap : List (Nat × Ent)) (l : Nat) : Blk → Bool
  | .dead => heap.any fun p => Nat.beq p.1 l && (p.2.wr && (match p.2.blk with | .dead => false | _ => true))
  | .cells _ _ => heap.any fun p => Nat.beq p.1 l && (p.2.wr && (match p.2.blk with | .cells _ _ => true | .arr _ _ _ _ => true | _ => false))
  | .seq q _ _ _ _ => heap.any fun p => Nat.beq p.1 l && (p.2.wr && (match p.2.blk with | .seq q' _ _ _ _ => Nat.beq q l && Nat.beq q' l | _ => false))
  | .lst q _ _ _ _ => heap.any fun p => Nat.beq p.1 l && (p.2.wr && (match p.2.blk with | .lst q' _ _ _ _ => Nat.beq q l && Nat.beq q' l | _ => false))
  | .bag q _ _ _ => heap.any fun p => Nat.beq p.1 l && (p.2.wr && (match p.2.blk with | .bag q' _ _ _ => Nat.beq q l && Nat.beq q' l | _ => false))
  | .nn _ => false
  | _ => false
/-- Is the contract fit to be used? -/
def Ctr.fit (c : Ctr) : Bool := Nat.ble c.nx c.R.nx && (c.heap.all (fun p => !p.2.wr || hasL p.1 c.R.heap) && c.R.heap.all (fun p => !Nat.blt p.1 c.nx || oldOk c.heap p.1 p.2.blk))
def Ctr.run (c : Ctr) (args : List V1) (heap : T Ent) (nx : Nat) (k : Known) : Option EAlts :=
  match v1sM c.nx args c.args with
  | some p => (match heapM heap c.nx p.lp c.heap with
    | some q => (match lpOk (p.lp ++ q.lp) with
      | true => (match asgAll (p.ps ++ q.ps) [], tasgAll (p.ts ++ q.ts) [] with
        | a, b => (match eqsOk k a b (p.ps ++ q.ps) && (teqsOk k a b (p.ts ++ q.ts) && factsOk k a b c.facts) with
          | true => (match Rnm.v1s ⟨p.lp ++ q.lp, c.nx, nx, a, b, k⟩ c.R.vs, Rnm.sets ⟨p.lp ++ q.lp, c.nx, nx, a, b, k⟩ c.R.heap with
            | some vs, some sets => some [(k, ⟨svOfList vs, sets, Nat.add nx (Nat.sub c.R.nx c.nx)⟩)]
            | _, _ => none)
          | false => none))
      | false => none)
    | none => none)
  | none => none
def ctRun (f : FuncId) (args : List V1) (heap : T Ent) (nx : Nat) (k : Known) : List Ctr → Option EAlts
  | [] => none
  | c :: r => match Nat.beq f c.f with
    | true => (match c.run args heap nx k with | some x => some x | none => ctRun f args heap nx k r)
    | false => ctRun f args heap nx k r
/-- The contracts, as they are called. -/
def ctOf (cs : List Ctr) : CallF := fun f args heap nx k => ctRun f args heap nx k cs
theorem hasL_iff {l : Nat} : ∀ {r : List (Nat × Ent)}, hasL l r = true → ∃ x, (l, x) ∈ r
  | [], h => by cases h
  | (m, x) :: r, h => by
    simp only [hasL] at h
    split at h
    · rename_i hb; rw [Nat.eq_of_beq_eq_true hb]; exact ⟨x, List.mem_cons_self ..⟩
    · obtain ⟨y, hy⟩ := hasL_iff h; exact ⟨y, List.mem_cons_of_mem _ hy⟩
theorem oldOk_ok {heap : List (Nat × Ent)} {l : Nat} {b : Blk} (h : oldOk heap l b = true) (β β' : Lab) (ho : β'.o l = β.o l) : ∃ x, (l, x) ∈ heap ∧ x.wr = true ∧ x.blk ≠ .dead ∧ (b.hb β' → x.blk.hb β) := by
  cases b <;> simp only [oldOk, List.any_eq_true, Bool.and_eq_true, Bool.false_eq_true] at h
  case dead => obtain ⟨p, hp, h1, h2, h3⟩ := h; obtain ⟨m, x⟩ := p; have := Nat.eq_of_beq_eq_true h1; subst this; exact ⟨x, hp, h2, fun hx => (by rw [hx] at h3; simp at h3), fun hh => hh.elim⟩
  case cells cs ty =>
    obtain ⟨p, hp, h1, h2, h3⟩ := h; obtain ⟨m, x⟩ := p; have := Nat.eq_of_beq_eq_true h1; subst this
    refine ⟨x, hp, h2, fun hx => (by rw [hx] at h3; simp at h3), fun _ => ?_⟩
    simp only at h3
    split at h3 <;> first | (rename_i hx; rw [hx]; trivial) | cases h3
  case seq q t n ks ty =>
    obtain ⟨p, hp, h1, h2, h3⟩ := h; obtain ⟨m, x⟩ := p; have := Nat.eq_of_beq_eq_true h1; subst this
    refine ⟨x, hp, h2, fun hx => (by rw [hx] at h3; simp at h3), fun hh => ?_⟩
    simp only at h3
    split at h3
    · rename_i q' t' n' ks' ty' hx
      simp only [Bool.and_eq_true] at h3
      have e1 := Nat.eq_of_beq_eq_true h3.1
      have e2 := Nat.eq_of_beq_eq_true h3.2
      rw [hx]
      subst e2
      simp only [Blk.hb] at hh ⊢
      rw [e1, ho] at hh
      exact hh
    · cases h3
  case lst q cs n sz ty =>
    obtain ⟨p, hp, h1, h2, h3⟩ := h; obtain ⟨m, x⟩ := p; have := Nat.eq_of_beq_eq_true h1; subst this
    refine ⟨x, hp, h2, fun hx => (by rw [hx] at h3; simp at h3), fun hh => ?_⟩
    simp only at h3
    split at h3
    · rename_i q' cs' n' sz' ty' hx
      simp only [Bool.and_eq_true] at h3
      have e1 := Nat.eq_of_beq_eq_true h3.1
      have e2 := Nat.eq_of_beq_eq_true h3.2
      rw [hx]
      subst e2
      simp only [Blk.hb] at hh ⊢
      rw [e1, ho] at hh
      exact hh
    · cases h3
  case bag q n sz ty =>
    obtain ⟨p, hp, h1, h2, h3⟩ := h; obtain ⟨m, x⟩ := p; have := Nat.eq_of_beq_eq_true h1; subst this
    refine ⟨x, hp, h2, fun hx => (by rw [hx] at h3; simp at h3), fun hh => ?_⟩
    simp only at h3
    split at h3
    · rename_i q' n' sz' ty' hx
      simp only [Bool.and_eq_true] at h3
      have e1 := Nat.eq_of_beq_eq_true h3.1
      have e2 := Nat.eq_of_beq_eq_true h3.2
      rw [hx]
      subst e2
      simp only [Blk.hb] at hh ⊢
      rw [e1, ho] at hh
      exact hh
    · cases h3
theorem svOfList_ren {r : Rnm} {ρ : Env} {βf β' : Lab} {n nf : Nat} (hr : RnmOk r ρ βf β' n nf) {vs vs' : List V1} (h : r.v1s vs = some vs') (hb : (svOfList vs).below n) : (svOfList vs').den ρ βf = (svOfList vs).den (ρ.puts r.a r.b) β' ∧ (svOfList vs').below nf := by
  have h1 := Rnm.v1s_ok hr h
  refine ⟨svOfList_map h1.1, svOfList_below (h1.2 ?_)⟩
  match vs, hb with
  | [], _ => exact fun c hc => (by cases hc)
  | [x], hb => intro c hc; rw [List.mem_singleton.1 hc]; exact hb
  | x :: y :: r, hb => exact hb
theorem Ctr.run_ok {P : Program} {c : Ctr} (hfit : c.fit = true) (hc : c.ok P) {ρ : Env} {args : List V1} {heap : T Ent} {nx : Nat} {k : Known} {l : EAlts} (h : c.run args heap nx k = some l) : AltsOk ρ k l (CGood P ρ c.f args heap nx) := by
  unfold Ctr.run at h
  split at h
  · rename_i p hp
    split at h
    · rename_i q hq
      split at h
      · rename_i hok
        split at h
        rename_i a b
        split at h
        · rename_i hall
          split at h
          · rename_i vs sets hvs hsets
            cases h
            simp only [Bool.and_eq_true] at hall
            obtain ⟨g1, g2, g3⟩ := hall
            refine AltsOk.single fun hk => ?_
            intro β w hb hs
            simp only [Ctr.fit, Bool.and_eq_true, List.all_eq_true] at hfit
            obtain ⟨f1, f2, f3⟩ := hfit
            have f1 := Nat.le_of_ble_eq_true f1
            generalize hab : asgAll (p.ps ++ q.ps) [] = a at *
            generalize hbb : tasgAll (p.ts ++ q.ts) [] = b at *
            have hmaps := maps_all (ρ := ρ) (β := β) hok 0
            have hM : MOk ρ (ρ.puts a b) β (labOf ρ β 0 (p.lp ++ q.lp)) (p.app q) := ⟨eqsOk_ok hk g1, teqsOk_ok hk g2, hmaps⟩
            obtain ⟨hpm, hqm⟩ := MOk.app_iff hM
            have e1 := v1sM_ok hp hpm
            have e2 := (heapL_ok (n0 := 0) (s := ⟨.nil, heap, 0, []⟩) hq hok hqm (C := ⟨w, fun _ => True, 0, β, ρ, []⟩) hs (fun _ _ _ _ _ => .inr trivial)).1
            have e3 := heapM_ok hq hqm hpm.lp
            generalize hβ0 : labOf ρ β 0 (p.lp ++ q.lp) = β0 at *
            have hsat : SatH (ρ.puts a b) β0 c.nx (putSets .leaf c.heap).get w := ⟨fun l x hx => e2.blk _ (putSets_mem hx), fun l l' x x' hx hx' hne hw hh hh' => e2.inj _ (putSets_mem hx) _ (putSets_mem hx') hne hw hh hh'⟩
            have hcall := hc (ρ.puts a b) β0 w (factsOk_ok hk g3) hsat
            rw [e1.1]
            refine hcall.mono fun e w' he => ?_
            obtain ⟨β', hfrm, hL, hag, hown, hbel, rfl⟩ := he
            simp only [Ctr.ctx] at hfrm hag hown hL
            have hRnm : RnmOk ⟨p.lp ++ q.lp, c.nx, nx, a, b, k⟩ ρ ⟨fun l => if l < nx then β.b l else β'.b (c.nx + (l - nx)), fun l => if l < nx then β.o l else β'.o (c.nx + (l - nx))⟩ β' c.R.nx (nx + (c.R.nx - c.nx)) := by
              have key : ∀ l m, Rnm.l ⟨p.lp ++ q.lp, c.nx, nx, a, b, k⟩ l = some m → (l < c.nx ∧ m < nx ∧ (l, LM.lab m) ∈ p.lp ++ q.lp) ∨ (c.nx ≤ l ∧ m = nx + (l - c.nx)) := by
                intro l m hm
                simp only [Rnm.l] at hm
                split at hm
                · rename_i hlt
                  split at hm
                  · rename_i m' hg
                    split at hm
                    · rename_i hlt'
                      cases hm
                      exact .inl ⟨by simpa using hlt, by simpa using hlt', lpGet_mem hg⟩
                    · cases hm
                  · cases hm
                · rename_i hlt
                  cases hm
                  refine .inr ⟨?_, rfl⟩
                  rcases Nat.lt_or_ge l c.nx with h' | h'
                  · have : Nat.blt l c.nx = true := by simpa using h'
                    rw [this] at hlt; cases hlt
                  · exact h'
              refine ⟨fun l m hm => ?_, fun l m hm hl => ?_, hk⟩
              · rcases key l m hm with ⟨h1, h2, h3⟩ | ⟨h1, h2⟩
                · have := hmaps _ h3
                  have h4 := hag l h1
                  simp only [if_pos h2]
                  exact ⟨by rw [h4.1, this.1], by rw [h4.2, this.2]⟩
                · subst h2
                  simp only [if_neg (show ¬ nx + (l - c.nx) < nx by omega)]
                  rw [show c.nx + (nx + (l - c.nx) - nx) = l by omega]
                  exact ⟨rfl, rfl⟩
              · rcases key l m hm with ⟨h1, h2, h3⟩ | ⟨h1, h2⟩
                · omega
                · omega
            have keyL : ∀ l m, Rnm.l ⟨p.lp ++ q.lp, c.nx, nx, a, b, k⟩ l = some m → (l < c.nx ∧ m < nx ∧ (l, LM.lab m) ∈ p.lp ++ q.lp) ∨ (c.nx ≤ l ∧ nx ≤ m) := by
              intro l m hm
              simp only [Rnm.l] at hm
              split at hm
              · rename_i hlt
                split at hm
                · rename_i m' hg
                  split at hm
                  · rename_i hlt'
                    cases hm
                    exact .inl ⟨by simpa using hlt, by simpa using hlt', lpGet_mem hg⟩
                  · cases hm
                · cases hm
              · rename_i hlt
                cases hm
                refine .inr ⟨?_, Nat.le_add_right _ _⟩
                rcases Nat.lt_or_ge l c.nx with h' | h'
                · have : Nat.blt l c.nx = true := by simpa using h'
                  rw [this] at hlt; cases hlt
                · exact h'
            generalize hβf : (⟨fun l => if l < nx then β.b l else β'.b (c.nx + (l - nx)), fun l => if l < nx then β.o l else β'.o (c.nx + (l - nx))⟩ : Lab) = βf at *
            have hagf : β.agree nx βf := by
              intro l hl
              subst hβf
              simp only [if_pos hl, and_self]
            have hmem := Rnm.sets_mem hsets
            -- an old block that may be written is one that is set
            have oldS : ∀ bk, c.wrt β0 bk → ∃ m y, m < nx ∧ heap.get m = some y ∧ y.wr = true ∧ y.blk.hb β ∧ β.b m = bk ∧ m ∈ Sets.labels sets := by
              rintro bk ⟨pr, hpr, hwr, hhb, hbk⟩
              obtain ⟨l0, x0⟩ := pr
              have hcov := f2 _ hpr
              have hwr' : x0.wr = true := hwr
              simp only [hwr', Bool.not_true, Bool.false_or] at hcov
              obtain ⟨x1, hx1⟩ := hasL_iff hcov
              obtain ⟨pm, hpm2, hrl, _⟩ := hmem.2 _ hx1
              obtain ⟨h1, h2, h3⟩ := e3 l0 x0 hpr
              rcases h3 with ⟨l', y, hlm, hy, hyw, hyh, _⟩ | ⟨hn, _⟩
              · have hl0 : l0 < c.nx := h1
                rcases keyL _ _ hrl with ⟨_, k2, k3⟩ | ⟨k1, _⟩
                · have hmm : LM.lab l' = LM.lab pm.1 := (lpOk_ok hok l0 _ l0 _ hlm k3).1 rfl
                  cases hmm
                  refine ⟨pm.1, y, k2, hy, hyw hwr, hyh.1 hhb, ?_, List.mem_map.2 ⟨pm, hpm2, rfl⟩⟩
                  rw [← (hmaps _ hlm).1]
                  exact hbk
                · simp only at k1; omega
              · exact absurd hhb hn
            -- a block that was not set is as it was
            have notS : ∀ m x, heap.get m = some x → m ∉ Sets.labels sets → x.blk.hb β → ¬ c.wrt β0 (β.b m) := by
              intro m x hx hm hh hS
              obtain ⟨m', y, h1, h2, h3, h4, h5, h6⟩ := oldS _ hS
              refine hs.inj m' m y x h2 hx (fun e => hm (e ▸ h6)) (by rw [h3]; rfl) h4 hh h5
            have hsz : w.heap.size ≤ w'.heap.size := hfrm.size
            refine ⟨βf, ⟨Nat.le_add_right _ _, hagf, ⟨fun m x hx => ?_, fun m m' x x' hx hx' hne hw hh hh' => ?_⟩, hfrm.mono fun bk _ hS => ?_, fun m x hx hlt => ?_, fun m x hx hge => ?_⟩, ?_⟩
            · by_cases hm : m ∈ Sets.labels sets
              · rw [Heap.set_of_mem hm] at hx
                obtain ⟨q0, hq0, i1, i2, i3, i4⟩ := hmem.1 _ (Sets.find_pair hx)
                obtain ⟨j1, j2, j3, j4⟩ := hL.blk q0 hq0
                have i5 := Rnm.blk_ok hRnm i2
                have i6 := hRnm.lab _ _ i1
                refine ⟨hRnm.lt _ _ i1 j1, i5.2.1 j2, fun hh => ?_, ?_⟩
                · rw [i6.1]; exact j3 (i5.1.1 hh)
                · rw [i6.1]; exact i5.2.2 _ _ j4
              · rw [Heap.set_of_not_mem hm] at hx
                obtain ⟨j1, j2, j3, j4⟩ := hs.blk m x hx
                refine ⟨Nat.lt_of_lt_of_le j1 (Nat.le_add_right _ _), Blk.below_mono (Nat.le_add_right _ _) j2, fun hh => ?_, ?_⟩
                · rw [(hagf m j1).1]
                  exact Nat.lt_of_lt_of_le (j3 ((Blk.hb_agree hagf j2).1 hh)) hsz
                · rw [(hagf m j1).1]
                  exact Blk.sat_keep j2 hagf (fun hh => hfrm.old _ (j3 hh) (notS m x hx hm hh)) j4
            · -- no two for one block
              have oldNew : ∀ m x q0 m', heap.get m = some x → m ∉ Sets.labels sets → x.blk.hb βf → q0 ∈ c.R.heap → Rnm.l ⟨p.lp ++ q.lp, c.nx, nx, a, b, k⟩ q0.1 = some m' → q0.2.wr = true → q0.2.blk.hb β' → βf.b m ≠ βf.b m' := by
                intro m x q0 m' hx hm hh hq0 hl hwr hh2 heq
                obtain ⟨j1, j2, j3, j4⟩ := hs.blk m x hx
                have hhβ := (Blk.hb_agree hagf j2).1 hh
                rw [(hagf m j1).1, (hRnm.lab _ _ hl).1] at heq
                rcases hown q0 hq0 hwr hh2 with h1 | h1
                · have := j3 hhβ
                  omega
                · rw [← heq] at h1
                  exact notS m x hx hm hhβ h1
              by_cases hm : m ∈ Sets.labels sets
              · rw [Heap.set_of_mem hm] at hx
                obtain ⟨q0, hq0, i1, i2, i3, i4⟩ := hmem.1 _ (Sets.find_pair hx)
                have i5 := Rnm.blk_ok hRnm i2
                by_cases hm' : m' ∈ Sets.labels sets
                · rw [Heap.set_of_mem hm'] at hx'
                  obtain ⟨q1, hq1, k1, k2, k3, k4⟩ := hmem.1 _ (Sets.find_pair hx')
                  have k5 := Rnm.blk_ok hRnm k2
                  rw [(hRnm.lab _ _ i1).1, (hRnm.lab _ _ k1).1]
                  refine hL.inj q0 hq0 q1 hq1 (fun e => hne ?_) (by rw [i3]; rfl) (i5.1.1 hh) (k5.1.1 hh')
                  simp only at i1 k1
                  rw [e, k1] at i1
                  cases i1
                  rfl
                · rw [Heap.set_of_not_mem hm'] at hx'
                  exact fun e => oldNew m' x' q0 m hx' hm' hh' hq0 i1 i3 (i5.1.1 hh) e.symm
              · rw [Heap.set_of_not_mem hm] at hx
                by_cases hm' : m' ∈ Sets.labels sets
                · rw [Heap.set_of_mem hm'] at hx'
                  obtain ⟨q1, hq1, k1, k2, k3, k4⟩ := hmem.1 _ (Sets.find_pair hx')
                  have k5 := Rnm.blk_ok hRnm k2
                  exact oldNew m x q1 m' hx hm hh hq1 k1 k3 (k5.1.1 hh')
                · rw [Heap.set_of_not_mem hm'] at hx'
                  obtain ⟨j1, j2, _, _⟩ := hs.blk m x hx
                  obtain ⟨j1', j2', _, _⟩ := hs.blk m' x' hx'
                  rw [(hagf m j1).1, (hagf m' j1').1]
                  exact hs.inj m m' x x' hx hx' hne hw ((Blk.hb_agree hagf j2).1 hh) ((Blk.hb_agree hagf j2').1 hh')
            · obtain ⟨m, y, h1, h2, h3, h4, h5, h6⟩ := oldS bk hS
              exact ⟨m, h6, h1, ⟨y, h2, h4⟩, h5⟩
            · obtain ⟨q0, hq0, i1, i2, i3, i4⟩ := hmem.1 _ (Sets.find_pair hx)
              simp only at i1 i2 i4
              rcases keyL _ _ i1 with ⟨k1, k2, k3⟩ | ⟨_, k2⟩
              · have hold := f3 _ hq0
                have hblt : Nat.blt q0.1 c.nx = true := by simpa using k1
                simp only [hblt, Bool.not_true, Bool.false_or] at hold
                obtain ⟨x0, hx0, hw0, hnd, hh0⟩ := oldOk_ok hold β0 β' (hag _ k1).2
                obtain ⟨_, _, h3⟩ := e3 _ x0 hx0
                rcases h3 with ⟨l', y, hlm, hy, hyw, hyh, _⟩ | ⟨hn, _, hnil⟩
                · have hmm : LM.lab l' = LM.lab m := (lpOk_ok hok _ _ _ _ hlm k3).1 rfl
                  cases hmm
                  exact ⟨y, hy, hyw hw0, fun hh => hyh.1 (hh0 ((Rnm.blk_ok hRnm i2).1.1 hh))⟩
                · rcases hnil with hnil | hnil
                  · have hmm : LM.nil = LM.lab m := (lpOk_ok hok _ _ _ _ hnil k3).1 rfl
                    cases hmm
                  · exact absurd hnil hnd
              · omega
            · obtain ⟨q0, hq0, i1, i2, i3, i4⟩ := hmem.1 _ (Sets.find_pair hx)
              obtain ⟨j1, _⟩ := hL.blk q0 hq0
              refine ⟨hRnm.lt _ _ i1 j1, fun hh => ?_⟩
              rw [(hRnm.lab _ _ i1).1]
              rcases hown q0 hq0 i3 ((Rnm.blk_ok hRnm i2).1.1 hh) with h1 | h1
              · exact .inl h1
              · obtain ⟨m0, y, h1, h2, h3, h4, h5, h6⟩ := oldS _ h1
                exact .inr ⟨m0, h6, h1, ⟨y, h2, h4⟩, h5⟩
            · have := svOfList_ren hRnm hvs hbel
              exact ⟨this.2, congrArg Ending.returned this.1.symm⟩
          · cases h
        · cases h
      · cases h
    · cases h
  · cases h
theorem ctOf_ok {P : Program} {cs : List Ctr} (h : ∀ c ∈ cs, c.fit = true ∧ c.ok P) (ρ : Env) : CallOk P ρ (ctOf cs) := by
  intro f args heap nx k l hl
  unfold ctOf at hl
  induction cs with
  | nil => cases hl
  | cons c r ih =>
    simp only [ctRun] at hl
    split at hl
    · rename_i hf
      split at hl
      · rename_i x hx
        cases hl
        rw [Nat.eq_of_beq_eq_true hf]
        exact Ctr.run_ok (h c (List.mem_cons_self ..)).1 (h c (List.mem_cons_self ..)).2 hx
      · exact ih (fun c hc => h c (List.mem_cons_of_mem _ hc)) hl
    · exact ih (fun c hc => h c (List.mem_cons_of_mem _ hc)) hl
end
end Go.Sx
/-
  SX: BLOCKS AND CONDITIONS BETWEEN PARTS.
-/
namespace Go.Sx
set_option linter.unusedSimpArgs false
set_option linter.unusedVariables false
set_option linter.unusedSectionVars false
noncomputable section
set_option linter.unusedVariables false
def blockBody (l : List Code) (i : Nat) : Code := match l[i]? with
  | some (.block _ c) => c
  | _ => .skip
def condYes (l : List Code) (i : Nat) : Code := match l[i]? with
  | some (.cond _ a _) => a
  | _ => .skip
def condNo (l : List Code) (i : Nat) : Code := match l[i]? with
  | some (.cond _ _ b) => b
  | _ => .skip
section
variable {P : Program} {x : Rn}
/-- A block: its own door leads to its end. -/
theorem From.block {C : Ctx} {s : S} {F : List Fact} {body : Code} {b : Nat} {g : Tgt} {X : List (Nat × Tgt)} (h : From P x C s F (flat body) (some g) ((b, g) :: X)) : From P x C s F [.block b body] (some g) X := by
  intro ρ0 β0 a0 w0 hF0 hs0
  show Code.wp P (.block b body) (Exit.then (WPs P [] (Post P x C ρ0 (some g) X)) (Post P x C ρ0 (some g) X)) a0 w0
  refine wp_mono (Q := Post P x C ρ0 (some g) X) ?_ fun e a w he => by cases e <;> exact he
  refine wp_block ?_
  refine WPs.flat ((h ρ0 β0 a0 w0 hF0 hs0).mono fun e a w he => ?_)
  cases e with
  | normal => exact he
  | exit b' =>
    simp only [Post, tgtOf] at he
    show Exit.inBlock b _ (.exit b') a w
    simp only [Exit.inBlock]
    cases hb : Nat.beq b' b with
    | true =>
      rw [hb] at he
      have := Nat.eq_of_beq_eq_true hb
      rw [if_pos this]
      exact he
    | false =>
      rw [hb] at he
      have := Nat.ne_of_beq_eq_false hb
      rw [if_neg this]
      simp only [Post]
      exact he
  | ret => exact he
  | panic ch => exact he
  | outgrown => exact he
  | goto l => exact he
theorem From.condT {C : Ctx} {s : S} {F : List Fact} {t : Nat} {e : E} {y n : Code} {N : Option Tgt} {X : List (Nat × Tgt)} (hs : s.slots.get t = some (.v (.one (.bool e)))) (he : ∀ ρ, e.den ρ ≠ 0) (h : From P x C s F (flat y) N X) :
    From P x C s F [.cond (.tmp t) y n] N X := by
  intro ρ0 β0 a0 w0 hF0 hs0
  show Code.wp P (.cond (.tmp t) y n) (Exit.then (WPs P [] (Post P x C ρ0 N X)) (Post P x C ρ0 N X)) a0 w0
  refine wp_mono (Q := Post P x C ρ0 N X) ?_ fun e a w he => by cases e <;> exact he
  have hev : a0.eval (.tmp t) = .bool (decide (e.den ρ0 ≠ 0)) := (hs0.sat.sa.ev (.tmp t) _ hs).2
  exact wp_cond_true (by rw [hev]; simp [he ρ0]) (WPs.flat (h ρ0 β0 a0 w0 hF0 hs0))
theorem From.condF {C : Ctx} {s : S} {F : List Fact} {t : Nat} {e : E} {y n : Code} {N : Option Tgt} {X : List (Nat × Tgt)} (hs : s.slots.get t = some (.v (.one (.bool e)))) (he : ∀ ρ, e.den ρ = 0) (h : From P x C s F (flat n) N X) :
    From P x C s F [.cond (.tmp t) y n] N X := by
  intro ρ0 β0 a0 w0 hF0 hs0
  show Code.wp P (.cond (.tmp t) y n) (Exit.then (WPs P [] (Post P x C ρ0 N X)) (Post P x C ρ0 N X)) a0 w0
  refine wp_mono (Q := Post P x C ρ0 N X) ?_ fun e a w he => by cases e <;> exact he
  have hev : a0.eval (.tmp t) = .bool (decide (e.den ρ0 ≠ 0)) := (hs0.sat.sa.ev (.tmp t) _ hs).2
  exact wp_cond_false (by rw [hev]; simp [he ρ0]) (WPs.flat (h ρ0 β0 a0 w0 hF0 hs0))
/-- One part behind another, by an index. -/
theorem From.at {C : Ctx} {s : S} {F : List Fact} {l : List Code} (i : Nat) {g : Tgt} {N : Option Tgt} {X : List (Nat × Tgt)} (h0 : From P x C s F (l.take i) (some g) X) (h2 : AllF P x C g (l.drop i) N X) {c : List Nat} (hc : g.c = c.map fun i => (i, none))
    (hN : ∀ g', N = some g' → ∀ p ∈ g'.c, p.1 ∈ c) (hX : ∀ i g', tgtOf X i = some g' → ∀ p ∈ g'.c, p.1 ∈ c) : From P x C s F l N X := by
  have h := From.seq h0 h2 hc hN hX
  rwa [List.take_append_drop] at h
/-- A list of parts with an item of its own in it. -/
theorem From.cutI {C : Ctx} {s : S} {F : List Fact} {l : List Code} {i : Nat} {c0 : Code} (hl : l[i]? = some c0) {g gE : Tgt} {N : Option Tgt} {X : List (Nat × Tgt)} (h0 : From P x C s F (l.take i) (some g) X)
    (hL : AllF P x C g [c0] (some gE) X) (h2 : AllF P x C gE (l.drop (i + 1)) N X) {c : List Nat} (hc : g.c = c.map fun i => (i, none)) (hcE : gE.c = c.map fun i => (i, none))
    (hN : ∀ g', N = some g' → ∀ p ∈ g'.c, p.1 ∈ c) (hX : ∀ i g', tgtOf X i = some g' → ∀ p ∈ g'.c, p.1 ∈ c) : From P x C s F l N X := by
  rw [cut_at hl]
  refine From.seq h0 ?_ hc hN hX
  intro p hp
  show From P x C p.1.toS p.2 ([c0] ++ l.drop (i + 1)) N X
  exact From.seq (hL p hp) h2 hcE hN hX
/-- The item is the last one. -/
theorem From.cutL {C : Ctx} {s : S} {F : List Fact} {l : List Code} {i : Nat} {c0 : Code} (hl : l.drop i = [c0]) {g : Tgt} {N : Option Tgt} {X : List (Nat × Tgt)} (h0 : From P x C s F (l.take i) (some g) X)
    (hL : AllF P x C g [c0] N X) {c : List Nat} (hc : g.c = c.map fun i => (i, none))
    (hN : ∀ g', N = some g' → ∀ p ∈ g'.c, p.1 ∈ c) (hX : ∀ i g', tgtOf X i = some g' → ∀ p ∈ g'.c, p.1 ∈ c) : From P x C s F l N X := by
  have h := From.seq h0 hL hc hN hX
  rwa [← hl, List.take_append_drop] at h
theorem AllF.cutI {C : Ctx} {g0 : Tgt} {l : List Code} {i : Nat} {c0 : Code} (hl : l[i]? = some c0) {g gE : Tgt} {N : Option Tgt} {X : List (Nat × Tgt)} (h0 : AllF P x C g0 (l.take i) (some g) X)
    (hL : AllF P x C g [c0] (some gE) X) (h2 : AllF P x C gE (l.drop (i + 1)) N X) {c : List Nat} (hc : g.c = c.map fun i => (i, none)) (hcE : gE.c = c.map fun i => (i, none))
    (hN : ∀ g', N = some g' → ∀ p ∈ g'.c, p.1 ∈ c) (hX : ∀ i g', tgtOf X i = some g' → ∀ p ∈ g'.c, p.1 ∈ c) : AllF P x C g0 l N X :=
  fun p hp => From.cutI hl (h0 p hp) hL h2 hc hcE hN hX
/-- An item alone. -/
theorem From.item {C : Ctx} {s : S} {F : List Fact} {l : List Code} {c : Code} (hl : l = [c]) {N : Option Tgt} {X : List (Nat × Tgt)} (h : From P x C s F [c] N X) : From P x C s F l N X := hl ▸ h
end
end
end Go.Sx
/-
  SX: A ROW THAT COMES IN, WITH SLICES IN IT, IS LOADED: its numbers and lengths are tables' that the law's beginning fixes; its slices are labels of their own.
-/
namespace Go.Sx
set_option linter.unusedSimpArgs false
set_option linter.unusedVariables false
set_option linter.unusedSectionVars false
noncomputable section
set_option linter.unusedVariables false
/-- What a column of a row holds. -/
inductive Col where
  | int (k : IntKind) | slc (kd : CK)
def rowBig : Int := 1125899906842624
/-- Tables from 50 on: numbers and lengths; capacities; from 53 on by columns: what the slices hold. -/
def ColOk (W : World) (ρ : Env) (i : Nat) (c : Nat) (v : Value) : Col → Prop
  | .int k => v = .int k (k.wrap (ρ.t 50 i c))
  | .slc kd => v = .slice none 0 0 ∨ (∃ a, v = .slice (some a) 0 0) ∨ ∃ b off, v = .slice (some ⟨b, off, none⟩) (ρ.t 50 i c).toNat (ρ.t 51 i c).toNat ∧ (0 ≤ ρ.t 50 i c ∧ ρ.t 50 i c ≤ 18446744073709551615) ∧ (0 ≤ ρ.t 51 i c ∧ ρ.t 51 i c ≤ 18446744073709551615) ∧ b < W.heap.size ∧ ∀ r : Nat, (r : Int) < ρ.t 50 i c → (r : Int) < rowBig → W.cell? ⟨b, off + r, none⟩ = some (kd.val (ρ.t (53 + c) (r + i * rowBig) 0))
def RowsAt (W : World) (ρ : Env) (b f nv : Nat) (cols : List Col) : Prop :=
  b < W.heap.size ∧ ∀ i : Nat, (i : Int) < ρ.v nv → ∀ (c : Nat) (col : Col), cols[c]? = some col → ∃ v, W.cell? ⟨b, f + i * cols.length + c, none⟩ = some v ∧ ColOk W ρ i c v col
def rowTab (idx : E) (c nx : Nat) (kd : CK) : Ent := ⟨false, .tab nx (.app 0 (.tv (53 + c)) (.bin (.mul .i64) idx (.lit rowBig))) (.ite (.bin .lt (.un (.wrap .u64) (.get (.tv 50) idx c)) (.lit rowBig)) (.un (.wrap .u64) (.get (.tv 50) idx c)) (.lit rowBig)) [kd]⟩
def rowGo (idx : E) : List Col → List Nat → Nat → Nat → List CV × Sets × Nat
  | [], _, _, nx => ([], [], nx)
  | .int k :: r, fl, c, nx => match rowGo idx r fl (c + 1) nx with | (cs, hs, m) => (.int k (.un (.wrap k) (.get (.tv 50) idx c)) :: cs, hs, m)
  | .slc kd :: r, 1 :: fl, c, nx => (match rowGo idx r fl (c + 1) (nx + 1) with | (cs, hs, m) => (.osl nx :: cs, (nx, ⟨false, .seq nx (.tv 0) (.lit 0) [kd] 0⟩) :: hs, m))
  | .slc kd :: r, _ :: fl, c, nx => (match rowGo idx r fl (c + 1) (nx + 1) with | (cs, hs, m) => (.tslc nx 1 (.lit 0) (.un (.wrap .u64) (.get (.tv 50) idx c)) (.un (.wrap .u64) (.get (.tv 51) idx c)) :: cs, (nx, rowTab idx c nx kd) :: hs, m))
  | .slc kd :: r, [], c, nx => ([], [], nx)
def rowFl : List Col → List (List Nat)
  | [] => [[]]
  | .int _ :: r => rowFl r
  | .slc _ :: r => (rowFl r).flatMap fun fl => [1 :: fl, 2 :: fl]
def rowState (s : S) (d : Nat) (idx : E) (cols : List Col) (fl : List Nat) : S := match rowGo idx cols fl 0 s.nx with
  | (cs, hs, m) => (⟨s.slots, putSets s.heap hs, m, s.log⟩ : S).after (some d) ⟨.v (.agg cs), [], m⟩
/-- A read-only label more. -/
theorem TS.addRO {C : Ctx} {ρ : Env} {β : Lab} {nt : Nat} {s : S} {a : Act} {w : World} (hs : TS C ρ β nt s a w) (b : Nat) (o : Value) (blk : Blk) (hb : b < C.W.heap.size) (hS : ¬ C.S b) (hbel : blk.below (s.nx + 1))
    (hsat : ∀ β' : Lab, β'.b s.nx = b → β'.o s.nx = o → blk.sat ρ β' b w) : TS C ρ (β.updV s.nx b o) nt ⟨s.slots, T.put 40 s.heap s.nx ⟨false, blk⟩, s.nx + 1, s.log⟩ a w := by
  have ag := Lab.updV_agree β s.nx b o
  have hsame := Lab.updV_same β s.nx b o
  have hget : ∀ l x, (T.put 40 s.heap s.nx ⟨false, blk⟩).get l = some x → (l = s.nx ∧ x = ⟨false, blk⟩) ∨ (l < s.nx ∧ s.heap.get l = some x) := by
    intro l x h
    rcases T.get_put 40 s.heap s.nx l ⟨false, blk⟩ x h with ⟨rfl, rfl⟩ | ⟨_, e⟩
    · exact .inl ⟨rfl, rfl⟩
    · exact .inr ⟨(hs.sat.sh.blk l x e).1, e⟩
  refine ⟨⟨⟨fun t v ht => ?_, hs.sat.sa.defers⟩, hs.sat.sz, fun l x hl => ?_, fun l l' x x' hl hl' hne hw h1 h2 => ?_⟩, hs.frm, fun l x hl hw hh => ?_, hs.fix, fun l hl => ?_, Nat.le_trans hs.le (Nat.le_succ _)⟩
  · obtain ⟨h1, h2⟩ := hs.sat.sa.slot t v ht
    refine ⟨SV.below_mono (Nat.le_succ _) h1, ?_⟩
    rw [SV.den_agree ag h1]
    exact h2
  · rcases hget l x hl with ⟨rfl, rfl⟩ | ⟨hlt, hl⟩
    · refine ⟨Nat.lt_succ_self _, hbel, fun _ => ?_, ?_⟩
      · rw [hsame.1]
        exact Nat.lt_of_lt_of_le hb hs.frm.size
      · rw [hsame.1]
        exact hsat _ hsame.1 hsame.2
    · obtain ⟨h1, h2, h3, h4⟩ := hs.sat.sh.blk l x hl
      refine ⟨Nat.lt_succ_of_lt h1, Blk.below_mono (Nat.le_succ _) h2, fun hh => ?_, ?_⟩
      · rw [(ag l h1).1]
        exact h3 ((Blk.hb_agree ag h2).1 hh)
      · rw [(ag l h1).1]
        exact Blk.sat_keep h2 ag (fun _ => rfl) h4
  · have old : ∀ l x, l < s.nx → s.heap.get l = some x → x.wr = true → x.blk.hb (β.updV s.nx b o) → (β.updV s.nx b o).b l ≠ b := by
      intro l x hlt hl hw hh
      have hbl := (hs.sat.sh.blk l x hl).2.1
      rw [(ag l hlt).1]
      rcases hs.own l x hl hw ((Blk.hb_agree ag hbl).1 hh) with h | h
      · omega
      · intro e
        rw [e] at h
        exact hS h
    rcases hget l x hl with ⟨rfl, rfl⟩ | ⟨hlt, hl⟩
    · rcases hget l' x' hl' with ⟨rfl, rfl⟩ | ⟨hlt', hl'⟩
      · exact absurd rfl hne
      · rw [hsame.1]
        exact (old l' x' hlt' hl' (by simpa using hw) h2).symm
    · rcases hget l' x' hl' with ⟨rfl, rfl⟩ | ⟨hlt', hl'⟩
      · rw [hsame.1]
        exact old l x hlt hl (by simpa using hw) h1
      · rw [(ag l hlt).1, (ag l' hlt').1]
        exact hs.sat.sh.inj l l' x x' hl hl' hne hw ((Blk.hb_agree ag (hs.sat.sh.blk l x hl).2.1).1 h1) ((Blk.hb_agree ag (hs.sat.sh.blk l' x' hl').2.1).1 h2)
  · rcases hget l x hl with ⟨rfl, rfl⟩ | ⟨hlt, hl⟩
    · cases hw
    · rw [(ag l hlt).1]
      exact hs.own l x hl hw ((Blk.hb_agree ag (hs.sat.sh.blk l x hl).2.1).1 hh)
  · have h1 := ag l (Nat.lt_of_lt_of_le hl hs.le)
    exact ⟨h1.1.trans (hs.lab l hl).1, h1.2.trans (hs.lab l hl).2⟩

theorem rowGo_len (idx : E) : ∀ (cols : List Col) (fl : List Nat) (c nx : Nat), fl ∈ rowFl cols → (rowGo idx cols fl c nx).1.length = cols.length
  | [], fl, c, nx, _ => rfl
  | .int k :: r, fl, c, nx, h => by
    simp only [rowGo, List.length_cons]
    rw [rowGo_len idx r fl (c + 1) nx h]
  | .slc kd :: r, fl, c, nx, h => by
    simp only [rowFl, List.mem_flatMap] at h
    obtain ⟨f, hf, h⟩ := h
    simp only [List.mem_cons, List.not_mem_nil, or_false] at h
    rcases h with rfl | rfl
    · simp only [rowGo, List.length_cons]
      rw [rowGo_len idx r f (c + 1) (nx + 1) hf]
    · simp only [rowGo, List.length_cons]
      rw [rowGo_len idx r f (c + 1) (nx + 1) hf]
theorem row_go {C : Ctx} {ρ : Env} {nt : Nat} {a : Act} {w : World} {idx : E} {i : Nat} (hpos : 0 < C.W.heap.size) (hidx : idx.den ρ = i) (hi : i < 100) (hS : ∀ k, k < C.W.heap.size → ¬ C.S k) :
    ∀ (cols : List Col) (c : Nat) (s : S) (β : Lab) (vs : List Value), TS C ρ β nt s a w → vs.length = cols.length → (∀ (j : Nat) (col : Col) (v : Value), cols[j]? = some col → vs[j]? = some v → ColOk C.W ρ i (c + j) v col) →
    ∃ fl ∈ rowFl cols, ∃ β', TS C ρ β' nt ⟨s.slots, putSets s.heap (rowGo idx cols fl c s.nx).2.1, (rowGo idx cols fl c s.nx).2.2, s.log⟩ a w ∧ β.agree s.nx β' ∧ s.nx ≤ (rowGo idx cols fl c s.nx).2.2 ∧
      (rowGo idx cols fl c s.nx).1.map (CV.den ρ β') = vs ∧ ∀ cv ∈ (rowGo idx cols fl c s.nx).1, CV.below (rowGo idx cols fl c s.nx).2.2 cv := by
  intro cols
  induction cols with
  | nil =>
    intro c s β vs hs hl hv
    have : vs = [] := List.eq_nil_of_length_eq_zero hl
    subst this
    exact ⟨[], List.mem_singleton.2 rfl, β, hs, Lab.agree_refl _ _, Nat.le_refl _, rfl, fun cv h => (by cases h)⟩
  | cons col0 r ih =>
   intro c s β vs0 hs hl hv
   obtain ⟨v, vs, rfl⟩ : ∃ v vs, vs0 = v :: vs := by
    cases vs0 with
    | nil => simp at hl
    | cons v vs => exact ⟨v, vs, rfl⟩
   cases col0 with
   | int k =>
    obtain ⟨fl, hfl, β', h1, h2, h3, h4, h5⟩ := ih (c + 1) s β vs hs (by simpa using hl) (fun j col v' h h' => by
      have := hv (j + 1) col v' h h'
      rwa [show c + (j + 1) = c + 1 + j by omega] at this)
    refine ⟨fl, hfl, β', h1, h2, h3, ?_, fun cv h => ?_⟩
    · have h6 := hv 0 (.int k) v rfl rfl
      simp only [ColOk] at h6
      simp only [rowGo, List.map_cons, h4, CV.den, E.den, E.tden, UO.den, hidx, h6, Nat.add_zero]
    · simp only [rowGo, List.mem_cons] at h
      rcases h with rfl | h
      · trivial
      · exact h5 cv h
   | slc kd =>
    have htail : ∀ (j : Nat) (col : Col) (v' : Value), r[j]? = some col → vs[j]? = some v' → ColOk C.W ρ i (c + 1 + j) v' col := fun j col v' h h' => by
      have := hv (j + 1) col v' h h'
      rwa [show c + (j + 1) = c + 1 + j by omega] at this
    have hv0 : (∃ ad, v = .slice ad 0 0) ∨ _ := (hv 0 (.slc kd) v rfl rfl).elim (fun h => .inl ⟨none, h⟩) fun h => h.elim (fun h => .inl (h.elim fun ad h => ⟨some ad, h⟩)) .inr
    rcases hv0 with ⟨ad, hnn⟩ | ⟨b, off, hsl, hlen0, hcap0, hb, hcell⟩
    · have hs1 := hs.addRO 0 (.slice ad 0 0) (.seq s.nx (.tv 0) (.lit 0) [kd] 0) (Nat.lt_of_lt_of_le hpos (Nat.le_refl _)) (hS 0 hpos) (Nat.lt_succ_self _) (fun β1 e1 e2 => ⟨ad, 0, e2, Nat.le_refl _, fun h => absurd h (Nat.lt_irrefl _)⟩)
      obtain ⟨fl, hfl, β', h1, h2, h3, h4, h5⟩ := ih (c + 1) _ _ vs hs1 (by simpa using hl) htail
      have hag := Lab.updV_agree β s.nx 0 (.slice ad 0 0)
      have hsame := Lab.updV_same β s.nx 0 (.slice ad 0 0)
      have hlast := h2 s.nx (Nat.lt_succ_self _)
      simp only at h1 h2 h3 h4 h5 hlast
      generalize hR : rowGo idx r fl (c + 1) (s.nx + 1) = R at h1 h3 h4 h5
      obtain ⟨cs, sets, m⟩ := R
      have e : rowGo idx (.slc kd :: r) (1 :: fl) c s.nx = (.osl s.nx :: cs, (s.nx, ⟨false, .seq s.nx (.tv 0) (.lit 0) [kd] 0⟩) :: sets, m) := by simp only [rowGo, hR]
      refine ⟨1 :: fl, List.mem_flatMap.2 ⟨fl, hfl, List.mem_cons_self ..⟩, β', ?_⟩
      rw [e]
      simp only at h1 h3 h4 h5 ⊢
      refine ⟨?_, fun l hl => ?_, Nat.le_trans (Nat.le_succ _) h3, ?_, fun cv h => ?_⟩
      · simp only [putSets]
        exact h1
      · have k1 := h2 l (Nat.lt_succ_of_lt hl)
        have k2 := hag l hl
        exact ⟨k1.1.trans k2.1, k1.2.trans k2.2⟩
      · simp only [List.map_cons, h4, CV.den, hnn, hlast.2, hsame.2, addrOf, lenOfV, capOf]
      · simp only [List.mem_cons] at h
        rcases h with rfl | h
        · exact Nat.lt_of_lt_of_le (Nat.lt_succ_self _) h3
        · exact h5 cv h
    · rw [Nat.add_zero] at hsl hcell
      have hbig : IntKind.i64.wrap ((i : Int) * rowBig) = (i : Int) * rowBig := by
        unfold rowBig
        exact wrap_i64 ⟨by omega, by omega⟩
      rw [Nat.add_zero] at hlen0 hcap0
      have w50 : IntKind.u64.wrap (ρ.t 50 (i : Int) c) = ρ.t 50 (i : Int) c := wrap_in (by simpa [kmin, kmax] using hlen0)
      have w51 : IntKind.u64.wrap (ρ.t 51 (i : Int) c) = ρ.t 51 (i : Int) c := wrap_in (by simpa [kmin, kmax] using hcap0)
      have hs1 := hs.addRO b (.int .i64 off) (rowTab idx c s.nx kd).blk hb (hS b hb) (Nat.lt_succ_self _) (fun β1 e1 e2 => by
        intro r' hr' j kd' hj
        have hr2 : (r' : Int) < ρ.t 50 i c ∧ (r' : Int) < rowBig := by
          simp only [E.den, E.tden, BO.den, UO.den, hidx, w50] at hr'
          by_cases hlt : ρ.t 50 (i : Int) c < rowBig
          · simp only [if_pos hlt, Int.one_ne_zero, if_false] at hr'
            omega
          · simp only [if_neg hlt, if_true] at hr'
            omega
        cases j with
        | succ j => simp at hj
        | zero =>
          simp only [List.getElem?_cons_zero, Option.some.injEq] at hj
          subst hj
          have hf : β1.f s.nx = off := by unfold Lab.f; rw [e2]; simp
          simp only [List.length_cons, List.length_nil, Nat.zero_add, Nat.mul_one, Nat.add_zero, hf, E.tden, E.den, BO.den, hidx, hbig]
          have hk : w.cell? ⟨b, off + r', none⟩ = C.W.cell? ⟨b, off + r', none⟩ := by
            simp only [World.cell?, hs.frm.old b hb (hS b hb)]
          rw [hk]
          exact hcell r' hr2.1 hr2.2)
      obtain ⟨fl, hfl, β', h1, h2, h3, h4, h5⟩ := ih (c + 1) _ _ vs hs1 (by simpa using hl) htail
      have hag := Lab.updV_agree β s.nx b (.int .i64 off)
      have hsame := Lab.updV_same β s.nx b (.int .i64 off)
      have hlast := h2 s.nx (Nat.lt_succ_self _)
      have e2 : (⟨false, (rowTab idx c s.nx kd).blk⟩ : Ent) = rowTab idx c s.nx kd := rfl
      simp only at h1 h2 h3 h4 h5 hlast
      rw [e2] at h1
      generalize hR : rowGo idx r fl (c + 1) (s.nx + 1) = R at h1 h3 h4 h5
      obtain ⟨cs, sets, m⟩ := R
      have e : rowGo idx (.slc kd :: r) (2 :: fl) c s.nx = (.tslc s.nx 1 (.lit 0) (.un (.wrap .u64) (.get (.tv 50) idx c)) (.un (.wrap .u64) (.get (.tv 51) idx c)) :: cs, (s.nx, rowTab idx c s.nx kd) :: sets, m) := by simp only [rowGo, hR]
      refine ⟨2 :: fl, List.mem_flatMap.2 ⟨fl, hfl, List.mem_cons_of_mem _ (List.mem_cons_self ..)⟩, β', ?_⟩
      rw [e]
      simp only at h1 h3 h4 h5 ⊢
      refine ⟨?_, fun l hl => ?_, Nat.le_trans (Nat.le_succ _) h3, ?_, fun cv h => ?_⟩
      · simp only [putSets]
        exact h1
      · have k1 := h2 l (Nat.lt_succ_of_lt hl)
        have k2 := hag l hl
        exact ⟨k1.1.trans k2.1, k1.2.trans k2.2⟩
      · have hf : β'.f s.nx = off := by unfold Lab.f; rw [hlast.2, hsame.2]; simp
        simp only [List.map_cons, h4, CV.den, E.den, E.tden, UO.den, hidx, w50, w51, hsl, hf, hlast.1, hsame.1]
        simp
      · simp only [List.mem_cons] at h
        rcases h with rfl | h
        · exact Nat.lt_of_lt_of_le (Nat.lt_succ_self _) h3
        · exact h5 cv h
/-- The load of a row. -/
theorem row_step {P : Program} {x : Rn} {C : Ctx} {s : S} {o : Oper} (hty : TysOk P x.ty) {nv : Nat} {cols : List Col} (hraw : RowsAt C.W C.ρ0 (C.β0.b 0) (C.β0.f 0) nv cols)
    (hn0 : 1 ≤ C.n0) (hS : ∀ k, k < C.W.heap.size → ¬ C.S k) {t : TypeId} {tp d : Tmp} {idx : E} {ti : TI} (ho : o.op = .load t (.tmp tp)) (hg : o.guard = none) (hd : o.dst = some d) (hdn : d < x.fn.ntmps)
    (hslot : s.slots.get tp = some (.v (.one (.tptr 0 cols.length idx 0)))) (hti : x.ty t = some ti) (hagg : ti.agg = true) (hsz : ti.size = cols.length) (hnv : nv < 100) (hcl : 60 < 100)
    {ρ : Env} (hidx : 0 ≤ idx.den ρ ∧ idx.den ρ < ρ.v nv ∧ idx.den ρ < 100) (hcols : cols.length < 40)
    {β : Lab} {a : Act} {w : World} (hs : TS C ρ β x.fn.ntmps s a w) :
    ∃ fl ∈ rowFl cols, ∃ β' v, (execOp a.eval o).run P w = .ok (.value v) w ∧ TS C ρ β' x.fn.ntmps (rowState s d idx cols fl) (a.put (some d) v) w := by
  obtain ⟨hi0, hi1, hi2⟩ := hidx
  obtain ⟨i, hi⟩ : ∃ i : Nat, idx.den ρ = i := ⟨(idx.den ρ).toNat, by omega⟩
  have hfx : ∀ j, j < 100 → ρ.t j = C.ρ0.t j := fun j hj => (hs.fix j hj).2
  have hlab := hs.lab 0 (by omega)
  have hb0 : β.b 0 = C.β0.b 0 := hlab.1
  have hf0 : β.f 0 = C.β0.f 0 := by unfold Lab.f; rw [hlab.2]
  have hrow := hraw.2 i (by rw [← hi, ← (hs.fix nv hnv).1]; exact hi1)
  -- the row's values
  have hvals : ∀ c, c < cols.length → ∃ v, w.cell? ⟨β.b 0, β.f 0 + i * cols.length + c, none⟩ = some v ∧ ∀ col, cols[c]? = some col → ColOk C.W ρ i c v col := by
    intro c hc
    obtain ⟨v, h1, h2⟩ := hrow c cols[c] (List.getElem?_eq_getElem hc)
    refine ⟨v, ?_, fun col hcol => ?_⟩
    · rw [hb0, hf0, ← h1]
      simp only [World.cell?, hs.frm.old _ hraw.1 (hS _ hraw.1)]
    · rw [List.getElem?_eq_getElem hc] at hcol
      cases hcol
      generalize cols[c] = col at h2
      cases col with
      | int k => simp only [ColOk] at h2 ⊢; rw [hfx 50 (by omega)]; exact h2
      | slc kd =>
        simp only [ColOk] at h2 ⊢
        rw [hfx 50 (by omega), hfx 51 (by omega), hfx (53 + c) (by omega)]
        exact h2
  obtain ⟨vs, hvl, hvs⟩ : ∃ vs : List Value, vs.length = cols.length ∧ ∀ (c : Nat) (v : Value), vs[c]? = some v → w.cell? ⟨β.b 0, β.f 0 + i * cols.length + c, none⟩ = some v ∧ ∀ col, cols[c]? = some col → ColOk C.W ρ i c v col := by
    refine ⟨(List.range cols.length).map fun c => (w.cell? ⟨β.b 0, β.f 0 + i * cols.length + c, none⟩).getD .nilFunc, by simp, fun c v hv => ?_⟩
    rw [List.getElem?_map] at hv
    by_cases hc : c < cols.length
    · rw [List.getElem?_range hc] at hv
      simp only [Option.map_some, Option.some.injEq] at hv
      obtain ⟨v', h1, h2⟩ := hvals c hc
      rw [h1] at hv
      simp only [Option.getD_some] at hv
      subst hv
      exact ⟨h1, h2⟩
    · rw [List.getElem?_eq_none (by simpa using hc)] at hv
      cases hv
  obtain ⟨fl, hfl, β', h1, h2, h3, h4, h5⟩ := row_go (Nat.lt_of_le_of_lt (Nat.zero_le _) hraw.1) hi (by omega) hS cols 0 s β vs hs hvl (fun j col v hc hv => by
    rw [Nat.zero_add]
    exact (hvs j v hv).2 col hc)
  have hlen := rowGo_len idx cols fl 0 s.nx hfl
  have hev : a.eval (.tmp tp) = .pointer (some ⟨β.b 0, β.f 0 + i * cols.length, none⟩) := by
    have := (hs.sat.sa.ev (.tmp tp) _ hslot).2
    rw [this]
    simp only [SV.den, V1.den, CV.den, hi, Int.toNat_natCast, Nat.add_zero]
  have hsub : sub1 (rowGo idx cols fl 0 s.nx).1 ti.agg 0 ti.size = some (.agg (rowGo idx cols fl 0 s.nx).1) := by
    unfold sub1
    rw [if_pos hagg, if_pos (by rw [hlen, hsz]; exact Nat.ble_eq_true_of_le (by omega))]
    simp only [List.drop_zero, hsz]
    rw [List.take_of_length_le (by omega)]
  have hload := load_cells (ρ := ρ) (β := β') (w := w) (b := β.b 0) (o0 := β.f 0 + i * cols.length) (hty _ _ hti) hsub h5 (fun m c hm => by
    have hm' : vs[m]? = some (c.den ρ β') := by rw [← h4, List.getElem?_map, hm]; rfl
    exact (hvs m _ hm').1)
  have hrun : (execOp a.eval o).run P w = .ok (.value ((V1.agg (rowGo idx cols fl 0 s.nx).1).den ρ β')) w := by
    rw [Nat.add_zero] at hload
    simp only [execOp, ho, Instr.loadAt, Instr.sureAddr, hev, Sem.run_bind, Sem.run_pure, Result.andThen_ok, hload.2]
  have hgo := putSlot_ok h1.sat (d := some d) (fun t ht => by cases ht; exact hdn) (e := ⟨.v (.agg (rowGo idx cols fl 0 s.nx).1), [], (rowGo idx cols fl 0 s.nx).2.2⟩) (Step.refl h1.sat.sh) hload.1
  have hts := h1.goes hgo
  exact ⟨fl, hfl, β', _, hrun, hts⟩
def RGoodR (P : Program) (ρ : Env) (nt : Nat) (all ops rest : List Oper) (s : S) (s' : S) : Prop :=
  ∀ (Δ : List Deferred) (β : Lab) (a : Act) (w : World), SatS Δ ρ β nt s a w → ∀ Q : Exit → Act → World → Prop, (∀ β' a' w', Goes Δ ρ β nt s w β' s' a' w' → wpList P all.toArray Q rest a' w') → wpList P all.toArray Q (ops ++ rest) a w
section
variable {P : Program} {ty : Tys} (hty : TysOk P ty) {ρ : Env}
include hty in
theorem seqR_ok {callF : CallF} (hc : CallOk P ρ callF) {fnm : FuncId → Option Func} (hfn : FnOk P fnm) (hdom : ∀ f args heap nx k l, callF f args heap nx k = some l → ∃ g, fnm f = some g ∧ g.body.isSome = true) {nt : Nat} {all rest : List Oper} :
    ∀ (ops : List Oper) (k : Known) (s : S) (l : List (Known × S)), seqOps ty callF nt all ops k s = some l → AltsOk ρ k l (RGoodR P ρ nt all ops rest s)
  | [], k, s, l, h => by
    cases h
    exact AltsOk.single fun _ Δ β a w hs Q hQ => hQ β a w (Goes.refl hs)
  | o :: r, k, s, l, h => by
    simp only [seqOps, bindS_eq, Known.whK_eq, Eff.deepK_eq, S.afterK_eq] at h
    split at h
    · rename_i hd
      have hd' : ∀ t, o.dst = some t → t < nt := by
        intro t ht
        unfold dstOk at hd
        rw [ht] at hd
        simpa [Nat.blt_eq] using hd
      split at h
      · rename_i gs hgs
        refine (guard_ok hgs).bind h fun k' b ys hys => ?_
        split at hys
        · split at hys
          · rename_i es hes
            refine (op_ok hty hc hfn hdom hes).bind hys fun k'' e zs hzs => ?_
            refine (seqR_ok (rest := rest) hc hfn hdom r k'' _ zs hzs).weaken fun s' hs' he hw => ?_
            intro Δ β a w hs Q hQ
            have hwant := hw Δ β s.nx a hs.sa
            show wpList P all.toArray Q (o :: (r ++ rest)) a w
            unfold wpList
            rw [if_pos (by rw [hwant])]
            left
            refine he β a w hs.sa.ev hs.sh _ _ fun β' w' hst hbl => ?_
            have hg := putSlot_ok hs hd' hst hbl
            exact hs' Δ β' _ w' hg.sat Q fun β'' a'' w'' hg' => hQ _ _ _ (Goes.trans hs.sh hg hg')
          · cases hys
        · have hb : ¬ (false = true) := by simp
          refine (seqR_ok (rest := rest) hc hfn hdom r k' _ ys hys).weaken fun s' hs' hw => ?_
          intro Δ β a w hs Q hQ
          have hwant := hw Δ β s.nx a hs.sa
          show wpList P all.toArray Q (o :: (r ++ rest)) a w
          unfold wpList
          rw [if_neg (by rw [hwant]; exact hb)]
          have hg := putSlot_ok hs hd' (e := ⟨undefSV, [], s.nx⟩) (Step.refl hs.sh) (fun x hx => (by cases hx))
          exact hs' Δ β _ w hg.sat Q fun β'' a'' w'' hg' => hQ _ _ _ (Goes.trans hs.sh hg hg')
      · cases h
    · cases h
end
/-- A run of operations that goes one way alone. -/
def oneRun (x : Rn) (all ops : List Oper) (F : List Fact) (s : S) : Option S := match seqOps x.ty noCt x.fn.ntmps all ops (Known.nil.adds F) s with
  | some [(_, s')] => some s'
  | _ => none
def oneS (x : Rn) (all ops : List Oper) (F : List Fact) (s : S) : S := (oneRun x all ops F s).getD s
theorem one_ok {P : Program} {x : Rn} (hty : TysOk P x.ty) (hfn : FnOk P x.fm) {all ops rest : List Oper} {F : List Fact} {s : S} (h : (oneRun x all ops F s).isSome = true) {ρ : Env} (hF : ∀ g ∈ F, Fact.holds ρ g) : RGoodR P ρ x.fn.ntmps all ops rest s (oneS x all ops F s) := by
  obtain ⟨s', hs'⟩ := Option.isSome_iff_exists.1 h
  have e : oneS x all ops F s = s' := by unfold oneS; rw [hs']; rfl
  rw [e]
  unfold oneRun at hs'
  split at hs'
  · rename_i k' s1 hseq
    cases hs'
    have hx := seqR_ok (rest := rest) hty (noCt_ok (P := P) (ρ := ρ)) hfn (fun f args heap nx k l h => by cases h) _ _ _ _ hseq
    have hk := Known.adds_holds (Known.nil_holds ρ) hF
    obtain ⟨o, ho, hok⟩ := hx.1 hk
    have := (hx.2 o ho hok).2
    simp only [List.mem_singleton] at ho
    subst ho
    exact this
  · cases hs'
/-- A region in which a row is loaded: the rest is run for each way of what the row's slices may be. -/
theorem From.rowRegion {P : Program} {x : Rn} {C : Ctx} {s : S} {F : List Fact} {l : List Code} {id : Nat} {pre post : List Oper} {o : Oper} {N : Option Tgt} {X : List (Nat × Tgt)} (hty : TysOk P x.ty) (hfn : FnOk P x.fm)
    (hl : l[0]? = some (.region id (pre ++ o :: post).toArray false)) (hpre : (oneRun x (pre ++ o :: post) pre F s).isSome = true) {nv : Nat} {cols : List Col} (hraw : RowsAt C.W C.ρ0 (C.β0.b 0) (C.β0.f 0) nv cols)
    (hn0 : 1 ≤ C.n0) (hS : ∀ k, k < C.W.heap.size → ¬ C.S k) {t : TypeId} {tp d : Tmp} {idx : E} {ti : TI} (ho : o.op = .load t (.tmp tp)) (hg : o.guard = none) (hd : o.dst = some d) (hdn : d < x.fn.ntmps)
    (hslot : (oneS x (pre ++ o :: post) pre F s).slots.get tp = some (.v (.one (.tptr 0 cols.length idx 0)))) (hti : x.ty t = some ti) (hagg : ti.agg = true) (hsz : ti.size = cols.length) (hnv : nv < 100)
    (hidx : ∀ ρ, (∀ g ∈ F, Fact.holds ρ g) → 0 ≤ idx.den ρ ∧ idx.den ρ < ρ.v nv ∧ idx.den ρ < 100) (hcols : cols.length < 40)
    (hpost : ∀ fl ∈ rowFl cols, (oneRun x (pre ++ o :: post) post F (rowState (oneS x (pre ++ o :: post) pre F s) d idx cols fl)).isSome = true)
    (hR : ∀ fl ∈ rowFl cols, From P x C (oneS x (pre ++ o :: post) post F (rowState (oneS x (pre ++ o :: post) pre F s) d idx cols fl)) F (l.drop 1) N X) : From P x C s F l N X := by
  intro ρ β a w hF hs
  have e : l = .region id (pre ++ o :: post).toArray false :: l.drop 1 := by
    have := cut_at hl
    simpa using this
  rw [e]
  show Code.wp P (.region id (pre ++ o :: post).toArray false) (Exit.then (WPs P (l.drop 1) (Post P x C ρ N X)) (Post P x C ρ N X)) a w
  refine wp_region_list ?_
  have h1 := one_ok hty hfn (rest := o :: post) hpre hF C.Δ β a w hs.sat (Exit.then (WPs P (l.drop 1) (Post P x C ρ N X)) (Post P x C ρ N X))
  refine h1 fun β1 a1 w1 hgo => ?_
  have ht1 := hs.goes hgo
  obtain ⟨fl, hfl, β2, v, hrun, ht2⟩ := row_step hty hraw hn0 hS ho hg hd hdn hslot hti hagg hsz hnv (by omega) (hidx ρ hF) hcols ht1
  unfold wpList
  rw [if_pos (by simp [Region.wanted, hg])]
  left
  unfold Oper.wp
  rw [hrun, Oper.upon_value, hd]
  have h2 := one_ok hty hfn (rest := []) (hpost fl hfl) hF C.Δ β2 (a1.put (some d) v) w1 ht2.sat (Exit.then (WPs P (l.drop 1) (Post P x C ρ N X)) (Post P x C ρ N X))
  rw [List.append_nil] at h2
  refine h2 fun β3 a3 w3 hgo3 => ?_
  exact hR fl hfl ρ β3 a3 w3 hF (ht2.goes hgo3)
/-- Labels that stay, stay in all templates. -/
def tgtGe (n : Nat) (g : Tgt) : Bool := Nat.ble n g.t.n0 && g.m.all fun p => Nat.ble n p.1.n0
theorem labsOk_of {C : Ctx} {n : Nat} (h : C.n0 = n) {N : Option Tgt} {X : List (Nat × Tgt)} (hN : (match N with | some g => tgtGe n g | none => true) = true) (hX : (X.all fun p => tgtGe n p.2) = true) : LabsOk C none N X := by
  have key : ∀ g : Tgt, tgtGe n g = true → ∀ p ∈ (g.t, g.F) :: g.m, C.n0 ≤ p.1.n0 := fun g hg p hp => by
    unfold tgtGe at hg
    simp only [Bool.and_eq_true, List.all_eq_true] at hg
    rw [h]
    rcases List.mem_cons.1 hp with rfl | hp
    · exact Nat.le_of_ble_eq_true hg.1
    · exact Nat.le_of_ble_eq_true (hg.2 p hp)
  refine ⟨fun g hg => ?_, fun i g hg => ?_, trivial⟩
  · subst hg
    exact key g hN
  · refine key g ?_
    clear hN
    induction X with
    | nil => cases hg
    | cons p r ih =>
      obtain ⟨b, g'⟩ := p
      simp only [List.all_cons, Bool.and_eq_true] at hX
      simp only [tgtOf] at hg
      split at hg
      · cases hg; exact hX.1
      · exact ih hX.2 hg
/-! ### the rows of an argument -/
def colOf (P : Program) (t : TypeId) : Option Col := match Nat.beq (P.cellsOf t) 1 with
  | true => (match P.underlying t with
    | some (.int k) => some (.int k)
    | some (.slice e) => (match kindsOf P 12 e with | some [kd] => some (.slc kd) | _ => none)
    | _ => none)
  | false => none
def colsOf (P : Program) : List Field → Nat → Option (List Col)
  | [], _ => some []
  | g :: r, o => match Nat.beq g.offset o, colOf P g.type, colsOf P r (o + 1) with
    | true, some c, some cs => some (c :: cs)
    | _, _, _ => none
/-- What a column's cell is, in a world. -/
def ColW (W : World) (v : Value) : Col → Prop
  | .int k => ∃ n, v = .int k n ∧ k.wrap n = n
  | .slc kd => v = .slice none 0 0 ∨ (∃ a, v = .slice (some a) 0 0) ∨ ∃ b off len cap, v = .slice (some ⟨b, off, none⟩) len cap ∧ (len ≤ cap ∧ cap ≤ maxLen) ∧ b < W.heap.size ∧ ∀ r : Nat, r < len → ∃ u, W.cell? ⟨b, off + r, none⟩ = some u ∧ Fits kd u
section
variable {H : Type} {enc : TypeId × Value → H} {P : Program} {W : World} {held : Bool}
theorem cell_spot {w : World} {a : Addr} {v : Value} (h : w.cell? a = some v) : a.spot = none ∧ a.block < w.heap.size := by
  unfold World.cell? at h
  split at h
  · rename_i c e z hh
    split at h
    · cases h
    · rename_i hs
      refine ⟨by cases hx : a.spot <;> simp_all, ?_⟩
      exact (Array.getElem?_eq_some_iff.1 hh).1
  · cases h
theorem col_of_trod {fuel : Nat} {t : TypeId} {cs : List Value} {x : DataW H × List MemPlace} {col : Col} (h : DataW.trod enc P W 0 (fun _ => true) held fuel t cs = some x) (hc : colOf P t = some col) : ∃ v, cs = [v] ∧ ColW W v col := by
  unfold colOf at hc
  split at hc
  · split at hc
    · rename_i k hu
      cases hc
      obtain ⟨n, rfl, _, hw⟩ := DataW.trod_int hu h
      refine ⟨_, rfl, n, rfl, ?_⟩
      have := fits_int hw
      simp only [Fits, CK.val, numOf, Value.int.injEq, true_and] at this
      exact this.symm
    · rename_i e hu
      split at hc
      · rename_i kd hk
        cases hc
        have hse : P.cellsOf e = 1 := by unfold kindsOf at hk; exact (sized_some hk).2
        rcases DataW.trod_slice hu h with ⟨rfl, _⟩ | ⟨a, len, cap, elems, rest, n, _, rfl, _, _, hlc, hcm, hlen, hget, hrest, _⟩
        · exact ⟨_, rfl, .inl rfl⟩
        · refine ⟨_, rfl, .inr ?_⟩
          obtain ⟨hrl, hrg⟩ := hrest rfl
          have elem : ∀ (y : Option (DataW H × List MemPlace)) (r : Nat), ((W.cells? 0 (a.add (r * P.cellsOf e)) (P.cellsOf e)).bind (DataW.trod enc P W 0 (fun _ => true) held n e) = y) → y.isSome = true → ∃ u, W.cell? (a.add r) = some u ∧ Fits kd u := by
            intro y r hy hsome
            obtain ⟨y0, hy0⟩ := Option.isSome_iff_exists.1 hsome
            rw [hy0] at hy
            obtain ⟨cs1, h2, h3⟩ := Option.bind_eq_some_iff.1 hy
            obtain ⟨_, h4, h5⟩ := World.cells?_some h2
            obtain ⟨v, h6, h7⟩ := trod_fit 12 h3 hk 0 kd rfl
            have h8 := h5 0 (by omega)
            rw [hse, Nat.mul_one] at h8
            have h9 : (a.add r).add 0 = a.add r := by simp [Addr.add]
            rw [h9] at h8
            exact ⟨v, by rw [h8]; simpa using h6, h7⟩
          have all : ∀ r, r < len → ∃ u, W.cell? (a.add r) = some u ∧ Fits kd u := fun r hr => elem _ r (hget r hr) (by rw [List.getElem?_eq_getElem (by omega)]; rfl)
          by_cases hcap : cap = 0
          · have : len = 0 := by omega
            exact .inl ⟨a, by rw [this, hcap]⟩
          · have h0 : ∃ u, W.cell? (a.add 0) = some u ∧ Fits kd u := by
              by_cases hl : 0 < len
              · exact all 0 hl
              · have hl0 : len = 0 := by omega
                refine elem (rest[0]?) 0 ?_ ?_
                · have := hrg 0 (by omega)
                  rw [hl0] at this
                  exact this
                · rw [List.getElem?_eq_getElem (by omega)]; rfl
            obtain ⟨u0, hu0, _⟩ := h0
            have h9 : a.add 0 = a := by simp [Addr.add]
            rw [h9] at hu0
            obtain ⟨hsp, hbl⟩ := cell_spot hu0
            obtain ⟨b, off, sp⟩ := a
            simp only at hsp hbl
            subst hsp
            refine .inr ⟨b, off, len, cap, rfl, ⟨hlc, hcm⟩, hbl, fun r hr => ?_⟩
            obtain ⟨u, h1, h2⟩ := all r hr
            rw [Addr.add_lit] at h1
            exact ⟨u, h1, h2⟩
      · cases hc
    · cases hc
  · cases hc
theorem cols_of_trod {n : Nat} {cs : List Value} : ∀ {fs : List Field} {o : Nat} {cols : List Col}, colsOf P fs o = some cols → (∀ g ∈ fs, ∃ x, DataW.trod enc P W 0 (fun _ => true) held n g.type ((cs.drop g.offset).take (P.cellsOf g.type)) = some x) →
    ∀ (c : Nat) (col : Col), cols[c]? = some col → ∃ v, cs[o + c]? = some v ∧ ColW W v col
  | [], o, cols, h, hf, c, col, hc => by cases h; simp at hc
  | g :: r, o, cols, h, hf, c, col, hc => by
    unfold colsOf at h
    split at h
    · rename_i c0 cs0 ho hcol hr
      cases h
      have ho := Nat.eq_of_beq_eq_true ho
      cases c with
      | zero =>
        simp only [List.getElem?_cons_zero, Option.some.injEq] at hc
        subst hc
        obtain ⟨x, hx⟩ := hf g (List.mem_cons_self ..)
        obtain ⟨v, h1, h2⟩ := col_of_trod hx hcol
        refine ⟨v, ?_, h2⟩
        have h3 : ((cs.drop g.offset).take (P.cellsOf g.type))[0]? = some v := by rw [h1]; rfl
        rw [List.getElem?_take] at h3
        split at h3
        · rw [List.getElem?_drop, ho] at h3
          exact h3
        · cases h3
      | succ c =>
        obtain ⟨v, h1, h2⟩ := cols_of_trod hr (fun g hg => hf g (List.mem_cons_of_mem _ hg)) c col (by simpa using hc)
        exact ⟨v, by rw [← h1]; congr 1; omega, h2⟩
    · cases h
end

/-- The tables from 50 on, of a row's place. -/
def exT (W : World) (b off sz j : Nat) : Int → Nat → Int := match j with
  | 50 => fun i c => match W.cell? ⟨b, off + i.toNat * sz + c, none⟩ with | some (.int _ n) => n | some (.slice _ len _) => (len : Int) | _ => 0
  | 51 => fun i c => match W.cell? ⟨b, off + i.toNat * sz + c, none⟩ with | some (.slice _ _ cap) => (cap : Int) | _ => 0
  | j => fun x _ => match W.cell? ⟨b, off + (x / rowBig).toNat * sz + (j - 53), none⟩ with | some (.slice (some a) _ _) => numOf ((W.cell? (a.add (x % rowBig).toNat)).getD .nilFunc) | _ => 0
theorem colOk_of {W : World} {ρ : Env} {b off sz : Nat} (hρ : ∀ j, 50 ≤ j → j < 100 → ρ.t j = exT W b off sz j) {i c : Nat} (hc : c < 40) {v : Value} (hv : W.cell? ⟨b, off + i * sz + c, none⟩ = some v) {col : Col} (h : ColW W v col) : ColOk W ρ i c v col := by
  have e50 : ρ.t 50 (i : Int) c = (match some v with | some (.int _ n) => n | some (.slice _ len _) => (len : Int) | _ => 0) := by
    rw [hρ 50 (by omega) (by omega), ← hv]
    simp only [exT, Int.toNat_natCast]
  have e51 : ρ.t 51 (i : Int) c = (match some v with | some (.slice _ _ cap) => (cap : Int) | _ => 0) := by
    rw [hρ 51 (by omega) (by omega), ← hv]
    simp only [exT, Int.toNat_natCast]
  cases col with
  | int k =>
    obtain ⟨n, rfl, hn⟩ := h
    simp only [ColOk, e50, hn]
  | slc kd =>
    rcases h with rfl | ⟨a, rfl⟩ | ⟨b', off', len, cap, rfl, ⟨hlc, hcm⟩, hb, hel⟩
    · exact .inl rfl
    · exact .inr (.inl ⟨a, rfl⟩)
    · have hml : (maxLen : Nat) = 9223372036854775807 := rfl
      refine .inr (.inr ⟨b', off', ?_, ?_, ?_, hb, fun r h1 h2 => ?_⟩)
      · simp only [e50, e51, Int.toNat_natCast]
      · simp only [e50]; omega
      · simp only [e51]; omega
      · simp only [e50] at h1
        obtain ⟨u, hu, hf⟩ := hel r (by omega)
        rw [hu]
        have h3 : ((r : Int) + (i : Int) * rowBig) / rowBig = i := by
          unfold rowBig at h2 ⊢
          omega
        have h4 : ((r : Int) + (i : Int) * rowBig) % rowBig = r := by
          unfold rowBig at h2 ⊢
          omega
        have h5 : ρ.t (53 + c) ((r : Int) + (i : Int) * rowBig) 0 = numOf u := by
          rw [hρ (53 + c) (by omega) (by omega)]
          have hj : exT W b off sz (53 + c) = fun x _ => match W.cell? ⟨b, off + (x / rowBig).toNat * sz + (53 + c - 53), none⟩ with | some (.slice (some a) _ _) => numOf ((W.cell? (a.add (x % rowBig).toNat)).getD .nilFunc) | _ => 0 := by
            unfold exT
            split
            · omega
            · omega
            · rfl
          rw [hj]
          simp only [h3, h4, Int.toNat_natCast, show 53 + c - 53 = c by omega, hv, Addr.add_lit, hu, Option.getD_some]
        rw [h5]
        exact congrArg some hf

def exOf (W : World) (v : Value) (sz : Nat) : Nat → Int → Nat → Int := match v with
  | .slice (some a) _ _ => exT W a.block a.off sz
  | _ => fun _ _ _ => 0
/-- The beginning of a law; its arguments' labels stay. -/
def Ctx.lawN (W : World) (β : Lab) (ρ : Env) (n : Nat) : Ctx := ⟨W, fun _ => False, n, β, ρ, []⟩
section
variable {H : Type} {enc : TypeId × Value → H} {P : Program} {W : World} {base : Nat} {held : Bool} {r : Reach}
theorem rowsAt_of {t e : TypeId} {fs : Array Field} {cols : List Col} (hu : P.underlying t = some (.slice e)) (hst : P.underlying e = some (.struct fs)) (hcols : colsOf P fs.toList 0 = some cols) (hlen : P.cellsOf e = cols.length) (h40 : cols.length < 40)
    {b off len cap : Nat} {d : DataW H} {ps : List MemPlace} (ht : DataW.Trod enc P W 0 (fun _ => true) held t (.slice (some ⟨b, off, none⟩) len cap) d ps) {ρ : Env} (hρ : ∀ j, 50 ≤ j → j < 100 → ρ.t j = exT W b off cols.length j) {nv : Nat} (hnv : ρ.v nv = len) (hb : b < W.heap.size) :
    RowsAt W ρ b off nv cols := by
  obtain ⟨fuel, htr⟩ := ht
  refine ⟨hb, fun i hi c col hc => ?_⟩
  rw [hnv] at hi
  rcases DataW.trod_slice hu htr with ⟨hc', _⟩ | ⟨a, len', cap', elems, rest, n, _, hc', _, _, _, _, hl, hget, _⟩
  · simp [Value.cells] at hc'
  · simp only [Value.cells, List.cons.injEq, Value.slice.injEq, Option.some.injEq, and_true] at hc'
    obtain ⟨rfl, rfl, rfl⟩ := hc'
    have h1 := hget i (by omega)
    rw [List.getElem?_eq_getElem (by omega)] at h1
    obtain ⟨cs, h2, h3⟩ := Option.bind_eq_some_iff.1 h1
    obtain ⟨_, h4, h5⟩ := World.cells?_some h2
    obtain ⟨xs, n', _, _, _, hxl, hfs⟩ := DataW.trod_struct hst h3
    have hcl : c < cols.length := (List.getElem?_eq_some_iff.1 hc).1
    obtain ⟨v, h6, h7⟩ := cols_of_trod (cs := cs) hcols (fun g hg => by
      obtain ⟨k, hk⟩ := List.getElem?_of_mem hg
      have hk' : fs[k]? = some g := by simpa using hk
      have := hfs k g hk'
      have hlt : k < xs.length := by
        have := (Array.getElem?_eq_some_iff.1 hk').1
        omega
      rw [List.getElem?_eq_getElem hlt] at this
      exact ⟨_, this⟩) c col hc
    rw [Nat.zero_add] at h6
    have h8 := h5 c (by omega)
    rw [Addr.add_lit, Addr.add_lit, hlen, h6] at h8
    exact ⟨v, h8, colOk_of hρ (by omega) h8 h7⟩
theorem law_TSR (ai sz : Nat) {f : FuncId} {fn : Func} {body : Code} (hf : P.funcs[f]? = some fn) (hb : fn.body = some body) {ts : List TypeId}
    (hw : ∀ fl ∈ flagsAll P ts, ∃ xs hs k m q, symArgsT P ts 0 0 fl = some (xs, hs, k, m, q) ∧ q ≤ 50 ∧ ∀ ρ : Env, (∀ g ∈ k, Fact.holds ρ g) → ∀ (β : Lab) (W : World) (a : Act) (vs : List Value), xs.map (V1.den ρ β) = vs → (∃ (H : Type) (enc : TypeId × Value → H) (held : Bool) (ds : List (DataW H)) (ps : List MemPlace), DataW.TrodAll enc P W 0 (fun _ => true) held ts vs ds ps) →
      (∀ (j : Nat) (t : TypeId) (v : Value), ts[j]? = some t → vs[j]? = some v → Value.okWide P W r base t v) → (∀ j, 50 ≤ j → j < 100 → ρ.t j = exOf W (vs.getD ai .nilFunc) sz j) → TS (Ctx.lawN W β ρ q) ρ β fn.ntmps ⟨argSlots xs 0 .nil, putSets .leaf hs, q, []⟩ a W → WPs P (Sx.flat body) (EndAt P fn (Ctx.lawN W β ρ q) none) a W)
    {args : Array Value} {ds : List (DataW H)} {ps : List MemPlace} (hsz : args.size = ts.length) (hv : ∀ (j : Nat) (t : TypeId) (v : Value), ts[j]? = some t → args[j]? = some v → Value.okWide P W r base t v) (ht : DataW.TrodAll enc P W 0 (fun _ => true) held ts args.toList ds ps) (hwt : ∀ x ∈ DataW.weightsEach P ts ds, x ≤ reachBytes) :
    Calls P f args W fun e w' => e = .returned (.bool true) ∧ Kept W w' := by
  have hv' : ∀ (j : Nat) (t : TypeId) (v : Value), ts[j]? = some t → args.toList[j]? = some v → Value.okWide P W r base t v := fun j t v ht hj => hv j t v ht (by simpa using hj)
  obtain ⟨xs, hs, k, m, q, hsym, hq, hrun⟩ := hw _ (flags_mem (vs := args.toList) (by simpa using hsz) hv')
  obtain ⟨L, Ts, Bs, a1, a2, a3, a4⟩ := symArgsT_ok hsym hv' ht hwt
  let ρ : Env := ⟨fun i => L.getD i 0, fun i => if i < Ts.length then Ts.getD i (fun _ _ => 0) else exOf W (args.toList.getD ai .nilFunc) sz i⟩
  let β : Lab := ⟨fun i => (Bs.getD i (0, .bool true)).1, fun i => (Bs.getD i (0, .bool true)).2⟩
  have hex : ∀ j, 50 ≤ j → j < 100 → ρ.t j = exOf W (args.toList.getD ai .nilFunc) sz j := fun j hj _ => by
    show (if j < Ts.length then _ else _) = _
    rw [if_neg (by omega)]
  have hfr : FromN ρ β 0 0 L Ts Bs := ⟨fun i _ => by simp [ρ], fun i T hi => by obtain ⟨h1, h2⟩ := List.getElem?_eq_some_iff.1 hi; simp [ρ, List.getD, h1, h2], fun i b hi => by simp [β, List.getD, hi]⟩
  obtain ⟨h1, h2, h3, h4⟩ := a4 ρ β hfr
  refine calls_of_wp hf hb ?_
  have hheap : ∀ l x, (putSets .leaf hs).get l = some x → (l, x) ∈ hs := fun l x hx => putSets_mem hx
  have hi := SatS.init (ρ := ρ) (β := β) (args := xs) (heap := putSets .leaf hs) (nx := q) (w := W) (nt := fn.ntmps) h3 ⟨fun l x hx => by
      obtain ⟨e1, e2, e3, e4, e5, e6⟩ := h4 _ (hheap l x hx)
      exact ⟨e2, e4, fun _ => e5, e6⟩, fun l l' x x' hx hx' hne hw _ _ => by
      have e3 := (h4 _ (hheap l x hx)).2.2.1
      have e3' := (h4 _ (hheap l' x' hx')).2.2.1
      simp only at e3 e3'
      rw [e3, e3'] at hw
      cases hw⟩
  have h1' := h1
  rw [h1, Array.toArray_toList] at hi
  have := WPs.flat (hrun ρ h2 β W _ args.toList h1' ⟨H, enc, held, ds, ps, ht⟩ hv' hex ⟨hi, Frm.refl _ _, fun l x hx hw _ => absurd hw (by
    have e3 := (h4 _ (hheap l x hx)).2.2.1
    simp only at e3
    rw [e3]
    exact Bool.false_ne_true), Fix.refl _, Lab.agree_refl _ _, Nat.le_refl _⟩)
  refine wp_mono this fun e a w he => ?_
  unfold EndAt at he
  have fin : ∀ e w', (e = Ending.returned (.bool true) ∧ Frm (Ctx.lawN W β ρ q).S (Ctx.lawN W β ρ q).W w') → e = .returned (.bool true) ∧ Kept W w' := fun e w' h => ⟨h.1, h.2.grown fun _ h => h, fun k hk => h.2.old k hk id⟩
  cases e with
  | normal => exact ⟨he.1, he.2.imp fun v hv => ⟨hv.1 w (CellsKept.refl w), fin _ _ hv.2⟩⟩
  | ret => exact ⟨he.1, he.2.imp fun v hv => ⟨hv.1 w (CellsKept.refl w), fin _ _ hv.2⟩⟩
  | panic ch => exact ⟨he.1, fin _ _ he.2⟩
  | outgrown => exact fin _ _ he
  | exit id => exact he
  | goto l => exact he
end

def regOps (l : List Code) (i : Nat) : List Oper := match l[i]? with
  | some (.region _ ops _) => ops.toList
  | _ => []
def regOp (l : List Code) (i n : Nat) : Oper := ((regOps l i)[n]?).getD default
end
end Go.Sx
/-
  SX: A FUNCTION OF A SLICE OF NOTHING: of nil, of one that is not nil, of one with room: put together, so that it is not asked which of these it is.
-/
namespace Go.Sx
set_option linter.unusedSimpArgs false
set_option linter.unusedVariables false
set_option linter.unusedSectionVars false
noncomputable section
set_option linter.unusedVariables false
def zE : E := .lit (.ofNat 0)
def ctEm (f : FuncId) (kd : CK) (ty : TypeId) : Ctr := ⟨f, [.one (.osl 0)], [(0, ⟨false, .seq 0 (.tv 0) zE [kd] ty⟩)], 1, [], ⟨[.one (.osl 1)], [(1, ⟨true, .seq 1 (.tv 0) zE [kd] ty⟩)], 2, 1⟩⟩
def ctEm0 (f : FuncId) : Ctr := ⟨f, [.one .nils], [], 0, [], ⟨[.one .nils], [], 0, 0⟩⟩
def ctEm1 (f : FuncId) (ty : TypeId) : Ctr := ⟨f, [.one (.osl 0)], [(0, ⟨false, .nn 0⟩)], 1, [], ⟨[.one (.slc 1 0 zE zE)], [(1, ⟨true, .cells [] ty⟩)], 2, 1⟩⟩
def ctEm2 (f : FuncId) (kd : CK) (ty : TypeId) : Ctr := ⟨f, [.one (.tslc 0 1 zE zE (.var 0))], [(0, ⟨false, .tab 0 (.tv 0) zE [kd]⟩)], 1, [.rng (.var 0) (some 0, none)], ⟨[.one (.slc 1 0 zE zE)], [(1, ⟨true, .cells [] ty⟩)], 2, 1⟩⟩
theorem no_wrt {c : Ctr} {β : Lab} (h : ∀ p ∈ c.heap, p.2.wr = false) {k : Nat} : ¬ c.wrt β k := by
  rintro ⟨p, hp, hw, _⟩
  rw [h p hp] at hw
  cases hw
def ctEmT (f : FuncId) (kd : CK) (ty : TypeId) : Ctr := ⟨f, [.one (.tslc 0 1 zE zE (.var 0))], [(0, ⟨false, .tab 0 (.tv 0) zE [kd]⟩)], 1, [.rng (.var 0) (some 0, none)], (ctEm f kd ty).R⟩
theorem em_end {f : FuncId} {kd : CK} {ty : TypeId} {C : Ctx} (hn : C.n0 = 1) {w' : World} {e : Ending} {S : Nat → Prop} (hS : ∀ k, ¬ S k) {a : Option Addr} (hF : Frm S C.W w') (he : e = .returned (.slice a 0 0)) : REnd C (ctEm f kd ty).R e w' := by
  obtain ⟨W, CS, n0, β, ρ, Δ⟩ := C
  simp only at hn hF
  subst hn
  refine ⟨β.updV 1 0 (.slice a 0 0), hF.mono (fun k _ h => absurd h (hS k)), ⟨fun p hp => ?_, fun p hp p' hp' hne => ?_⟩, Lab.updV_agree β 1 0 _, fun p hp _ hb => ?_, ?_, ?_⟩
  · have := Lab.updV_same β 1 0 (.slice a 0 0)
    simp only [ctEm, List.mem_cons, List.not_mem_nil, or_false] at hp
    subst hp
    refine ⟨(by decide : (1 : Nat) < 2), (by decide : (1 : Nat) < 2), fun hb => ?_, ?_⟩
    · simp only [Blk.hb, this.2, capOf] at hb
      exact absurd hb (Nat.lt_irrefl _)
    · refine ⟨a, 0, this.2, Nat.le_refl _, fun h => absurd h (Nat.lt_irrefl _)⟩
  · simp only [ctEm, List.mem_cons, List.not_mem_nil, or_false] at hp hp'
    subst hp; subst hp'
    exact absurd rfl hne
  · have := Lab.updV_same β 1 0 (.slice a 0 0)
    simp only [ctEm, List.mem_cons, List.not_mem_nil, or_false] at hp
    subst hp
    simp only [Blk.hb, this.2, capOf] at hb
    exact absurd hb (Nat.lt_irrefl _)
  · exact (by decide : (1 : Nat) < 2)
  · rw [he]
    have := Lab.updV_same β 1 0 (.slice a 0 0)
    simp only [ctEm, svOfList, SV.den, V1.den, CV.den, this.2, addrOf, lenOfV, capOf]
theorem ok_em {P : Program} {f : FuncId} {kd : CK} {ty ty1 ty2 : TypeId} (h0 : (ctEm0 f).ok P) (h1 : (ctEm1 f ty1).ok P) (h2 : (ctEm2 f kd ty2).ok P) : (ctEm f kd ty).ok P := by
  intro ρ β w hk hs
  have hg : (putSets .leaf (ctEm f kd ty).heap).get 0 = some ⟨false, .seq 0 (.tv 0) zE [kd] ty⟩ := rfl
  obtain ⟨_, _, hbs, hsat⟩ := hs.blk 0 _ hg
  obtain ⟨a, c, hv, hc, hown⟩ := hsat
  have hz : ((zE : E).den ρ).toNat = 0 := rfl
  rw [hz] at hv
  have hargs : ((ctEm f kd ty).args.map (V1.den ρ β)).toArray = #[.slice a 0 c] := by
    simp only [ctEm, List.map_cons, List.map_nil, V1.den, CV.den, hv, addrOf, lenOfV, capOf]
  rw [hargs]
  have hnw : ∀ k, ¬ (ctEm f kd ty).wrt β k := fun k => no_wrt (by simp [ctEm])
  by_cases hc0 : c = 0
  · subst hc0
    cases a with
    | none =>
      have := h0 ρ β w (fun g hg => absurd hg List.not_mem_nil) ⟨fun l x hl => (by cases hl), fun l l' x x' hl => (by cases hl)⟩
      refine this.mono fun e w' he => ?_
      obtain ⟨β', hF, _, _, _, _, rfl⟩ := he
      exact em_end rfl (S := (ctEm0 f).wrt β) (fun k => no_wrt (by simp [ctEm0])) hF rfl
    | some ad =>
      have := h1 ρ β w (fun g hg => absurd hg List.not_mem_nil) ⟨fun l x hl => ?_, fun l l' x x' hl hl' hne => ?_⟩
      · have e1 : ((ctEm1 f ty1).args.map (V1.den ρ β)).toArray = #[.slice (some ad) 0 0] := by
          simp only [ctEm1, List.map_cons, List.map_nil, V1.den, CV.den, hv, addrOf, lenOfV, capOf]
        rw [e1] at this
        refine this.mono fun e w' he => ?_
        obtain ⟨β', hF, _, _, _, _, rfl⟩ := he
        exact em_end rfl (S := (ctEm1 f ty1).wrt β) (fun k => no_wrt (by simp [ctEm1])) hF rfl
      · have h := putSets_mem hl
        simp only [ctEm1, List.mem_cons, List.not_mem_nil, or_false, Prod.mk.injEq] at h
        obtain ⟨rfl, rfl⟩ := h
        exact ⟨Nat.lt_succ_self _, Nat.lt_succ_self _, fun h => h.elim, ad, hv⟩
      · have h := putSets_mem hl
        have h' := putSets_mem hl'
        simp only [ctEm1, List.mem_cons, List.not_mem_nil, or_false, Prod.mk.injEq] at h h'
        exact absurd (h.1.trans h'.1.symm) hne
  · obtain ⟨o, arr, rfl, hh, _, _⟩ := hown (Nat.pos_of_ne_zero hc0)
    let β2 : Lab := β.updV 0 (β.b 0) (.int .i64 o)
    have hsame := Lab.updV_same β 0 (β.b 0) (.int .i64 o)
    have hf : β2.f 0 = o := by unfold Lab.f; rw [hsame.2]; simp
    have := h2 (ρ.put 0 c) β2 w (fun g hg => ?_) ⟨fun l x hl => ?_, fun l l' x x' hl hl' hne => ?_⟩
    · have e1 : ((ctEm2 f kd ty2).args.map (V1.den (ρ.put 0 c) β2)).toArray = #[.slice (some ⟨β.b 0, o, none⟩) 0 c] := by
        have hb : β2.b 0 = β.b 0 := hsame.1
        simp only [ctEm2, List.map_cons, List.map_nil, V1.den, CV.den, hf, hb, zE, E.den, put_v]
        simp
      rw [e1] at this
      refine this.mono fun e w' he => ?_
      obtain ⟨β', hF, _, _, _, _, rfl⟩ := he
      exact em_end rfl (S := (ctEm2 f kd ty2).wrt β2) (fun k => no_wrt (by simp [ctEm2])) hF rfl
    · simp only [ctEm2, List.mem_cons, List.not_mem_nil, or_false] at hg
      subst hg
      refine ⟨fun m hm => ?_, fun m hm => (by cases hm)⟩
      cases hm
      simp [E.den, put_v]
    · have h := putSets_mem hl
      simp only [ctEm2, List.mem_cons, List.not_mem_nil, or_false, Prod.mk.injEq] at h
      obtain ⟨rfl, rfl⟩ := h
      · refine ⟨Nat.lt_succ_self _, Nat.lt_succ_self _, fun _ => ?_, fun i hi => ?_⟩
        · rw [hsame.1]
          exact (Array.getElem?_eq_some_iff.1 hh).1
        · have hi : (i : Int) < 0 := hi
          omega
    · have h := putSets_mem hl
      have h' := putSets_mem hl'
      simp only [ctEm2, List.mem_cons, List.not_mem_nil, or_false, Prod.mk.injEq] at h h'
      exact absurd (h.1.trans h'.1.symm) hne
theorem ok_emT {P : Program} {f : FuncId} {kd : CK} {ty ty2 : TypeId} (h2 : (ctEm2 f kd ty2).ok P) : (ctEmT f kd ty).ok P := by
  intro ρ β w hk hs
  have := h2 ρ β w hk hs
  refine this.mono fun e w' he => ?_
  obtain ⟨β', hF, _, _, _, _, rfl⟩ := he
  exact em_end (f := f) rfl (S := (ctEm2 f kd ty2).wrt β) (fun k => no_wrt (by simp [ctEm2])) hF rfl
section
variable {H : Type} {enc : TypeId × Value → H} {P : Program} {W : World} {base : Nat} {held : Bool} {r : Reach}
theorem trodAll_at : ∀ {ts : List TypeId} {vs : List Value} {ds : List (DataW H)} {ps : List MemPlace}, DataW.TrodAll enc P W 0 (fun _ => true) held ts vs ds ps → ∀ (i : Nat) (t : TypeId) (v : Value), ts[i]? = some t → vs[i]? = some v → ∃ d q, DataW.Trod enc P W 0 (fun _ => true) held t v d q
  | [], vs, ds, ps, h, i, t, v, ht, hv => by simp at ht
  | t0 :: ts, vs, ds, ps, h, i, t, v, ht, hv => by
    obtain ⟨v0, vs', d, ds', p, q, rfl, rfl, rfl, h1, h2⟩ := Go.ChangeShapes.trodAll_cons h
    cases i with
    | zero =>
      simp only [List.getElem?_cons_zero, Option.some.injEq] at ht hv
      subst ht; subst hv
      exact ⟨d, p, h1⟩
    | succ i => exact trodAll_at h2 i t v (by simpa using ht) (by simpa using hv)
def fsOf (P : Program) (e : TypeId) : Array Field := match P.underlying e with
  | some (.struct fs) => fs
  | _ => #[]
/-- The rows of an argument, at a law's beginning. -/
theorem row_arg {ts : List TypeId} {vs : List Value} {xs : List V1} {ρ : Env} {β : Lab} (hx : xs.map (V1.den ρ β) = vs) (ht : ∃ (H : Type) (enc : TypeId × Value → H) (held : Bool) (ds : List (DataW H)) (ps : List MemPlace), DataW.TrodAll enc P W 0 (fun _ => true) held ts vs ds ps)
    (hv : ∀ (j : Nat) (t : TypeId) (v : Value), ts[j]? = some t → vs[j]? = some v → Value.okWide P W r base t v) (ai : Nat) {t e : TypeId} {fs : Array Field} {cols : List Col} {nl cl : Nat} (hex : ∀ j, 50 ≤ j → j < 100 → ρ.t j = exOf W (vs.getD ai .nilFunc) cols.length j)
    (hti : ts[ai]? = some t) (hxi : xs[ai]? = some (.one (.tslc 0 cols.length (.lit (.ofNat 0)) (.var nl) (.var cl)))) (hu : P.underlying t = some (.slice e)) (hst : P.underlying e = some (.struct fs)) (hcols : colsOf P fs.toList 0 = some cols) (hlen : P.cellsOf e = cols.length) (h40 : cols.length < 40)
    (hk : 0 ≤ ρ.v nl) : RowsAt W ρ (β.b 0) (β.f 0) nl cols := by
  have hvi : vs[ai]? = some (.slice (some ⟨β.b 0, β.f 0, none⟩) (ρ.v nl).toNat (ρ.v cl).toNat) := by
    rw [← hx, List.getElem?_map, hxi]
    simp [V1.den, CV.den, E.den]
  obtain ⟨H, enc, held, ds, ps, hA⟩ := ht
  obtain ⟨d, q, hT⟩ := trodAll_at hA ai t _ hti hvi
  have hok := hv ai t _ hti hvi
  have hgd : vs.getD ai .nilFunc = .slice (some ⟨β.b 0, β.f 0, none⟩) (ρ.v nl).toNat (ρ.v cl).toNat := by
    simp [List.getD, hvi]
  unfold Value.okWide at hok
  rw [hu] at hok
  simp only at hok
  unfold Cell.okWide at hok
  rw [hu] at hok
  simp only at hok
  unfold Cell.ok at hok
  rw [hu] at hok
  simp only at hok
  obtain ⟨_, _, _, hspot, row, cells, hshape, _⟩ := hok
  have hblt : β.b 0 < W.heap.size := by
    unfold World.shape? at hshape
    split at hshape
    · rename_i hh
      exact (Array.getElem?_eq_some_iff.1 hh).1
    all_goals first | (cases hshape; done) | skip
  refine rowsAt_of (enc := enc) hu hst hcols hlen h40 hT (fun j h1 h2 => ?_) (nv := nl) (by omega) hblt
  rw [hex j h1 h2, hgd]
  rfl
end
end
end Go.Sx
