/-
  SX: a symbolic executor, sound for the model's rules; several parts in one text. Copied by program.
-/
import Derived.Test.YtgjdhgmnkgbhiaaSxX
import Derived.ChangeArms
import Derived.DataReads
/-
  SX: BITS. What expressions of uint64 denote, as bit vectors; a few laws of these.
-/
namespace Go.Sx
set_option linter.unusedSimpArgs false
set_option linter.unusedVariables false
set_option linter.unusedSectionVars false
noncomputable section

abbrev B64 (x : Int) : BitVec 64 := BitVec.ofInt 64 x
theorem wrap_toNat (v : BitVec 64) : IntKind.u64.wrap (v.toNat : Int) = (v.toNat : Int) := by
  have := v.isLt
  exact wrap_in ⟨by simp [kmin], by simp [kmax]; omega⟩
theorem B64_toNat (v : BitVec 64) : B64 (v.toNat : Int) = v := ofInt_toNat v
theorem wrap_B64 (x : Int) : IntKind.u64.wrap x = ((B64 x).toNat : Int) := by
  rw [← wrap_toNat, ← wrap_toNat]
  have h := ofInt_wrap .u64 x
  have h2 : BitVec.ofInt 64 (IntKind.u64.wrap x) = B64 x := h
  have h3 := wrap_range .u64 x
  simp only [kmin, kmax] at h3
  have e : IntKind.u64.wrap x = ((B64 x).toNat : Int) := by
    rw [← h2, BitVec.toNat_ofInt, Int.emod_eq_of_lt (by omega) (by omega)]
    omega
  rw [wrap_toNat, wrap_toNat, e]
section
variable (ρ : Env) (a b : E)
theorem den_and64 : (E.bin (.and .u64) a b).den ρ = ((B64 (a.den ρ) &&& B64 (b.den ρ)).toNat : Int) := by simp only [E.den, BO.den]; exact wrap_toNat _
theorem den_or64 : (E.bin (.or .u64) a b).den ρ = ((B64 (a.den ρ) ||| B64 (b.den ρ)).toNat : Int) := by simp only [E.den, BO.den]; exact wrap_toNat _
theorem den_xor64 : (E.bin (.xor .u64) a b).den ρ = ((B64 (a.den ρ) ^^^ B64 (b.den ρ)).toNat : Int) := by simp only [E.den, BO.den]; exact wrap_toNat _
theorem den_andn64 : (E.bin (.andNot .u64) a b).den ρ = ((B64 (a.den ρ) &&& ~~~B64 (b.den ρ)).toNat : Int) := by simp only [E.den, BO.den]; exact wrap_toNat _
theorem den_add64 : (E.bin (.add .u64) a b).den ρ = ((B64 (a.den ρ) + B64 (b.den ρ)).toNat : Int) := by
  simp only [E.den, BO.den]; rw [wrap_B64, B64, BitVec.ofInt_add]
theorem den_sub64 : (E.bin (.sub .u64) a b).den ρ = ((B64 (a.den ρ) - B64 (b.den ρ)).toNat : Int) := by
  simp only [E.den, BO.den]; rw [wrap_B64, B64, Int.sub_eq_add_neg, BitVec.ofInt_add, BitVec.ofInt_neg, BitVec.sub_eq_add_neg]
theorem den_eq (h : a.den ρ = b.den ρ) : (E.bin .eq a b).den ρ ≠ 0 := by simp [E.den, BO.den, h]
theorem den_eq_iff : (E.bin .eq a b).den ρ ≠ 0 ↔ a.den ρ = b.den ρ := by simp [E.den, BO.den]
theorem den_var (i : Nat) : (E.var i).den ρ = ρ.v i := by simp only [E.den]
theorem den_lit (n : Nat) : (E.lit (.ofNat n)).den ρ = (n : Int) := by simp only [E.den]; rfl
end
theorem B64_lit (n : Nat) : B64 (n : Int) = BitVec.ofNat 64 n := BitVec.ofInt_natCast 64 n
theorem cast_eq {v w : BitVec 64} (h : v = w) : (v.toNat : Int) = (w.toNat : Int) := by rw [h]

theorem bits_sip (a b c d : BitVec 64) : ((a &&& ~~~(c &&& d)) ||| (b &&& (c &&& d))) = ((a &&& ~~~(c &&& d)) ||| ((b &&& c) &&& d)) := by rw [BitVec.and_assoc]
theorem sub_mask {m c : BitVec 64} (h : c &&& m = c) (i : Nat) : c.getLsbD i = true → m.getLsbD i = true := by
  intro hc
  rw [← h, BitVec.getLsbD_and, Bool.and_eq_true] at hc
  exact hc.2
theorem bits_status {m c : BitVec 64} (h : c &&& m = c) (v x : BitVec 64) : (((v &&& ~~~c) ||| (x &&& c)) &&& m) = (((v &&& m) &&& ~~~c) ||| (x &&& c)) := by
  apply BitVec.eq_of_getLsbD_eq
  intro i hi
  have hm := sub_mask h i
  simp only [BitVec.getLsbD_and, BitVec.getLsbD_or, BitVec.getLsbD_not, hi, decide_true, Bool.true_and]
  generalize v.getLsbD i = p at *
  generalize x.getLsbD i = q at *
  generalize c.getLsbD i = r at *
  generalize m.getLsbD i = s at *
  revert hm
  cases p <;> cases q <;> cases r <;> cases s <;> decide
theorem bits_view {m c d : BitVec 64} (h : c &&& m = 0) (h' : d &&& m = 0) (x : BitVec 64) : (((x &&& m) ||| c) &&& ~~~c) = ((x ||| d) &&& m) := by
  apply BitVec.eq_of_getLsbD_eq
  intro i hi
  have e1 : c.getLsbD i = true → m.getLsbD i = true → False := by
    intro h1 h2
    have := congrArg (fun v => BitVec.getLsbD v i) h
    simp [h1, h2] at this
  have e2 : d.getLsbD i = true → m.getLsbD i = true → False := by
    intro h1 h2
    have := congrArg (fun v => BitVec.getLsbD v i) h'
    simp [h1, h2] at this
  simp only [BitVec.getLsbD_and, BitVec.getLsbD_or, BitVec.getLsbD_not, hi, decide_true, Bool.true_and]
  generalize x.getLsbD i = p at *
  generalize c.getLsbD i = r at *
  generalize m.getLsbD i = s at *
  generalize d.getLsbD i = t at *
  revert e1 e2
  cases p <;> cases r <;> cases s <;> cases t <;> decide
theorem bits_cyc (x y z : BitVec 64) : (x + y) - z = y + (x - z) := by
  rw [BitVec.sub_eq_add_neg, BitVec.sub_eq_add_neg, BitVec.add_comm x y, BitVec.add_assoc]
end
end Go.Sx
/-
  SX: LOOPS. Code as a list of parts; a state held against a template; rounds by induction.
-/
namespace Go.Sx
set_option linter.unusedSimpArgs false
set_option linter.unusedVariables false
set_option linter.unusedSectionVars false
noncomputable section
set_option linter.unusedVariables false

/-! ### code as a list of parts -/
def WPs (P : Program) : List Code → (Exit → Act → World → Prop) → Act → World → Prop
  | [], Q => Q .normal
  | c :: r, Q => c.wp P (Exit.then (WPs P r Q) Q)
theorem WPs.mono {P : Program} : ∀ {l : List Code} {Q Q' : Exit → Act → World → Prop} {a : Act} {w : World}, WPs P l Q a w → (∀ e a w, Q e a w → Q' e a w) → WPs P l Q' a w
  | [], _, _, _, _, h, hq => hq _ _ _ h
  | c :: r, Q, Q', _, _, h, hq => wp_mono h fun e a w he => by
    cases e with
    | normal => exact WPs.mono (l := r) he hq
    | _ => exact hq _ _ _ he
theorem WPs.append {P : Program} : ∀ {l r : List Code} {Q : Exit → Act → World → Prop} {a : Act} {w : World}, WPs P l (Exit.then (WPs P r Q) Q) a w → WPs P (l ++ r) Q a w
  | [], r, Q, a, w, h => h
  | c :: l, r, Q, a, w, h => wp_mono h fun e a w he => by
    cases e with
    | normal => exact WPs.append (l := l) he
    | _ => exact he
theorem WPs.split {P : Program} : ∀ {l r : List Code} {Q : Exit → Act → World → Prop} {a : Act} {w : World}, WPs P (l ++ r) Q a w → WPs P l (Exit.then (WPs P r Q) Q) a w
  | [], r, Q, a, w, h => h
  | c :: l, r, Q, a, w, h => wp_mono h fun e a w he => by
    cases e with
    | normal => exact WPs.split (l := l) he
    | _ => exact he
/-- The parts of a sequence. -/
def flat : Code → List Code
  | .seq a b => flat a ++ flat b
  | c => [c]
theorem WPs.one {P : Program} {c : Code} {Q : Exit → Act → World → Prop} {a : Act} {w : World} (h : WPs P [c] Q a w) : c.wp P Q a w := wp_mono h fun e a w he => by cases e <;> exact he
theorem WPs.flat {P : Program} {c : Code} : ∀ {Q : Exit → Act → World → Prop} {a : Act} {w : World}, WPs P (flat c) Q a w → c.wp P Q a w := by
  induction c with
  | seq x y hx hy =>
    intro Q a w h
    rw [Sx.flat] at h
    refine wp_seq (hx ((WPs.split h).mono fun e a w he => ?_))
    cases e with
    | normal => exact hy he
    | _ => exact he
  | _ => intro Q a w h; exact WPs.one h

/-! ### the executor on a list of parts -/
def execL (cf : Cfg) (n : Nat) (nt : Nat) : List Code → Known → S → Option Outs
  | [], k, s => some [(k, .nrm, s)]
  | c :: r, k, s => match exec cf n nt c k s with
    | some outs => bindS (fun k x => k.whK fun k => match x with | (e, s) => s.whK fun s => match e with | .nrm => execL cf n nt r k s | e => some [(k, e, s)]) outs
    | none => none
def LXGood (P : Program) (ρ : Env) (nt : Nat) (l : List Code) (s : S) (o : XK × S) : Prop :=
  ∀ (β : Lab) (a : Act) (w : World), SatS ρ β nt s a w → ∀ Q : Exit → Act → World → Prop, (∀ β' a' w', Goes ρ β nt s w β' o.2 a' w' → Q o.1.toExit a' w') → WPs P l Q a w
section
variable {P : Program} {cf : Cfg} (hty : TysOk P cf.ty) {ρ : Env}
include hty in
theorem execL_ok (hfn : FnOk P cf.fn) (hdr : DrawOk P ρ cf) (n nt : Nat) : ∀ (l : List Code) (k : Known) (s : S) (outs : Outs), execL cf n nt l k s = some outs → AltsOk ρ k outs (LXGood P ρ nt l s)
  | [], k, s, outs, h => by
    simp only [execL] at h
    cases h
    exact AltsOk.single fun _ β a w hs Q hQ => hQ β a w (Goes.refl hs)
  | c :: r, k, s, outs, h => by
    simp only [execL, bindS_eq, Known.whK_eq, S.whK_eq] at h
    split at h
    · rename_i outs1 h1
      refine ((exec_ok hty hfn hdr n).1 _ _ _ _ _ h1).bind h fun k' o ys hys => ?_
      obtain ⟨x, s1⟩ := o
      cases x with
      | nrm =>
        simp only at hys
        refine (execL_ok hfn hdr n nt r k' s1 ys hys).weaken fun y hy hx => ?_
        intro β a w hs Q hQ
        refine hx β a w hs _ fun β' a' w' hg => ?_
        exact hy β' a' w' hg.sat Q fun β'' a'' w'' hg' => hQ _ _ _ (Goes.trans hs.sh hg hg')
      | ext id =>
        simp only at hys
        cases hys
        refine AltsOk.single fun _ hx => ?_
        intro β a w hs Q hQ
        exact hx β a w hs _ fun β' a' w' hg => hQ _ _ _ hg
      | ret =>
        simp only at hys
        cases hys
        refine AltsOk.single fun _ hx => ?_
        intro β a w hs Q hQ
        exact hx β a w hs _ fun β' a' w' hg => hQ _ _ _ hg
    · cases h
end

/-! ### states over a first world -/
structure TS (W : World) (ρ : Env) (β : Lab) (nt : Nat) (s : S) (a : Act) (w : World) : Prop where
  sat : SatS ρ β nt s a w
  frm : Frm (fun _ => False) W w
  own : ∀ l x, s.heap.get l = some x → x.wr = true → x.blk.hb β → W.heap.size ≤ β.b l
theorem TS.goes {W : World} {ρ : Env} {β β' : Lab} {nt : Nat} {s s' : S} {a a' : Act} {w w' : World} (h : TS W ρ β nt s a w) (g : Goes ρ β nt s w β' s' a' w') : TS W ρ β' nt s' a' w' := by
  obtain ⟨t, st, _, hsub⟩ := g.step
  have hblocks : ∀ k, t.blocks β s.nx s.heap.get k → W.heap.size ≤ k := by
    rintro k ⟨l, hl, hn, ⟨y, hy, hyh⟩, he⟩
    obtain ⟨z, hz⟩ := Sets.mem_find hl
    obtain ⟨y', hy', hyw, _⟩ := st.own l z hz hn
    rw [hy] at hy'
    cases hy'
    have := h.own l y hy hyw hyh
    omega
  refine ⟨g.sat, Frm.trans h.frm st.frm fun k hk hb => ?_, fun l x hx hw hh => ?_⟩
  · have := hblocks k hb
    omega
  · have h1 := hsub l x hx
    by_cases hm : l ∈ t.labels
    · rw [Heap.set_of_mem hm] at h1
      by_cases hn : l < s.nx
      · obtain ⟨y, hy, hyw, hyh⟩ := st.own l x h1 hn
        rw [(st.agree l hn).1]
        exact h.own l y hy hyw (hyh hh)
      · have h3 := h.frm.size
        rcases (st.new l x h1 (by omega)).2 hh with h2 | h2
        · omega
        · exact hblocks _ h2
    · rw [Heap.set_of_not_mem hm] at h1
      have hb := h.sat.sh.blk l x h1
      rw [(st.agree l hb.1).1]
      exact h.own l x h1 hw ((Blk.hb_agree st.agree hb.2.1).1 hh)
theorem execL_TS {P : Program} {ty : Tys} {fn : FuncId → Option Func} (hm : P.follows .mixedOrders = true) (hty : TysOk P ty) (hfn : FnOk P fn) {n nt : Nat} {l : List Code} {k : Known} {s : S} {outs : Outs}
    {mb : List (Nat × List Nat)} (h : execL (mkCfgM ty fn mb) n nt l k s = some outs) {ρ : Env} (hk : Known.holds ρ k) {W : World} {β : Lab} {a : Act} {w : World} (ht : TS W ρ β nt s a w) {Q : Exit → Act → World → Prop}
    (hQ : ∀ o ∈ outs, Known.holds ρ o.1 → ∀ β' a' w', TS W ρ β' nt o.2.2 a' w' → Q o.2.1.toExit a' w') : WPs P l Q a w := by
  have hx := execL_ok (ρ := ρ) (cf := mkCfgM ty fn mb) hty hfn (fun _ _ _ _ _ _ hc hdom h => drawOps_ok (fnm := fn) hty hm hc hfn (fun f a h n k l e => hdom f a h n k l e) h) n nt l k s outs h
  obtain ⟨o, ho, hok⟩ := hx.1 hk
  exact (hx.2 o ho hok).2 β a w ht.sat Q fun β' a' w' g => hQ o ho hok β' a' w' (ht.goes g)

/-! ### a state held against a template -/
structure Tm where
  slots : List (Nat × SV)
  heap : List (Nat × Ent)
  nx : Nat
def slOf : List (Nat × SV) → Sl
  | [] => .nil
  | (n, v) :: r => .cons n v (slOf r)
def Tm.toS (t : Tm) : S := ⟨slOf t.slots, putSets .leaf t.heap, t.nx, []⟩
abbrev Pairs := List (E × E)
/-- What a template's label stands for: a label of the state; a nil slice. -/
inductive LM where
  | lab (l : Nat) | nil
abbrev LP := List (Nat × LM)
/-- Tables that have to be the same; in so many rows. -/
abbrev TPairs := List (E × E × Option E)
def TEqP (ρ ρ' : Env) (p : E × E × Option E) : Prop := match p.2.2 with
  | none => p.1.tden ρ = p.2.1.tden ρ'
  | some n => ∀ i : Nat, (i : Int) < n.den ρ → ∀ j, p.1.tden ρ i j = p.2.1.tden ρ' i j
/-- What has to be the same: numbers, tables; what labels stand for. -/
structure Mt where
  ps : Pairs
  ts : TPairs
  lp : LP
def Mt.none_ : Mt := ⟨[], [], []⟩
def Mt.app (a b : Mt) : Mt := ⟨a.ps ++ b.ps, a.ts ++ b.ts, a.lp ++ b.lp⟩
def mlab (l' l : Nat) : Option Mt := some ⟨[], [], [(l', .lab l)]⟩
def cvM : CV → CV → Option Mt
  | .int k e, .int k' e' => match keq k k' with | true => some ⟨[(e, e')], [], []⟩ | false => none
  | .bool e, .bool e' => some ⟨[(e, e')], [], []⟩
  | .ptr l o, .ptr l' o' => match Nat.beq o o' with | true => mlab l' l | false => none
  | .nilp, .nilp => some Mt.none_
  | .nils, .nils => some Mt.none_
  | .nilf, .nilf => some Mt.none_
  | .slc l o n c, .slc l' o' n' c' => match Nat.beq o o' with | true => some ⟨[(n, n'), (c, c')], [], [(l', .lab l)]⟩ | false => none
  | .tslc l z r n c, .tslc l' z' r' n' c' => match Nat.beq z z' with | true => some ⟨[(r, r'), (n, n'), (c, c')], [], [(l', .lab l)]⟩ | false => none
  | .osl l, .osl l' => mlab l' l
  | .nils, .osl l' => some ⟨[], [], [(l', .nil)]⟩
  | _, _ => none
def cvsM : List CV → List CV → Option Mt
  | [], [] => some Mt.none_
  | c :: r, c' :: r' => match cvM c c', cvsM r r' with | some p, some q => some (p.app q) | _, _ => none
  | _, _ => none
def v1M : V1 → V1 → Option Mt
  | .one c, .one c' => cvM c c'
  | .agg cs, .agg cs' => cvsM cs cs'
  | _, _ => none
def svM : SV → SV → Option Mt
  | .v x, .v x' => v1M x x'
  | _, _ => none
def CV.bel (n : Nat) : CV → Bool
  | .ptr l _ => Nat.blt l n
  | .slc l _ _ _ => Nat.blt l n
  | .fn _ _ _ => false
  | .opq _ => false
  | .tslc l _ _ _ _ => Nat.blt l n
  | .tptr l _ _ _ => Nat.blt l n
  | .osl l => Nat.blt l n
  | .osub l _ _ => Nat.blt l n
  | .optr l _ _ _ => Nat.blt l n
  | .xptr l _ => Nat.blt l n
  | _ => true
def V1.bel (n : Nat) : V1 → Bool
  | .one c => c.bel n
  | .agg cs => cs.all (CV.bel n)
def SV.bel (n : Nat) : SV → Bool
  | .v x => x.bel n
  | .tup _ => false
def slotsM (s : Sl) (nx : Nat) : List (Nat × SV) → Option Mt
  | [] => some Mt.none_
  | (n, v) :: r => match s.get n with
    | some x => (match v.bel nx with
      | true => (match svM x v, slotsM s nx r with | some p, some q => some (p.app q) | _, _ => none)
      | false => none)
    | none => none
def eqB01 (a b : Bool) : Bool := match a with | true => b | false => (match b with | true => false | false => true)
theorem eqB01_eq {a b : Bool} (h : eqB01 a b = true) : a = b := by cases a <;> cases b <;> simp_all [eqB01]
def lpGet : LP → Nat → Option LM
  | [], _ => none
  | (a, m) :: r, l => match Nat.beq a l with | true => some m | false => lpGet r l
/-- A block of numbers, as a table. -/
def tabOf (k : CK) : List CV → Nat → E → Option E
  | [], _, t => some t
  | c :: r, i, t => match k, c with
    | .int q, .int q' e => (match keq q q' with | true => tabOf k r (i + 1) (.upd t (.lit (.ofNat i)) 0 e) | false => none)
    | .bool, .bool e => tabOf k r (i + 1) (.upd t (.lit (.ofNat i)) 0 e)
    | _, _ => none
/-- Are the numbers such as their kind has? -/
def fitCs (k : CK) : List CV → Bool
  | [] => true
  | c :: r => match k, c with
    | .int q, .int _ (.lit n) => (match ile (kmin q) n && ile n (kmax q) with | true => fitCs k r | false => false)
    | .bool, .bool _ => fitCs k r
    | _, _ => false
def heapM1 (h : T Ent) (nx : Nat) (lp : LP) (l : Nat) (wr : Bool) : Blk → Option Mt
  | .cells cs ty => (match lpGet lp l with
    | some (.lab l') => (match h.get l' with
      | some ⟨wr', .cells cs' ty'⟩ => (match Nat.blt l nx && (cs.all (CV.bel nx) && (Nat.beq ty ty' && eqB01 wr wr')) with
        | true => cvsM cs' cs
        | false => none)
      | _ => none)
    | _ => none)
  | .tab q t n ks => (match lpGet lp l with
    | some (.lab l') => (match h.get l' with
      | some ⟨wr', .tab q' t' n' ks'⟩ => (match Nat.blt l nx && (Nat.beq q l && (Nat.beq q' l' && (ckSame ks ks' && eqB01 wr wr'))) with
        | true => some ⟨[(n', n)], [(t', t, none)], []⟩
        | false => none)
      | _ => none)
    | _ => none)
  | .arr t n k ty => (match lpGet lp l with
    | some (.lab l') => (match h.get l' with
      | some ⟨wr', .arr t' n' k' ty'⟩ => (match Nat.blt l nx && (Nat.beq n n' && (Nat.beq ty ty' && (ckSame [k] [k'] && eqB01 wr wr'))) with
        | true => some ⟨[], [(t', t, none)], []⟩
        | false => none)
      | some ⟨wr', .cells cs' ty'⟩ => (match Nat.blt l nx && (Nat.beq n cs'.length && (Nat.beq ty ty' && (eqB01 wr wr' && fitCs k cs'))) with
        | true => (match tabOf k cs' 0 (.tv 0) with | some t' => some ⟨[], [(t', t, none)], []⟩ | none => none)
        | false => none)
      | _ => none)
    | _ => none)
  | .seq q t n ks ty => (match lpGet lp l with
    | some (.lab l') => (match h.get l' with
      | some ⟨wr', .seq q' t' n' ks' ty'⟩ => (match Nat.blt l nx && (Nat.beq q l && (Nat.beq q' l' && (Nat.beq ty ty' && (ckSame ks ks' && eqB01 wr wr')))) with
        | true => some ⟨[(n', n)], [(t', t, some n')], []⟩
        | false => none)
      | _ => none)
    | some .nil => (match Nat.blt l nx && Nat.beq q l with | true => some ⟨[(.lit 0, n)], [], []⟩ | false => none)
    | none => none)
  | .dead => none
def heapM (h : T Ent) (nx : Nat) : LP → List (Nat × Ent) → Option Mt
  | _, [] => some Mt.none_
  | lp, (l, ⟨wr, b⟩) :: r => match heapM1 h nx lp l wr b with
    | some p => (match heapM h nx (lp ++ p.lp) r with | some q => some (p.app q) | none => none)
    | none => none
def lmSame : LM → LM → Bool
  | .lab a, .lab b => Nat.beq a b
  | .nil, .nil => true
  | _, _ => false
/-- Each label stands for one thing; no two for the same block. -/
def lpOk1 (a : Nat) (m : LM) : LP → Bool
  | [] => true
  | (b, x) :: r => match Nat.beq a b with
    | true => lmSame m x && lpOk1 a m r
    | false => (match m, x with | .lab p, .lab q => !Nat.beq p q | _, _ => true) && lpOk1 a m r
def lpOk : LP → Bool
  | [] => true
  | (a, m) :: r => lpOk1 a m r && lpOk r
def matchS (s : S) (t : Tm) : Option Mt := match slotsM s.slots t.nx t.slots with
  | some p => (match heapM s.heap t.nx p.lp t.heap with
    | some q => (match lpOk (p.lp ++ q.lp) with | true => some (p.app q) | false => none)
    | none => none)
  | none => none
/-- What the template's labels stand for. -/
def labOf (β : Lab) (lp : LP) : Lab := ⟨fun l => match lpGet lp l with | some (.lab l') => β.b l' | _ => 0, fun l => match lpGet lp l with | some (.lab l') => β.o l' | _ => .slice none 0 0⟩
section
variable {ρ ρ' : Env} {β β' : Lab}
/-- A label's part in the new map. -/
def Maps (β β' : Lab) (p : Nat × LM) : Prop := match p.2 with
  | .lab l => β'.b p.1 = β.b l ∧ β'.o p.1 = β.o l
  | .nil => β'.o p.1 = .slice none 0 0
structure MOk (ρ ρ' : Env) (β β' : Lab) (m : Mt) : Prop where
  ps : ∀ p ∈ m.ps, p.1.den ρ = p.2.den ρ'
  ts : ∀ p ∈ m.ts, TEqP ρ ρ' p
  lp : ∀ p ∈ m.lp, Maps β β' p
theorem MOk.app_iff {a b : Mt} : MOk ρ ρ' β β' (a.app b) → MOk ρ ρ' β β' a ∧ MOk ρ ρ' β β' b := fun h =>
  ⟨⟨fun p hp => h.ps p (List.mem_append_left _ hp), fun p hp => h.ts p (List.mem_append_left _ hp), fun p hp => h.lp p (List.mem_append_left _ hp)⟩,
   ⟨fun p hp => h.ps p (List.mem_append_right _ hp), fun p hp => h.ts p (List.mem_append_right _ hp), fun p hp => h.lp p (List.mem_append_right _ hp)⟩⟩
theorem Maps.f {l l' : Nat} (h : Maps β β' (l', .lab l)) : β'.f l' = β.f l := by unfold Lab.f; rw [h.2]
theorem cvM_ok {c c' : CV} {m : Mt} (h : cvM c c' = some m) (he : MOk ρ ρ' β β' m) : c.den ρ β = c'.den ρ' β' := by
  unfold cvM at h
  split at h
  · split at h
    · rename_i hk
      cases h
      have := he.ps _ (List.mem_cons_self ..)
      simp only at this
      simp only [CV.den, this, keq_eq hk]
    · cases h
  · cases h
    have := he.ps _ (List.mem_cons_self ..)
    simp only at this
    simp only [CV.den, this]
  · split at h
    · rename_i hb
      cases h
      have := he.lp _ (List.mem_cons_self ..)
      simp only [CV.den, Nat.eq_of_beq_eq_true hb, this.1]
    · cases h
  · rfl
  · rfl
  · rfl
  · split at h
    · rename_i hb
      cases h
      have h1 := he.ps _ (List.mem_cons_self ..)
      have h2 := he.ps _ (List.mem_cons_of_mem _ (List.mem_cons_self ..))
      have h3 := he.lp _ (List.mem_cons_self ..)
      simp only at h1 h2
      simp only [CV.den, Nat.eq_of_beq_eq_true hb, h1, h2, h3.1]
    · cases h
  · split at h
    · rename_i hb
      cases h
      have h1 := he.ps _ (List.mem_cons_self ..)
      have h2 := he.ps _ (List.mem_cons_of_mem _ (List.mem_cons_self ..))
      have h3 := he.ps _ (List.mem_cons_of_mem _ (List.mem_cons_of_mem _ (List.mem_cons_self ..)))
      have h4 := he.lp _ (List.mem_cons_self ..)
      have h5 := Maps.f h4
      simp only at h1 h2 h3
      simp only [CV.den, Nat.eq_of_beq_eq_true hb, h1, h2, h3, h4.1, h5]
    · cases h
  · cases h
    have h1 := he.lp _ (List.mem_cons_self ..)
    simp only [CV.den, h1.2]
  · cases h
    have h1 : β'.o _ = .slice none 0 0 := he.lp _ (List.mem_cons_self ..)
    simp only [CV.den, h1, addrOf, lenOfV, capOf]
  · cases h
theorem cvsM_ok : ∀ {cs cs' : List CV} {m : Mt}, cvsM cs cs' = some m → MOk ρ ρ' β β' m → cs.map (CV.den ρ β) = cs'.map (CV.den ρ' β')
  | [], [], m, h, he => rfl
  | c :: r, c' :: r', m, h, he => by
    simp only [cvsM] at h
    split at h
    · rename_i p q hp hq
      cases h
      have := MOk.app_iff he
      rw [List.map_cons, List.map_cons, cvM_ok hp this.1, cvsM_ok hq this.2]
    · cases h
  | [], _ :: _, m, h, he => by simp [cvsM] at h
  | _ :: _, [], m, h, he => by simp [cvsM] at h
theorem svM_ok {x x' : SV} {m : Mt} (h : svM x x' = some m) (he : MOk ρ ρ' β β' m) : x.den ρ β = x'.den ρ' β' := by
  cases x <;> cases x' <;> simp only [svM, reduceCtorEq] at h
  rename_i x x'
  cases x <;> cases x' <;> simp only [v1M, reduceCtorEq] at h
  · exact cvM_ok h he
  · simp only [SV.den, V1.den, cvsM_ok h he]
theorem CV.bel_ok {n : Nat} {c : CV} (h : c.bel n = true) : c.below n := by
  cases c <;> simp only [CV.bel, Nat.blt_eq, Bool.false_eq_true] at h <;> first | exact h | trivial
theorem SV.bel_ok {n : Nat} {x : SV} (h : x.bel n = true) : x.below n := by
  cases x with
  | v x => cases x with
    | one c => exact CV.bel_ok h
    | agg cs => exact fun c hc => CV.bel_ok (List.all_eq_true.1 h c hc)
  | tup xs => cases h
theorem slOf_mem : ∀ {l : List (Nat × SV)} {n : Nat} {v : SV}, (slOf l).get n = some v → (n, v) ∈ l
  | [], n, v, h => by cases h
  | (m, x) :: r, n, v, h => by
    have := Sl.get_put (slOf r) m n x v h
    rcases this with ⟨rfl, rfl⟩ | ⟨_, h⟩
    · exact List.mem_cons_self ..
    · exact List.mem_cons_of_mem _ (slOf_mem h)
theorem slotsM_ok {s : Sl} {nx : Nat} : ∀ {l : List (Nat × SV)} {m : Mt}, slotsM s nx l = some m → MOk ρ ρ' β β' m → ∀ n v, (n, v) ∈ l → v.below nx ∧ ∃ x, s.get n = some x ∧ x.den ρ β = v.den ρ' β'
  | [], m, h, he, n, v, hm => by cases hm
  | (i, y) :: r, m, h, he, n, v, hm => by
    simp only [slotsM] at h
    split at h
    · rename_i x hx
      split at h
      · rename_i hb
        split at h
        · rename_i p q hp hq
          cases h
          have := MOk.app_iff he
          rcases List.mem_cons.1 hm with e | hm
          · cases e
            exact ⟨SV.bel_ok hb, x, hx, svM_ok hp this.1⟩
          · exact slotsM_ok hq this.2 n v hm
        · cases h
      · cases h
    · cases h
theorem tabOf_ok {k : CK} {ρ : Env} {β : Lab} : ∀ {cs : List CV} {i : Nat} {t t' : E}, tabOf k cs i t = some t' → fitCs k cs = true →
    (∀ m : Nat, m < i → t'.tden ρ (m : Int) 0 = t.tden ρ (m : Int) 0) ∧ ∀ (j : Nat) (c : CV), cs[j]? = some c → c.den ρ β = k.val (t'.tden ρ ((i + j : Nat) : Int) 0)
  | [], i, t, t', h, _ => by cases h; exact ⟨fun _ _ => rfl, fun j c h => by simp at h⟩
  | c :: r, i, t, t', h, hf => by
    have go : ∀ e : E, (c.den ρ β = k.val (e.den ρ)) → tabOf k r (i + 1) (.upd t (.lit (.ofNat i)) 0 e) = some t' → fitCs k r = true →
        (∀ m : Nat, m < i → t'.tden ρ (m : Int) 0 = t.tden ρ (m : Int) 0) ∧ ∀ (j : Nat) (c' : CV), (c :: r)[j]? = some c' → c'.den ρ β = k.val (t'.tden ρ ((i + j : Nat) : Int) 0) := by
      intro e hc h hf
      obtain ⟨h1, h2⟩ := tabOf_ok (ρ := ρ) (β := β) h hf
      have at_ : ∀ m : Nat, (E.upd t (.lit (.ofNat i)) 0 e).tden ρ (m : Int) 0 = if m = i then e.den ρ else t.tden ρ (m : Int) 0 := by
        intro m
        simp only [E.tden, E.den]
        by_cases hm : m = i
        · subst hm; simp
        · have : ¬ ((m : Int) = Int.ofNat i) := fun hh => hm (Int.ofNat.inj hh)
          simp only [this, false_and, if_false, hm]
      refine ⟨fun m hm => ?_, fun j c' hj => ?_⟩
      · rw [h1 m (by omega), at_, if_neg (by omega)]
      · cases j with
        | zero =>
          simp only [List.getElem?_cons_zero, Option.some.injEq] at hj
          subst hj
          rw [Nat.add_zero, h1 i (by omega), at_, if_pos rfl]
          exact hc
        | succ j =>
          simp only [List.getElem?_cons_succ] at hj
          rw [h2 j c' hj, show i + 1 + j = i + (j + 1) by omega]
    cases k with
    | int q =>
      cases c <;> simp only [tabOf, reduceCtorEq] at h
      rename_i q' e
      split at h
      · rename_i hk
        have := keq_eq hk
        subst this
        cases e <;> simp only [fitCs, Bool.false_eq_true] at hf
        rename_i n
        split at hf
        · rename_i hr
          simp only [Bool.and_eq_true] at hr
          have h1 := ile_iff.1 hr.1
          have h2 := ile_iff.1 hr.2
          exact go _ (by simp only [CV.den, CK.val, E.den, wrap_in ⟨h1, h2⟩]) h hf
        · cases hf
      · cases h
    | bool =>
      cases c <;> simp only [tabOf, reduceCtorEq] at h
      rename_i e
      simp only [fitCs] at hf
      exact go _ (by simp only [CV.den, CK.val]) h hf
theorem lpGet_mem : ∀ {lp : LP} {l : Nat} {m : LM}, lpGet lp l = some m → (l, m) ∈ lp
  | [], l, m, h => by cases h
  | (a, x) :: r, l, m, h => by
    simp only [lpGet] at h
    split at h
    · rename_i hb
      cases h
      rw [Nat.eq_of_beq_eq_true hb]
      exact List.mem_cons_self ..
    · exact List.mem_cons_of_mem _ (lpGet_mem h)
theorem heapM1_ok {h0 : T Ent} {nx : Nat} {lp : LP} {l : Nat} {wr : Bool} {blk : Blk} {m : Mt} (h : heapM1 h0 nx lp l wr blk = some m) (he : MOk ρ ρ' β β' m) (hlp : ∀ p ∈ lp, Maps β β' p) :
    l < nx ∧ blk.below nx ∧ ((∃ l' y, (l, LM.lab l') ∈ lp ∧ h0.get l' = some y ∧ y.wr = wr ∧ (blk.hb β' ↔ y.blk.hb β) ∧ ∀ w, y.blk.sat ρ β (β.b l') w → blk.sat ρ' β' (β'.b l) w) ∨ (¬ blk.hb β' ∧ ∀ b w, blk.sat ρ' β' b w)) := by
  cases blk with
  | cells cs ty =>
    simp only [heapM1] at h
    split at h
    · rename_i l' hl'
      have hm := lpGet_mem hl'
      have hM := hlp _ hm
      split at h
      · rename_i wr' cs' ty' hx
        split at h
        · rename_i hb
          simp only [Bool.and_eq_true, Nat.blt_eq] at hb
          obtain ⟨h1, h2, h3, h4⟩ := hb
          refine ⟨h1, fun c hc => CV.bel_ok (List.all_eq_true.1 h2 c hc), .inl ⟨l', _, hm, hx, (eqB01_eq h4).symm, Iff.rfl, fun w hs => ?_⟩⟩
          simp only [Blk.sat] at hs ⊢
          rw [hM.1, hs, cvsM_ok h he, Nat.eq_of_beq_eq_true h3]
        · cases h
      · cases h
    · cases h
  | tab q t n ks =>
    simp only [heapM1] at h
    split at h
    · rename_i l' hl'
      have hm := lpGet_mem hl'
      have hM := hlp _ hm
      split at h
      · rename_i wr' q' t' n' ks' hx
        split at h
        · rename_i hb
          simp only [Bool.and_eq_true, Nat.blt_eq] at hb
          obtain ⟨h1, h2, h3, h4, h5⟩ := hb
          have e1 := Nat.eq_of_beq_eq_true h2
          have e2 := Nat.eq_of_beq_eq_true h3
          have e3 := ckSame_eq h4
          subst e1; subst e2; subst e3
          cases h
          have hn := he.ps _ (List.mem_cons_self ..)
          have ht : _ = _ := he.ts _ (List.mem_cons_self ..)
          simp only at hn ht
          refine ⟨h1, h1, .inl ⟨_, _, hm, hx, (eqB01_eq h5).symm, Iff.rfl, fun w hs => ?_⟩⟩
          intro i hi j k hk
          have := hs i (by rw [hn]; exact hi) j k hk
          rw [ht] at this
          rw [hM.1, Maps.f hM]
          exact this
        · cases h
      · cases h
    · cases h
  | arr t n k ty =>
    simp only [heapM1] at h
    split at h
    · rename_i l' hl'
      have hm := lpGet_mem hl'
      have hM := hlp _ hm
      split at h
      · rename_i wr' t' n' k' ty' hx
        split at h
        · rename_i hb
          simp only [Bool.and_eq_true, Nat.blt_eq] at hb
          obtain ⟨h1, h2, h3, h4, h5⟩ := hb
          have e1 := Nat.eq_of_beq_eq_true h2
          have e2 := Nat.eq_of_beq_eq_true h3
          have e3 := ckSame_eq h4
          cases e3
          subst e1; subst e2
          cases h
          have ht : _ = _ := he.ts _ (List.mem_cons_self ..)
          simp only at ht
          refine ⟨h1, trivial, .inl ⟨_, _, hm, hx, (eqB01_eq h5).symm, Iff.rfl, fun w hs => ?_⟩⟩
          simp only [Blk.sat] at hs ⊢
          rw [hM.1, hs, ht]
        · cases h
      · rename_i wr' cs' ty' hx
        split at h
        · rename_i hb
          simp only [Bool.and_eq_true, Nat.blt_eq] at hb
          obtain ⟨h1, h2, h3, h4, h5⟩ := hb
          have e1 := Nat.eq_of_beq_eq_true h2
          have e2 := Nat.eq_of_beq_eq_true h3
          subst e1; subst e2
          split at h
          · rename_i t' ht'
            cases h
            have ht : _ = _ := he.ts _ (List.mem_cons_self ..)
            simp only at ht
            refine ⟨h1, trivial, .inl ⟨_, _, hm, hx, (eqB01_eq h4).symm, Iff.rfl, fun w hs => ?_⟩⟩
            simp only [Blk.sat] at hs ⊢
            rw [hM.1, hs]
            have hl : cs'.map (CV.den ρ β) = (List.range cs'.length).map fun (i : Nat) => k.val (t.tden ρ' (i : Int) 0) := by
              apply List.ext_getElem?
              intro j
              simp only [List.getElem?_map]
              cases hj : cs'[j]? with
              | none =>
                have := List.getElem?_eq_none_iff.1 hj
                rw [List.getElem?_eq_none (by simpa using this)]
                rfl
              | some c =>
                have hlt := (List.getElem?_eq_some_iff.1 hj).1
                rw [List.getElem?_range hlt]
                simp only [Option.map_some, Option.some.injEq]
                have := (tabOf_ok (ρ := ρ) (β := β) ht' h5).2 j c hj
                rw [Nat.zero_add] at this
                rw [this, ht]
            rw [hl]
          · cases h
        · cases h
      · cases h
    · cases h
  | seq q t n ks ty =>
    simp only [heapM1] at h
    split at h
    · rename_i l' hl'
      have hm := lpGet_mem hl'
      have hM := hlp _ hm
      split at h
      · rename_i wr' q' t' n' ks' ty' hx
        split at h
        · rename_i hb
          simp only [Bool.and_eq_true, Nat.blt_eq] at hb
          obtain ⟨h1, h2, h3, h4, h5, h6⟩ := hb
          have e1 := Nat.eq_of_beq_eq_true h2
          have e2 := Nat.eq_of_beq_eq_true h3
          have e3 := Nat.eq_of_beq_eq_true h4
          have e4 := ckSame_eq h5
          subst e1; subst e2; subst e3; subst e4
          cases h
          have hn := he.ps _ (List.mem_cons_self ..)
          have ht := he.ts _ (List.mem_cons_self ..)
          simp only [TEqP] at hn ht
          refine ⟨h1, h1, .inl ⟨_, _, hm, hx, (eqB01_eq h6).symm, by simp only [Blk.hb]; rw [hM.2], fun w hs => ?_⟩⟩
          simp only [Blk.sat] at hs ⊢
          rw [hM.1, hM.2, ← hn]
          obtain ⟨a', c', s1, s2, s3⟩ := hs
          refine ⟨a', c', s1, s2, fun hc => ?_⟩
          obtain ⟨f', arr, s4, s5, s6, s7⟩ := s3 hc
          refine ⟨f', arr, s4, s5, s6, fun i hi j kd hj => ?_⟩
          rw [← ht i hi j]
          exact s7 i hi j kd hj
        · cases h
      · cases h
    · rename_i hl'
      have hm := lpGet_mem hl'
      have hM : β'.o l = .slice none 0 0 := hlp _ hm
      split at h
      · rename_i hb
        simp only [Bool.and_eq_true, Nat.blt_eq] at hb
        have e1 := Nat.eq_of_beq_eq_true hb.2
        subst e1
        cases h
        have hn := he.ps _ (List.mem_cons_self ..)
        simp only [E.den] at hn
        refine ⟨hb.1, hb.1, .inr ⟨by simp only [Blk.hb, hM, capOf]; omega, fun b w => ?_⟩⟩
        simp only [Blk.sat, hM, ← hn]
        exact ⟨none, 0, rfl, Nat.le_refl _, fun h => absurd h (Nat.lt_irrefl _)⟩
      · cases h
    · cases h
  | dead => simp [heapM1] at h
theorem heapM_ok {h0 : T Ent} {nx : Nat} : ∀ {l : List (Nat × Ent)} {lp : LP} {m : Mt}, heapM h0 nx lp l = some m → MOk ρ ρ' β β' m → (∀ p ∈ lp, Maps β β' p) → ∀ n x, (n, x) ∈ l →
    n < nx ∧ x.blk.below nx ∧ ((∃ l' y, (n, LM.lab l') ∈ lp ++ m.lp ∧ h0.get l' = some y ∧ y.wr = x.wr ∧ (x.blk.hb β' ↔ y.blk.hb β) ∧ ∀ w, y.blk.sat ρ β (β.b l') w → x.blk.sat ρ' β' (β'.b n) w) ∨ (¬ x.blk.hb β' ∧ ∀ b w, x.blk.sat ρ' β' b w))
  | [], lp, m, h, he, hlp, n, x, hm => by cases hm
  | (l, ⟨wr, b⟩) :: r, lp, m, h, he, hlp, n, x, hm => by
    simp only [heapM] at h
    split at h
    · rename_i p hp
      split at h
      · rename_i q hq
        cases h
        obtain ⟨hep, heq⟩ := MOk.app_iff he
        rcases List.mem_cons.1 hm with e | hm
        · cases e
          obtain ⟨h1, h2, h3⟩ := heapM1_ok hp hep hlp
          refine ⟨h1, h2, h3.imp ?_ id⟩
          rintro ⟨l', y, h4, h5⟩
          exact ⟨l', y, List.mem_append_left _ h4, h5⟩
        · obtain ⟨h1, h2, h3⟩ := heapM_ok hq heq (fun p' hp' => by
            rcases List.mem_append.1 hp' with h | h
            · exact hlp p' h
            · exact hep.lp p' h) n x hm
          refine ⟨h1, h2, h3.imp ?_ id⟩
          rintro ⟨l', y, h4, h5⟩
          refine ⟨l', y, ?_, h5⟩
          rw [List.append_assoc] at h4
          exact h4
      · cases h
    · cases h
theorem putSets_mem {s : Sets} {l : Nat} {x : Ent} (h : (putSets .leaf s).get l = some x) : (l, x) ∈ s := by
  have := putSets_get s .leaf l x h
  unfold Heap.set at this
  split at this
  · rename_i y hy
    cases this
    exact Sets.find_pair hy
  · simp [T.get_leaf] at this
theorem lmSame_eq {a b : LM} (h : lmSame a b = true) : a = b := by
  cases a <;> cases b <;> simp only [lmSame, Bool.false_eq_true] at h
  · rw [Nat.eq_of_beq_eq_true h]
  · rfl
theorem lpOk1_ok {a : Nat} {m : LM} : ∀ {lp : LP}, lpOk1 a m lp = true → ∀ b x, (b, x) ∈ lp → (a = b → m = x) ∧ (a ≠ b → ∀ p q, m = .lab p → x = .lab q → p ≠ q)
  | [], _, b, x, h => by cases h
  | (c, y) :: r, h, b, x, hm => by
    simp only [lpOk1] at h
    split at h
    · rename_i hb
      have hb := Nat.eq_of_beq_eq_true hb
      subst hb
      simp only [Bool.and_eq_true] at h
      rcases List.mem_cons.1 hm with e | hm
      · cases e
        exact ⟨fun _ => lmSame_eq h.1, fun hne => absurd rfl hne⟩
      · exact lpOk1_ok h.2 b x hm
    · rename_i hb
      have hb := Nat.ne_of_beq_eq_false hb
      simp only [Bool.and_eq_true] at h
      rcases List.mem_cons.1 hm with e | hm
      · cases e
        refine ⟨fun e => absurd e hb, fun _ p q hp hq => ?_⟩
        have := h.1
        rw [hp, hq] at this
        simp only [Bool.not_eq_true'] at this
        exact Nat.ne_of_beq_eq_false this
      · exact lpOk1_ok h.2 b x hm
theorem lpOk_ok : ∀ {lp : LP}, lpOk lp = true → ∀ a m b x, (a, m) ∈ lp → (b, x) ∈ lp → (a = b → m = x) ∧ (a ≠ b → ∀ p q, m = .lab p → x = .lab q → p ≠ q)
  | [], _, a, m, b, x, h, _ => by cases h
  | (c, y) :: r, h, a, m, b, x, h1, h2 => by
    simp only [lpOk, Bool.and_eq_true] at h
    rcases List.mem_cons.1 h1 with e | h1
    · cases e
      rcases List.mem_cons.1 h2 with e | h2
      · cases e
        exact ⟨fun _ => rfl, fun hne => absurd rfl hne⟩
      · exact lpOk1_ok h.1 b x h2
    · rcases List.mem_cons.1 h2 with e | h2
      · cases e
        have := lpOk1_ok h.1 a m h1
        exact ⟨fun e => (this.1 e.symm).symm, fun hne p q hp hq => (this.2 (Ne.symm hne) q p hq hp).symm⟩
      · exact lpOk_ok h.2 a m b x h1 h2
theorem maps_all {lp : LP} (h : lpOk lp = true) : ∀ p ∈ lp, Maps β (labOf β lp) p := by
  intro p hp
  obtain ⟨a, m⟩ := p
  have hg : ∃ m', lpGet lp a = some m' := by
    clear h
    induction lp with
    | nil => cases hp
    | cons q r ih =>
      obtain ⟨b, x⟩ := q
      simp only [lpGet]
      split
      · exact ⟨_, rfl⟩
      · rename_i hb
        rcases List.mem_cons.1 hp with e | hp
        · cases e
          rw [Nat.beq_refl] at hb
          cases hb
        · exact ih hp
  obtain ⟨m', hm'⟩ := hg
  have e : m = m' := (lpOk_ok h a m a m' hp (lpGet_mem hm')).1 rfl
  subst e
  unfold Maps labOf
  cases m with
  | lab l => simp only [hm']; exact ⟨trivial, trivial⟩
  | nil => simp only [hm']
/-- What has to hold of numbers and tables. -/
structure Eqs (ρ ρ' : Env) (ps : Pairs) (ts : TPairs) : Prop where
  ps : ∀ p ∈ ps, p.1.den ρ = p.2.den ρ'
  ts : ∀ p ∈ ts, TEqP ρ ρ' p
theorem matchS_ok {s : S} {t : Tm} {m : Mt} (h : matchS s t = some m) (he : Eqs ρ ρ' m.ps m.ts) {W : World} {nt : Nat} {a : Act} {w : World} (hs : TS W ρ β nt s a w) : ∃ β', TS W ρ' β' nt t.toS a w := by
  unfold matchS at h
  split at h
  · rename_i p hp
    split at h
    · rename_i q hq
      split at h
      · rename_i hok
        cases h
        refine ⟨labOf β (p.lp ++ q.lp), ?_⟩
        have hmaps := maps_all (β := β) hok
        have hall : MOk ρ ρ' β (labOf β (p.lp ++ q.lp)) (p.app q) := ⟨he.ps, he.ts, hmaps⟩
        obtain ⟨hpm, hqm⟩ := MOk.app_iff hall
        have h1 := slotsM_ok hp hpm
        have h2 := heapM_ok hq hqm hpm.lp
        refine ⟨⟨⟨fun n v hv => ?_, hs.sat.sa.defers⟩, hs.sat.sz, ⟨fun l x hx => ?_, fun l l' x x' hx hx' hne hw hb hb' => ?_⟩⟩, hs.frm, fun l x hx hw hb => ?_⟩
        · obtain ⟨hb, y, hy, hd⟩ := h1 n v (slOf_mem hv)
          exact ⟨hb, by rw [(hs.sat.sa.slot n y hy).2, hd]⟩
        · obtain ⟨hl, hb, hor⟩ := h2 l x (putSets_mem hx)
          rcases hor with ⟨l', y, hlm, hy, _, hhb, hsat⟩ | ⟨hnb, hsat⟩
          · obtain ⟨_, _, h5, h6⟩ := hs.sat.sh.blk l' y hy
            refine ⟨hl, hb, fun hh => ?_, hsat w h6⟩
            rw [(hmaps _ hlm).1]
            exact h5 (hhb.1 hh)
          · exact ⟨hl, hb, fun hh => absurd hh hnb, hsat _ w⟩
        · rcases (h2 l x (putSets_mem hx)).2.2 with ⟨p1, y, hlm, hy, e, hhb, _⟩ | ⟨hnb, _⟩
          · rcases (h2 l' x' (putSets_mem hx')).2.2 with ⟨p2, y', hlm', hy', e', hhb', _⟩ | ⟨hnb, _⟩
            · have hpq := (lpOk_ok hok _ _ _ _ hlm hlm').2 hne p1 p2 rfl rfl
              rw [(hmaps _ hlm).1, (hmaps _ hlm').1]
              exact hs.sat.sh.inj p1 p2 y y' hy hy' hpq (by rw [e, e']; exact hw) (hhb.1 hb) (hhb'.1 hb')
            · exact absurd hb' hnb
          · exact absurd hb hnb
        · rcases (h2 l x (putSets_mem hx)).2.2 with ⟨p1, y, hlm, hy, e, hhb, _⟩ | ⟨hnb, _⟩
          · rw [(hmaps _ hlm).1]
            exact hs.own p1 y hy (by rw [e]; exact hw) (hhb.1 hb)
          · exact absurd hb hnb
      · cases h
    · cases h
  · cases h
end

/-! ### a function's end -/
/-- Where a law ends: it hands back true; the first world stands. -/
def TrueEnd (P : Program) (fn : Func) (W : World) : Exit → Act → World → Prop :=
  bodyPost P fn fun e w' => e = .returned (.bool true) ∧ Frm (fun _ => False) W w'
def retE (ty : Tys) (fn : Func) (s : S) : Option E := match resOf ty s fn.results.toList with
  | some [.one (.bool e)] => some e
  | _ => none
theorem ret_TS {P : Program} {ty : Tys} (hty : TysOk P ty) {fn : Func} {W : World} {ρ : Env} {β : Lab} {nt : Nat} {s : S} {a : Act} {w : World} (hs : TS W ρ β nt s a w) {e : E} (he : retE ty fn s = some e) (h : e.den ρ ≠ 0) {x : Exit} (hx : x = .ret ∨ x = .normal) : TrueEnd P fn W x a w := by
  unfold retE at he
  split at he
  · rename_i e' hr
    cases he
    have := results_ok (cf := mkCfg ty fun _ => none) hty hs.sat hr
    have hv : (svOfList [V1.one (CV.bool e)]).den ρ β = .bool true := by simp [svOfList, SV.den, V1.den, CV.den, h]
    rw [hv] at this
    rcases hx with rfl | rfl <;> exact ⟨hs.sat.sa.defers, _, this.1, rfl, hs.frm⟩
  · cases he
/-- A law, from its first state on. -/
theorem law_TS {P : Program} {f : FuncId} {fn : Func} {body : Code} (hf : P.funcs[f]? = some fn) (hb : fn.body = some body) {ts : List TypeId} {xs : List V1} {k : List Fact} {mm : Nat} (hsym : symArgs P ts 0 = some (xs, k, mm))
    (hw : ∀ ρ : Env, (∀ g ∈ k, Fact.holds ρ g) → ∀ (β : Lab) (W : World) (a : Act), TS W ρ β fn.ntmps ⟨argSlots xs 0 .nil, .leaf, 0, []⟩ a W → WPs P (flat body) (TrueEnd P fn W) a W) {r : Reach} {base : Nat} {W : World} {args : Array Value}
    (hsz : args.size = ts.length) (hv : ∀ (j : Nat) (t : TypeId) (v : Value), ts[j]? = some t → args[j]? = some v → Value.okWide P W r base t v) :
    Calls P f args W fun e w' => e = .returned (.bool true) ∧ Kept W w' := by
  obtain ⟨L, -, hL⟩ := symArgs_ok hsym (vs := args.toList) (by simpa using hsz) (fun j t v ht hj => hv j t v ht (by simpa using hj))
  let ρ : Env := ⟨fun i => L.getD i 0, fun _ _ _ => 0⟩
  have hρ : ρ.from 0 L := fun i _ => by simp [ρ]
  let β : Lab := ⟨fun _ => 0, fun _ => .bool true⟩
  obtain ⟨h1, h2, h3⟩ := hL ρ β hρ
  refine calls_of_wp hf hb ?_
  have hi := SatS.init (ρ := ρ) (β := β) (args := xs) (heap := .leaf) (nx := 0) (w := W) (nt := fn.ntmps) (h3 0) ⟨fun l x hx => (by cases hx), fun l l' x x' hx => (by cases hx)⟩
  rw [h1, Array.toArray_toList] at hi
  have := WPs.flat (hw ρ h2 β W _ ⟨hi, Frm.refl _ _, fun l x hx => (by cases hx)⟩)
  refine wp_mono this fun e a w he => ?_
  unfold TrueEnd at he
  have fin : ∀ e w', (e = Ending.returned (.bool true) ∧ Frm (fun _ => False) W w') → e = .returned (.bool true) ∧ Kept W w' := fun e w' h => ⟨h.1, h.2.grown fun _ h => h, fun k hk => h.2.old k hk id⟩
  cases e with
  | normal => exact ⟨he.1, he.2.imp fun v hv => ⟨hv.1, fin _ _ hv.2⟩⟩
  | ret => exact ⟨he.1, he.2.imp fun v hv => ⟨hv.1, fin _ _ hv.2⟩⟩
  | panic ch => exact ⟨he.1, fin _ _ he.2⟩
  | outgrown => exact fin _ _ he
  | exit id => exact he
  | goto l => exact he
end
end Go.Sx
/-
  SX: LOOPS, WHAT IS LEFT TO SHOW: the run of a part, as tests and equations.
-/
namespace Go.Sx
set_option linter.unusedSimpArgs false
set_option linter.unusedVariables false
set_option linter.unusedSectionVars false
noncomputable section
set_option linter.unusedVariables false

inductive What where
  | next (ps : Pairs) (ts : TPairs) | out (ps : Pairs) (ts : TPairs) | done (e : E)
abbrev Ob := List (E × Bool) × What
def nextOf : Option Mt → Option What
  | some m => some (.next m.ps m.ts)
  | none => none
def outOf : Option Mt → Option What
  | some m => some (.out m.ps m.ts)
  | none => none
def doneOf : Option E → Option What
  | some e => some (.done e)
  | none => none
def whatOf (ty : Tys) (fn : Func) (tN : Option Tm) (tX : Option (Nat × Tm)) (x : XK) (s : S) : Option What :=
  match x with
  | .nrm => (match tN with | some t => nextOf (matchS s t) | none => doneOf (retE ty fn s))
  | .ret => doneOf (retE ty fn s)
  | .ext id => (match tX with | some (b, t) => (match Nat.beq id b with | true => outOf (matchS s t) | false => none) | none => none)
/-- The tests of a path. -/
def Path (ρ : Env) (ts : List (E × Bool)) : Prop := ∀ p ∈ ts, (p.1.den ρ ≠ 0 ↔ p.2 = true)
/-- An environment, one number of it another. -/
def Env.put (ρ : Env) (i : Nat) (x : Int) : Env := ⟨fun j => if j = i then x else ρ.v j, ρ.t⟩
theorem put_v (ρ : Env) (i j : Nat) (x : Int) : (ρ.put i x).v j = if j = i then x else ρ.v j := rfl
theorem rng_iff {ρ : Env} {e : E} {a b : Int} : Fact.holds ρ (.rng e (some a, some b)) ↔ a ≤ e.den ρ ∧ e.den ρ ≤ b :=
  ⟨fun h => ⟨h.1 a rfl, h.2 b rfl⟩, fun h => ⟨fun m hm => by cases hm; exact h.1, fun m hm => by cases hm; exact h.2⟩⟩
theorem tr_iff {ρ : Env} {e : E} {b : Bool} : Fact.holds ρ (.tr e b) ↔ (e.den ρ ≠ 0 ↔ b = true) := Iff.rfl
theorem wrap_u64 (z : Int) : IntKind.u64.wrap z = z % 18446744073709551616 := by
  obtain ⟨t, ht⟩ := wrap_congr .u64 z
  have h1 : (0 : Int) ≤ IntKind.u64.wrap z := (wrap_range .u64 z).1
  have h2 : IntKind.u64.wrap z ≤ (18446744073709551615 : Int) := (wrap_range .u64 z).2
  have hk : ((kmod .u64 : Nat) : Int) = 18446744073709551616 := rfl
  rw [hk] at ht
  omega
theorem wrap_i64 {z : Int} (h : -9223372036854775808 ≤ z ∧ z ≤ 9223372036854775807) : IntKind.i64.wrap z = z := wrap_in (by simpa [kmin, kmax] using h)
theorem lt_iff {ρ : Env} {a b : E} {t : Bool} : ((E.bin .lt a b).den ρ ≠ 0 ↔ t = true) ↔ (a.den ρ < b.den ρ ↔ t = true) := by
  simp only [E.den, BO.den]; by_cases h : a.den ρ < b.den ρ <;> simp [h]
theorem eq_iff {ρ : Env} {a b : E} {t : Bool} : ((E.bin .eq a b).den ρ ≠ 0 ↔ t = true) ↔ (a.den ρ = b.den ρ ↔ t = true) := by
  simp only [E.den, BO.den]; by_cases h : a.den ρ = b.den ρ <;> simp [h]
/-! ### a law with one loop -/
def bodyOf (fn : Func) : Code := fn.body.getD .skip
def loopBody (l : List Code) (i : Nat) : Code := match l[i]? with
  | some (.block _ (.loop c)) => c
  | _ => .skip
theorem cut_at {l : List Code} {i : Nat} {c : Code} (h : l[i]? = some c) : l = l.take i ++ (c :: l.drop (i + 1)) := by
  obtain ⟨hlt, he⟩ := List.getElem?_eq_some_iff.1 h
  rw [← he, ← List.drop_eq_getElem_cons hlt, List.take_append_drop]
/-- What a part's obligations ask: from an environment on. -/
def ObsOk (ρ : Env) (obs : List Ob) (N X : Env → Prop) : Prop := ∀ ob ∈ obs, Path ρ ob.1 → match ob.2 with
  | .next ps ts => ∃ ρ', Eqs ρ ρ' ps ts ∧ N ρ'
  | .out ps ts => ∃ ρ', Eqs ρ ρ' ps ts ∧ X ρ'
  | .done e => e.den ρ ≠ 0
end
end Go.Sx
/-
  SX: ARGUMENTS THAT ARE SLICES: their elements as tables.
-/
namespace Go.Sx
set_option linter.unusedSimpArgs false
set_option linter.unusedVariables false
set_option linter.unusedSectionVars false
noncomputable section
set_option linter.unusedVariables false

/-! ### what a type's cells hold -/
def kindsFs (f : TypeId → Option (List CK)) : List Field → Nat → Option (List CK)
  | [], _ => some []
  | g :: r, o => match Nat.beq g.offset o with
    | true => (match f g.type with
      | some ks => (match kindsFs f r (o + ks.length) with | some rs => some (ks ++ rs) | none => none)
      | none => none)
    | false => none
def rep (n : Nat) (ks : List CK) : List CK := match n with
  | 0 => []
  | n + 1 => ks ++ rep n ks
def sized (P : Program) (t : TypeId) : Option (List CK) → Option (List CK)
  | some ks => match Nat.beq (P.cellsOf t) ks.length with | true => some ks | false => none
  | none => none
def kindsOf (P : Program) : Nat → TypeId → Option (List CK)
  | 0, _ => none
  | d + 1, t => sized P t (match P.underlying t with
    | some (.int k) => some [.int k]
    | some .bool => some [.bool]
    | some (.struct fs) => kindsFs (kindsOf P d) fs.toList 0
    | some (.array n e) => (match kindsOf P d e with | some ks => some (rep n ks) | none => none)
    | _ => none)
def numOf : Value → Int
  | .int _ n => n
  | .bool b => b01 b
  | _ => 0
def Fits (k : CK) (v : Value) : Prop := v = k.val (numOf v)
theorem fits_int {k : IntKind} {n : Int} (h : (Lit.int k n).wf = true) : Fits (.int k) (.int k n) := by
  simp only [Lit.wf, Bool.and_eq_true, decide_eq_true_eq, kmin_eq, kmax_eq] at h
  simp only [Fits, CK.val, numOf, wrap_in h]
theorem fits_bool (b : Bool) : Fits .bool (.bool b) := by cases b <;> simp [Fits, CK.val, numOf, b01]
theorem sized_some {P : Program} {t : TypeId} {o : Option (List CK)} {ks : List CK} (h : sized P t o = some ks) : o = some ks ∧ P.cellsOf t = ks.length := by
  unfold sized at h
  split at h
  · split at h
    · rename_i hb
      cases h
      exact ⟨rfl, Nat.eq_of_beq_eq_true hb⟩
    · cases h
  · cases h
section
variable {H : Type} {enc : TypeId × Value → H} {P : Program} {w : World} {base : Nat} {spare : Nat → Bool} {held : Bool}
def AllFit (cs : List Value) (ks : List CK) (o : Nat) : Prop := ∀ (j : Nat) (k : CK), ks[j]? = some k → ∃ v, cs[o + j]? = some v ∧ Fits k v
theorem AllFit.append {cs : List Value} {ks rs : List CK} {o : Nat} (h : AllFit cs ks o) (h' : AllFit cs rs (o + ks.length)) : AllFit cs (ks ++ rs) o := by
  intro j k hk
  by_cases hj : j < ks.length
  · exact h j k (by rwa [List.getElem?_append_left hj] at hk)
  · rw [List.getElem?_append_right (by omega)] at hk
    obtain ⟨v, h1, h2⟩ := h' _ k hk
    exact ⟨v, by rw [← h1]; congr 1; omega, h2⟩
theorem AllFit.piece {cs : List Value} {ks : List CK} {o n : Nat} (h : AllFit ((cs.drop o).take n) ks 0) : AllFit cs ks o := by
  intro j k hk
  obtain ⟨v, h1, h2⟩ := h j k hk
  rw [Nat.zero_add, List.getElem?_take] at h1
  split at h1
  · rw [List.getElem?_drop] at h1
    exact ⟨v, h1, h2⟩
  · cases h1
theorem kindsFs_fit {f : TypeId → Option (List CK)} {cs : List Value} : ∀ {fs : List Field} {o : Nat} {ks : List CK}, kindsFs f fs o = some ks →
    (∀ g ∈ fs, ∀ kg, f g.type = some kg → AllFit ((cs.drop g.offset).take (P.cellsOf g.type)) kg 0) → AllFit cs ks o
  | [], o, ks, h, hf => by
    cases h
    intro j k hk
    simp at hk
  | g :: r, o, ks, h, hf => by
    unfold kindsFs at h
    split at h
    · rename_i ho
      have ho := Nat.eq_of_beq_eq_true ho
      split at h
      · rename_i kg hkg
        split at h
        · rename_i rs hrs
          cases h
          have h1 := hf g (List.mem_cons_self ..) kg hkg
          rw [ho] at h1
          exact AllFit.append (AllFit.piece h1) (kindsFs_fit hrs fun g' hg' => hf g' (List.mem_cons_of_mem _ hg'))
        · cases h
      · cases h
    · cases h
theorem rep_fit {cs : List Value} {ks : List CK} {sz : Nat} (hsz : sz = ks.length) : ∀ (n i : Nat), (∀ m, i ≤ m → m < i + n → AllFit ((cs.drop (m * sz)).take sz) ks 0) → AllFit cs (rep n ks) (i * sz)
  | 0, i, h => by intro j k hk; simp [rep] at hk
  | n + 1, i, h => by
    unfold rep
    refine AllFit.append (AllFit.piece (h i (Nat.le_refl _) (by omega))) ?_
    have := rep_fit hsz n (i + 1) fun m h1 h2 => h m (by omega) (by omega)
    rw [show i * sz + ks.length = (i + 1) * sz by rw [Nat.add_mul, hsz]; omega]
    exact this
theorem mapM_get_some {α β : Type} {f : α → Option β} : ∀ {l : List α} {r : List β}, l.mapM f = some r → ∀ (i : Nat) (x : α), l[i]? = some x → (f x).isSome = true := by
  intro l
  induction l with
  | nil => intro r h i x hx; simp at hx
  | cons a l ih =>
    intro r h i x hx
    simp only [List.mapM_cons, Option.bind_eq_bind, Option.bind_eq_some_iff] at h
    obtain ⟨b, hb, rs, hrs, _⟩ := h
    cases i with
    | zero => simp only [List.getElem?_cons_zero, Option.some.injEq] at hx; subst hx; rw [hb]; rfl
    | succ i => exact ih hrs i x (by simpa using hx)
theorem trod_array {fuel : Nat} {t e : TypeId} {n : Nat} {cs : List Value} {x : DataW H × List MemPlace} (ht : P.underlying t = some (.array n e)) (h : DataW.trod enc P w base spare held fuel t cs = some x) :
    ∃ (fuel' : Nat) (xs : List (DataW H × List MemPlace)), (List.range n).mapM (fun i => DataW.trod enc P w base spare held fuel' e ((cs.drop (i * P.cellsOf e)).take (P.cellsOf e))) = some xs := by
  cases fuel with
  | zero => simp [DataW.trod] at h
  | succ m =>
    unfold DataW.trod at h
    rw [ht] at h
    split at h <;> simp_all
    obtain ⟨hl, xs, hp, hd⟩ := h
    exact ⟨m, xs, hp⟩
theorem trod_fit : ∀ (d : Nat) {fuel : Nat} {t : TypeId} {cs : List Value} {x : DataW H × List MemPlace} {ks : List CK}, DataW.trod enc P w base spare held fuel t cs = some x → kindsOf P d t = some ks → AllFit cs ks 0
  | 0, fuel, t, cs, x, ks, h, hk => by simp [kindsOf] at hk
  | d + 1, fuel, t, cs, x, ks, h, hk => by
    unfold kindsOf at hk
    obtain ⟨hk, hsz⟩ := sized_some hk
    split at hk
    · rename_i k hu
      cases hk
      obtain ⟨n, rfl, _, hw⟩ := DataW.trod_int hu h
      intro j k' hj
      cases j with
      | zero => cases hj; exact ⟨_, rfl, fits_int hw⟩
      | succ j => simp at hj
    · rename_i hu
      cases hk
      obtain ⟨b, rfl, _⟩ := DataW.trod_bool hu h
      intro j k' hj
      cases j with
      | zero => cases hj; exact ⟨_, rfl, fits_bool b⟩
      | succ j => simp at hj
    · rename_i fs hu
      obtain ⟨xs, n, _, _, _, hlen, hget⟩ := DataW.trod_struct hu h
      refine kindsFs_fit (P := P) hk fun g hg kg hkg => ?_
      obtain ⟨i, hi⟩ := List.getElem?_of_mem hg
      have hi' : fs[i]? = some g := by simpa using hi
      have := hget i g hi'
      have hlt : i < xs.length := by
        have := (Array.getElem?_eq_some_iff.1 hi').1
        omega
      rw [List.getElem?_eq_getElem hlt] at this
      exact trod_fit d this hkg
    · rename_i n e hu
      split at hk
      · rename_i ke hke
        cases hk
        have hse : P.cellsOf e = ke.length := by
          cases d with
          | zero => simp [kindsOf] at hke
          | succ d => unfold kindsOf at hke; exact (sized_some hke).2
        have hall : ∀ m, m < n → ∃ fuel' y, DataW.trod enc P w base spare held fuel' e ((cs.drop (m * P.cellsOf e)).take (P.cellsOf e)) = some y := by
          intro m hm
          obtain ⟨fuel', xs, hp⟩ := trod_array hu h
          have := mapM_get_some hp m m (by simp [hm])
          obtain ⟨y, hy⟩ := Option.isSome_iff_exists.1 this
          exact ⟨fuel', y, hy⟩
        have := rep_fit (cs := cs) hse n 0 fun m _ hm => by
          obtain ⟨fuel', y, hy⟩ := hall m (by omega)
          exact trod_fit d hy hke
        simpa using this
      · cases hk
    · cases hk
end

/-! ### arguments -/
def symArgT (P : Program) (t : TypeId) (n q : Nat) (isNil : Bool) : Option (V1 × List (Nat × Ent) × List Fact × Nat × Nat) :=
  match P.underlying t with
  | some (.slice e) => (match isNil with
    | true => some (.one .nils, [], [], n + 2, q + 1)
    | false => (match kindsOf P 12 e with
      | some ks => some (.one (.tslc q ks.length (.lit (.ofNat 0)) (.var n) (.var (n + 1))), [(q, ⟨false, .tab q (.tv q) (.var n) ks⟩)],
          [.rng (.var n) (some (.ofNat 0), some (.ofNat 9223372036854775807)), .rng (.var (n + 1)) (some (.ofNat 0), some (.ofNat 9223372036854775807))], n + 2, q + 1)
      | none => none))
  | _ => (match symArg P t n with | some (x, k, m) => some (x, [], k, m, q) | none => none)
def symArgsT (P : Program) : List TypeId → Nat → Nat → List Bool → Option (List V1 × List (Nat × Ent) × List Fact × Nat × Nat)
  | [], n, q, _ => some ([], [], [], n, q)
  | t :: ts, n, q, fl => match symArgT P t n q (fl.headD false) with
    | some (x, hs, k, m, q') => (match symArgsT P ts m q' fl.tail with
      | some (xs, hs', k', m', q'') => some (x :: xs, hs ++ hs', k ++ k', m', q'')
      | none => none)
    | none => none
def isNilV : Value → Bool
  | .slice none _ _ => true
  | _ => false
/-- Numbers, tables and blocks from an index on. -/
structure FromN (ρ : Env) (β : Lab) (n q : Nat) (L : List Int) (Ts : List (Int → Nat → Int)) (Bs : List (Nat × Value)) : Prop where
  v : ρ.from n L
  t : ∀ i T, Ts[i]? = some T → ρ.t (q + i) = T
  b : ∀ i b, Bs[i]? = some b → β.b (q + i) = b.1 ∧ β.o (q + i) = b.2
def HeapIn (ρ : Env) (β : Lab) (W : World) (q q' : Nat) (hs : List (Nat × Ent)) : Prop :=
  ∀ x ∈ hs, q ≤ x.1 ∧ x.1 < q' ∧ x.2.wr = false ∧ x.2.blk.below q' ∧ β.b x.1 < W.heap.size ∧ x.2.blk.sat ρ β (β.b x.1) W
section
variable {H : Type} {enc : TypeId × Value → H} {P : Program} {W : World} {base : Nat} {spare : Nat → Bool} {held : Bool} {r : Reach}
theorem symArgT_ok {t : TypeId} {n q : Nat} {x : V1} {hs : List (Nat × Ent)} {k : List Fact} {m q' : Nat} {v : Value} (h : symArgT P t n q (isNilV v) = some (x, hs, k, m, q')) (hv : Value.okWide P W r base t v) {d : DataW H} {ps : List MemPlace} (ht : DataW.Trod enc P W 0 spare held t v d ps) :
    ∃ (L : List Int) (Ts : List (Int → Nat → Int)) (Bs : List (Nat × Value)), m = n + L.length ∧ q' = q + Ts.length ∧ Bs.length = Ts.length ∧ ∀ (ρ : Env) (β : Lab), FromN ρ β n q L Ts Bs →
      x.den ρ β = v ∧ (∀ g ∈ k, Fact.holds ρ g) ∧ V1.below q' x ∧ HeapIn ρ β W q q' hs := by
  unfold symArgT at h
  split at h
  · rename_i e hu
    obtain ⟨fuel, htr⟩ := ht
    unfold Value.okWide at hv
    rw [hu] at hv
    simp only at hv
    unfold Cell.okWide at hv
    rw [hu] at hv
    split at h
    · rename_i hnil
      cases h
      cases v <;> simp only [isNilV, Bool.false_eq_true] at hnil <;> try contradiction
      rename_i a len cap
      cases a with
      | some a => simp at hnil
      | none =>
        have hz : len = 0 ∧ cap = 0 := by
          unfold Cell.ok at hv
          rw [hu] at hv
          simp only at hv
          split at hv <;> simp_all
        refine ⟨[0, 0], [fun _ _ => 0], [(0, .bool true)], rfl, rfl, rfl, fun ρ β _ => ⟨?_, fun g hg => (by cases hg), trivial, fun x hx => (by cases hx)⟩⟩
        rw [hz.1, hz.2]
        rfl
    · rename_i hnil
      split at h
      · rename_i ks hks
        cases h
        have hv' : ∃ a len cap, v = .slice (some a) len cap ∧ len ≤ cap ∧ (cap : Int) ≤ IntKind.i64.max ∧ W.has P r base a e cap := by
          cases v with
          | slice a len cap =>
            cases a with
            | none => simp [isNilV] at hnil
            | some a =>
              unfold Cell.ok at hv
              rw [hu] at hv
              exact ⟨a, len, cap, rfl, hv⟩
          | _ => unfold Cell.ok at hv; rw [hu] at hv; simp at hv
        obtain ⟨a, len, cap, rfl, hlc, hcap, hhas⟩ := hv'
        obtain ⟨_, hspot, row, cells, hshape, _⟩ := hhas
        obtain ⟨b, off, sp⟩ := a
        simp only at hspot hshape
        subst hspot
        have hsz : P.cellsOf e = ks.length := by unfold kindsOf at hks; exact (sized_some hks).2
        have hblt : b < W.heap.size := by
          unfold World.shape? at hshape
          cases hb : W.heap[b]? with
          | none => rw [hb] at hshape; cases hshape
          | some o => exact (Array.getElem?_eq_some_iff.1 hb).1
        have hel : ∀ i : Nat, i < len → ∀ (j : Nat) (kd : CK), ks[j]? = some kd → ∃ v, W.cell? ⟨b, off + i * ks.length + j, none⟩ = some v ∧ Fits kd v := by
          intro i hi j kd hj
          rcases DataW.trod_slice hu htr with ⟨hc, _⟩ | ⟨a', len', cap', elems, rest, n', _, hc, _, _, _, _, hlen, hget, _⟩
          · simp [Value.cells] at hc
          · simp only [Value.cells, List.cons.injEq, Value.slice.injEq, Option.some.injEq, and_true] at hc
            obtain ⟨rfl, rfl, rfl⟩ := hc
            have h1 := hget i hi
            rw [List.getElem?_eq_getElem (by omega)] at h1
            obtain ⟨cs, h2, h3⟩ := Option.bind_eq_some_iff.1 h1
            obtain ⟨_, h4, h5⟩ := World.cells?_some h2
            obtain ⟨v, h6, h7⟩ := trod_fit 12 h3 hks j kd hj
            have hjl : j < ks.length := (List.getElem?_eq_some_iff.1 hj).1
            have h8 := h5 j (by omega)
            rw [Addr.add_lit, Addr.add_lit, hsz] at h8
            exact ⟨v, by rw [h8, ← h6, Nat.zero_add], h7⟩
        refine ⟨[(len : Int), (cap : Int)], [fun i j => numOf ((W.cell? ⟨b, off + i.toNat * ks.length + j, none⟩).getD (.bool false))], [(b, .int .i64 off)], rfl, rfl, rfl, fun ρ β hf => ?_⟩
        have e1 : ρ.v n = len := (Env.from_cons hf.v).1
        have e2 : ρ.v (n + 1) = cap := (Env.from_cons (Env.from_cons hf.v).2).1
        have e3 := hf.t 0 _ rfl
        have e4 := hf.b 0 _ rfl
        simp only [Nat.add_zero] at e3 e4
        have e5 : β.f q = off := by unfold Lab.f; rw [e4.2]; simp
        have hi64 : (IntKind.i64.max : Int) = 9223372036854775807 := by decide
        refine ⟨?_, fun g hg => ?_, Nat.lt_succ_self _, fun x hx => ?_⟩
        · simp only [V1.den, CV.den, E.den, e1, e2, e4.1, e5]
          simp
        · simp only [List.mem_cons, List.not_mem_nil, or_false] at hg
          rcases hg with rfl | rfl
          · rw [rng_iff]; simp only [E.den, e1]; constructor
            · exact Int.natCast_nonneg _
            · show (len : Int) ≤ 9223372036854775807
              omega
          · rw [rng_iff]; simp only [E.den, e2]; constructor
            · exact Int.natCast_nonneg _
            · show (cap : Int) ≤ 9223372036854775807
              omega
        · simp only [List.mem_cons, List.not_mem_nil, or_false] at hx
          subst hx
          refine ⟨Nat.le_refl _, Nat.lt_succ_self _, rfl, Nat.lt_succ_self _, by rw [e4.1]; exact hblt, ?_⟩
          intro i hi j kd hj
          simp only [E.den, e1] at hi
          obtain ⟨v, h1, h2⟩ := hel i (by omega) j kd hj
          rw [e4.1, e5]
          simp only [E.tden, e3, Int.toNat_natCast, h1, Option.getD_some]
          rw [← h2]
      · cases h
  · rename_i hns
    split at h
    · rename_i x' k' m' hx
      cases h
      obtain ⟨L, hL, hr⟩ := symArg_ok hx hv
      exact ⟨L, [], [], hL, rfl, rfl, fun ρ β hf => ⟨(hr ρ β hf.v).1, (hr ρ β hf.v).2.1, (hr ρ β hf.v).2.2 _, fun x hx => (by cases hx)⟩⟩
    · cases h
theorem FromN.split {ρ : Env} {β : Lab} {n q : Nat} {L L' : List Int} {Ts Ts' : List (Int → Nat → Int)} {Bs Bs' : List (Nat × Value)} (hl : Bs.length = Ts.length) (h : FromN ρ β n q (L ++ L') (Ts ++ Ts') (Bs ++ Bs')) :
    FromN ρ β n q L Ts Bs ∧ FromN ρ β (n + L.length) (q + Ts.length) L' Ts' Bs' := by
  refine ⟨⟨Env.from_left h.v, fun i T hi => h.t i T ?_, fun i b hi => h.b i b ?_⟩, ⟨Env.from_right h.v, fun i T hi => ?_, fun i b hi => ?_⟩⟩
  · rw [List.getElem?_append_left (List.getElem?_eq_some_iff.1 hi).1]; exact hi
  · rw [List.getElem?_append_left (List.getElem?_eq_some_iff.1 hi).1]; exact hi
  · have := h.t (Ts.length + i) T (by rw [List.getElem?_append_right (by omega)]; simpa using hi)
    rwa [← Nat.add_assoc] at this
  · have := h.b (Bs.length + i) b (by rw [List.getElem?_append_right (by omega)]; simpa using hi)
    rwa [hl, ← Nat.add_assoc] at this
theorem symArgsT_ok : ∀ {ts : List TypeId} {n q : Nat} {xs : List V1} {hs : List (Nat × Ent)} {k : List Fact} {m q' : Nat} {vs : List Value} {ds : List (DataW H)} {ps : List MemPlace}, symArgsT P ts n q (vs.map isNilV) = some (xs, hs, k, m, q') →
    (∀ (j : Nat) (t : TypeId) (v : Value), ts[j]? = some t → vs[j]? = some v → Value.okWide P W r base t v) → DataW.TrodAll enc P W 0 spare held ts vs ds ps →
    ∃ (L : List Int) (Ts : List (Int → Nat → Int)) (Bs : List (Nat × Value)), m = n + L.length ∧ q' = q + Ts.length ∧ Bs.length = Ts.length ∧ ∀ (ρ : Env) (β : Lab), FromN ρ β n q L Ts Bs →
      xs.map (V1.den ρ β) = vs ∧ (∀ g ∈ k, Fact.holds ρ g) ∧ (∀ x ∈ xs, V1.below q' x) ∧ HeapIn ρ β W q q' hs
  | [], n, q, xs, hs, k, m, q', [], [], ps, h, hv, ht => by
    cases h
    exact ⟨[], [], [], rfl, rfl, rfl, fun ρ β _ => ⟨rfl, fun g hg => (by cases hg), fun x hx => (by cases hx), fun x hx => (by cases hx)⟩⟩
  | [], n, q, xs, hs, k, m, q', _ :: _, _, ps, h, hv, ht => by simp [DataW.TrodAll] at ht
  | [], n, q, xs, hs, k, m, q', [], _ :: _, ps, h, hv, ht => by simp [DataW.TrodAll] at ht
  | _ :: _, n, q, xs, hs, k, m, q', [], _, ps, h, hv, ht => by simp [DataW.TrodAll] at ht
  | _ :: _, n, q, xs, hs, k, m, q', _ :: _, [], ps, h, hv, ht => by simp [DataW.TrodAll] at ht
  | t :: ts, n, q, xs, hs, k, m, q', v :: vs, d :: ds, ps, h, hv, ⟨p1, p2, ht1, ht2, _⟩ => by
    simp only [symArgsT, List.map_cons, List.headD_cons, List.tail_cons] at h
    split at h
    · rename_i x hs1 k1 m1 q1 hx
      split at h
      · rename_i xs' hs2 k2 m2 q2 hxs
        cases h
        obtain ⟨L, Ts, Bs, a1, a2, a3, a4⟩ := symArgT_ok hx (hv 0 t v rfl rfl) ht1
        obtain ⟨L', Ts', Bs', b1, b2, b3, b4⟩ := symArgsT_ok hxs (fun j t v ht hj => hv (j + 1) t v ht hj) ht2
        refine ⟨L ++ L', Ts ++ Ts', Bs ++ Bs', by rw [b1, a1, List.length_append]; omega, by rw [b2, a2, List.length_append]; omega, by simp [a3, b3], fun ρ β hf => ?_⟩
        obtain ⟨f1, f2⟩ := FromN.split a3 hf
        rw [← a1, ← a2] at f2
        obtain ⟨c1, c2, c3, c4⟩ := a4 ρ β f1
        obtain ⟨d1, d2, d3, d4⟩ := b4 ρ β f2
        refine ⟨by rw [List.map_cons, c1, d1], fun g hg => ?_, fun y hy => ?_, fun y hy => ?_⟩
        · rcases List.mem_append.1 hg with hg | hg
          · exact c2 g hg
          · exact d2 g hg
        · rcases List.mem_cons.1 hy with rfl | hy
          · exact V1.below_mono (by omega) c3
          · exact d3 y hy
        · rcases List.mem_append.1 hy with hy | hy
          · obtain ⟨e1, e2, e3, e4, e5, e6⟩ := c4 y hy
            exact ⟨e1, by omega, e3, Blk.below_mono (by omega) e4, e5, e6⟩
          · obtain ⟨e1, e2, e3, e4, e5, e6⟩ := d4 y hy
            exact ⟨by omega, e2, e3, e4, e5, e6⟩
      · cases h
    · cases h
theorem isNilV_slice {t : TypeId} {v : Value} (hv : Value.okWide P W r base t v) (hn : isNilV v = true) : ∃ e, P.underlying t = some (.slice e) := by
  cases v <;> simp only [isNilV, Bool.false_eq_true] at hn
  unfold Value.okWide at hv
  cases hu : P.underlying t with
  | none => rw [hu] at hv; simp only [Cell.okWide, Cell.ok, hu] at hv
  | some d =>
    rw [hu] at hv
    cases d <;> first
      | exact ⟨_, rfl⟩
      | (obtain ⟨cs, h, _⟩ := hv; cases h; done)
      | (simp only [Cell.okWide, Cell.ok, hu] at hv; done)
      | (simp [Cell.okWide, Cell.ok, hu] at hv; done)
def flagsAll (P : Program) : List TypeId → List (List Bool)
  | [] => [[]]
  | t :: ts => (flagsAll P ts).flatMap fun fl => match P.underlying t with
    | some (.slice _) => [true :: fl, false :: fl]
    | _ => [false :: fl]
theorem flags_mem : ∀ {ts : List TypeId} {vs : List Value}, vs.length = ts.length → (∀ (j : Nat) (t : TypeId) (v : Value), ts[j]? = some t → vs[j]? = some v → Value.okWide P W r base t v) → vs.map isNilV ∈ flagsAll P ts
  | [], [], _, _ => by simp [flagsAll]
  | t :: ts, v :: vs, hl, hv => by
    have ih := flags_mem (ts := ts) (vs := vs) (by simpa using hl) (fun j t v ht hj => hv (j + 1) t v ht hj)
    simp only [flagsAll, List.map_cons, List.mem_flatMap]
    refine ⟨_, ih, ?_⟩
    cases hn : isNilV v with
    | true =>
      obtain ⟨e, he⟩ := isNilV_slice (hv 0 t v rfl rfl) hn
      rw [he]
      simp
    | false => split <;> simp
theorem law_TST {f : FuncId} {fn : Func} {body : Code} (hf : P.funcs[f]? = some fn) (hb : fn.body = some body) {ts : List TypeId}
    (hw : ∀ fl ∈ flagsAll P ts, ∃ xs hs k m q, symArgsT P ts 0 0 fl = some (xs, hs, k, m, q) ∧ ∀ ρ : Env, (∀ g ∈ k, Fact.holds ρ g) → ∀ (β : Lab) (W : World) (a : Act), TS W ρ β fn.ntmps ⟨argSlots xs 0 .nil, putSets .leaf hs, q, []⟩ a W → WPs P (Sx.flat body) (TrueEnd P fn W) a W)
    {args : Array Value} {ds : List (DataW H)} {ps : List MemPlace} (hsz : args.size = ts.length) (hv : ∀ (j : Nat) (t : TypeId) (v : Value), ts[j]? = some t → args[j]? = some v → Value.okWide P W r base t v) (ht : DataW.TrodAll enc P W 0 spare held ts args.toList ds ps) :
    Calls P f args W fun e w' => e = .returned (.bool true) ∧ Kept W w' := by
  have hv' : ∀ (j : Nat) (t : TypeId) (v : Value), ts[j]? = some t → args.toList[j]? = some v → Value.okWide P W r base t v := fun j t v ht hj => hv j t v ht (by simpa using hj)
  obtain ⟨xs, hs, k, m, q, hsym, hrun⟩ := hw _ (flags_mem (vs := args.toList) (by simpa using hsz) hv')
  obtain ⟨L, Ts, Bs, a1, a2, a3, a4⟩ := symArgsT_ok hsym hv' ht
  let ρ : Env := ⟨fun i => L.getD i 0, fun i => Ts.getD i (fun _ _ => 0)⟩
  let β : Lab := ⟨fun i => (Bs.getD i (0, .bool true)).1, fun i => (Bs.getD i (0, .bool true)).2⟩
  have hfr : FromN ρ β 0 0 L Ts Bs := ⟨fun i _ => by simp [ρ], fun i T hi => by simp [ρ, List.getD, hi], fun i b hi => by simp [β, List.getD, hi]⟩
  obtain ⟨h1, h2, h3, h4⟩ := a4 ρ β hfr
  refine calls_of_wp hf hb ?_
  have hheap : ∀ l x, (putSets .leaf hs).get l = some x → (l, x) ∈ hs := fun l x hx => putSets_mem hx
  have hi := SatS.init (ρ := ρ) (β := β) (args := xs) (heap := putSets .leaf hs) (nx := q) (w := W) (nt := fn.ntmps) h3 ⟨fun l x hx => by
      obtain ⟨e1, e2, e3, e4, e5, e6⟩ := h4 _ (hheap l x hx)
      exact ⟨e2, e4, fun _ => e5, e6⟩, fun l l' x x' hx hx' hne hw _ _ => by
      have e3 := (h4 _ (hheap l x hx)).2.2.1
      have e3' := (h4 _ (hheap l' x' hx')).2.2.1
      simp only at e3 e3'
      rw [e3, e3'] at hw
      cases hw⟩
  rw [h1, Array.toArray_toList] at hi
  have := WPs.flat (hrun ρ h2 β W _ ⟨hi, Frm.refl _ _, fun l x hx hw _ => by
    have e3 := (h4 _ (hheap l x hx)).2.2.1
    simp only at e3
    rw [e3] at hw
    cases hw⟩)
  refine wp_mono this fun e a w he => ?_
  unfold TrueEnd at he
  have fin : ∀ e w', (e = Ending.returned (.bool true) ∧ Frm (fun _ => False) W w') → e = .returned (.bool true) ∧ Kept W w' := fun e w' h => ⟨h.1, h.2.grown fun _ h => h, fun k hk => h.2.old k hk id⟩
  cases e with
  | normal => exact ⟨he.1, he.2.imp fun v hv => ⟨hv.1, fin _ _ hv.2⟩⟩
  | ret => exact ⟨he.1, he.2.imp fun v hv => ⟨hv.1, fin _ _ hv.2⟩⟩
  | panic ch => exact ⟨he.1, fin _ _ he.2⟩
  | outgrown => exact fin _ _ he
  | exit id => exact he
  | goto l => exact he
end
end
end Go.Sx
/-
  SX: LOOPS, BY THEMSELVES: the next round's numbers read off the equations; the template's facts shown again by the executor's own reckoning; rounds counted.
-/
namespace Go.Sx
set_option linter.unusedSimpArgs false
set_option linter.unusedVariables false
set_option linter.unusedSectionVars false
noncomputable section
set_option linter.unusedVariables false

abbrev Asg := List (Nat × E)
def asgGet : Asg → Nat → Option E
  | [], _ => none
  | (j, e) :: r, i => match Nat.beq j i with | true => some e | false => asgGet r i
/-- Other numbers, other tables. -/
def Env.puts (ρ : Env) (a b : Asg) : Env := ⟨fun i => match asgGet a i with | some e => e.den ρ | none => ρ.v i, fun q => match asgGet b q with | some e => e.tden ρ | none => ρ.t q⟩
def varSb (a : Asg) (i : Nat) : E := match asgGet a i with | some e => e | none => .var i
def tvSb (b : Asg) (q : Nat) : E := match asgGet b q with | some e => e | none => .tv q
def E.sb (a b : Asg) : E → E
  | .lit n => .lit n
  | .var i => varSb a i
  | .tv q => tvSb b q
  | .get t i j => .get (t.sb a b) (i.sb a b) j
  | .upd t i j v => .upd (t.sb a b) (i.sb a b) j (v.sb a b)
  | .un o x => .un o (x.sb a b)
  | .bin o x y => .bin o (x.sb a b) (y.sb a b)
  | .ite c x y => .ite (c.sb a b) (x.sb a b) (y.sb a b)
  | .app f x y => .app f (x.sb a b) (y.sb a b)
theorem varSb_den (ρ : Env) (a b : Asg) (i : Nat) : (varSb a i).den ρ = (ρ.puts a b).v i := by
  unfold varSb Env.puts
  simp only
  cases asgGet a i <;> rfl
theorem tvSb_den (ρ : Env) (a b : Asg) (q : Nat) : (tvSb b q).tden ρ = (ρ.puts a b).t q := by
  unfold tvSb Env.puts
  simp only
  cases asgGet b q <;> rfl
/-- Is it a number (0), a table (1), a pair of tables (2) by its looks? -/
def shapeI : E → Nat → Bool
  | .lit _, n => Nat.beq n 0
  | .var _, n => Nat.beq n 0
  | .tv _, n => Nat.beq n 1
  | .get t i _, n => Nat.beq n 0 && (shapeI t 1 && shapeI i 0)
  | .upd t i _ v, n => Nat.beq n 1 && (shapeI t 1 && (shapeI i 0 && shapeI v 0))
  | .un _ a, n => Nat.beq n 0 && shapeI a 0
  | .bin _ a b, n => Nat.beq n 0 && (shapeI a 0 && shapeI b 0)
  | .ite c a b, n => shapeI c 0 && (Nat.blt n 2 && (shapeI a n && shapeI b n))
  | .app f a b, n => match f with
      | 0 => Nat.beq n 1 && (shapeI a 1 && shapeI b 0)
      | 1 => Nat.beq n 0 && (shapeI a 2 && shapeI b 0)
      | 2 => Nat.beq n 2 && (shapeI a 1 && shapeI b 1)
      | 3 => Nat.beq n 1 && (shapeI a 2 && shapeI b 0)
      | 4 => Nat.beq n 1 && (shapeI a 1 && shapeI b 0)
      | _ => false
theorem sb_all (ρ : Env) (a b : Asg) (e : E) : (shapeI e 0 = true → (e.sb a b).den ρ = e.den (ρ.puts a b)) ∧ (shapeI e 1 = true → (e.sb a b).tden ρ = e.tden (ρ.puts a b)) ∧
    (shapeI e 2 = true → (e.sb a b).tden ρ = e.tden (ρ.puts a b) ∧ (e.sb a b).t2den ρ = e.t2den (ρ.puts a b)) := by
  induction e with
  | lit n => exact ⟨fun _ => rfl, fun h => by simp [shapeI] at h, fun h => by simp [shapeI] at h⟩
  | var i => exact ⟨fun _ => varSb_den ρ a b i, fun h => by simp [shapeI] at h, fun h => by simp [shapeI] at h⟩
  | tv q => exact ⟨fun h => by simp [shapeI] at h, fun _ => tvSb_den ρ a b q, fun h => by simp [shapeI] at h⟩
  | get t i j ht hi =>
    refine ⟨fun h => ?_, fun h => by simp [shapeI] at h, fun h => by simp [shapeI] at h⟩
    simp only [shapeI, Bool.and_eq_true] at h
    simp only [E.sb, E.den, ht.2.1 h.2.1, hi.1 h.2.2]
  | upd t i j v ht hi hv =>
    refine ⟨fun h => by simp [shapeI] at h, fun h => ?_, fun h => by simp [shapeI] at h⟩
    simp only [shapeI, Bool.and_eq_true] at h
    simp only [E.sb, E.tden, ht.2.1 h.2.1, hi.1 h.2.2.1, hv.1 h.2.2.2]
  | un o x hx =>
    refine ⟨fun h => ?_, fun h => by simp [shapeI] at h, fun h => by simp [shapeI] at h⟩
    simp only [shapeI, Bool.and_eq_true] at h
    simp only [E.sb, E.den, hx.1 h.2]
  | bin o x y hx hy =>
    refine ⟨fun h => ?_, fun h => by simp [shapeI] at h, fun h => by simp [shapeI] at h⟩
    simp only [shapeI, Bool.and_eq_true] at h
    simp only [E.sb, E.den, hx.1 h.2.1, hy.1 h.2.2]
  | ite c x y hc hx hy =>
    refine ⟨fun h => ?_, fun h => ?_, fun h => ?_⟩
    · simp only [shapeI, Bool.and_eq_true] at h
      simp only [E.sb, E.den, hc.1 h.1, hx.1 h.2.2.1, hy.1 h.2.2.2]
    · simp only [shapeI, Bool.and_eq_true] at h
      simp only [E.sb, E.tden, hc.1 h.1, hx.2.1 h.2.2.1, hy.2.1 h.2.2.2]
    · simp [shapeI] at h
  | app f x y hx hy =>
    match f with
    | 0 =>
      refine ⟨fun h => by simp [shapeI] at h, fun h => ?_, fun h => by simp [shapeI] at h⟩
      simp only [shapeI, Bool.and_eq_true] at h
      simp only [E.sb, E.tden, hx.2.1 h.2.1, hy.1 h.2.2]
    | 1 =>
      refine ⟨fun h => ?_, fun h => by simp [shapeI] at h, fun h => by simp [shapeI] at h⟩
      simp only [shapeI, Bool.and_eq_true] at h
      simp only [E.sb, E.den, (hx.2.2 h.2.1).1, (hx.2.2 h.2.1).2, hy.1 h.2.2]
    | 2 =>
      refine ⟨fun h => by simp [shapeI] at h, fun h => by simp [shapeI] at h, fun h => ?_⟩
      simp only [shapeI, Bool.and_eq_true] at h
      simp only [E.sb, E.tden, E.t2den, hx.2.1 h.2.1, hy.2.1 h.2.2, and_self]
    | 3 =>
      refine ⟨fun h => by simp [shapeI] at h, fun h => ?_, fun h => by simp [shapeI] at h⟩
      simp only [shapeI, Bool.and_eq_true] at h
      simp only [E.sb, E.tden, (hx.2.2 h.2.1).1, (hx.2.2 h.2.1).2, hy.1 h.2.2]
    | 4 =>
      refine ⟨fun h => by simp [shapeI] at h, fun h => ?_, fun h => by simp [shapeI] at h⟩
      simp only [shapeI, Bool.and_eq_true] at h
      simp only [E.sb, E.tden, hx.2.1 h.2.1, hy.1 h.2.2]
    | n + 5 => exact ⟨fun h => by simp [shapeI] at h, fun h => by simp [shapeI] at h, fun h => by simp [shapeI] at h⟩
def E.flatT (e : E) : Bool := shapeI e 0
def E.flatB (e : E) : Bool := shapeI e 1
theorem sb_den (ρ : Env) (a b : Asg) (e : E) (h : e.flatT = true) : (e.sb a b).den ρ = e.den (ρ.puts a b) := (sb_all ρ a b e).1 h
theorem sb_tden (ρ : Env) (a b : Asg) (e : E) (h : e.flatB = true) : (e.sb a b).tden ρ = e.tden (ρ.puts a b) := (sb_all ρ a b e).2.1 h
def asgOf : Pairs → Asg → Asg
  | [], a => a
  | (e, .var i) :: r, a => match Nat.ble 100 i && (asgGet a i).isNone with
    | true => e.deepK fun e => asgOf r ((i, e) :: a)
    | false => asgOf r a
  | _ :: r, a => asgOf r a
def tasgOf : TPairs → Asg → Asg
  | [], a => a
  | (e, .tv i, _) :: r, a => match Nat.ble 100 i && (asgGet a i).isNone with
    | true => e.deepK fun e => tasgOf r ((i, e) :: a)
    | false => tasgOf r a
  | _ :: r, a => tasgOf r a
/-- Is it 0 or 1? -/
def isB (e : E) : Bool := match e with
  | .bin .eq _ _ => true
  | .bin .lt _ _ => true
  | .bin .beq _ _ => true
  | .un .not _ => true
  | _ => false
theorem isB_den {e : E} (h : isB e = true) (ρ : Env) : e.den ρ = 0 ∨ e.den ρ = 1 := by
  cases e with
  | bin o a b => cases o <;> simp only [isB, Bool.false_eq_true] at h <;> (simp only [E.den, BO.den]; split <;> simp)
  | un o a => cases o <;> simp only [isB, Bool.false_eq_true] at h <;> (simp only [E.den, UO.den]; split <;> simp)
  | _ => simp only [isB, Bool.false_eq_true] at h
/-- A test that is decided, and a literal. -/
def sameB (k : Known) (n : Int) (y : E) : Bool := match isB y with
  | true => (match dec k y with
    | some true => ieq n 1
    | some false => ieq n 0
    | none => false)
  | false => false
theorem sameB_ok {ρ : Env} {k : Known} (hk : Known.holds ρ k) {n : Int} {y : E} (h : sameB k n y = true) : n = y.den ρ := by
  unfold sameB at h
  split at h
  · rename_i hb
    have hb := isB_den hb ρ
    split at h
    · rename_i hd
      have := (dec_sound hk hd).2 rfl
      rw [ieq_eq h]; omega
    · rename_i hd
      have := dec_sound hk hd
      have : y.den ρ = 0 := by
        by_cases h0 : y.den ρ = 0
        · exact h0
        · exact absurd (this.1 h0) (by simp)
      rw [ieq_eq h, this]
    · cases h
  · cases h
def sameN (k : Known) (x y : E) : Bool := match x with
  | .lit n => sameB k n y
  | x => (match y with
    | .lit n => sameB k n x
    | _ => false)
theorem sameN_ok {ρ : Env} {k : Known} (hk : Known.holds ρ k) {x y : E} (h : sameN k x y = true) : x.den ρ = y.den ρ := by
  unfold sameN at h
  split at h
  · exact sameB_ok hk h
  · split at h
    · exact (sameB_ok hk h).symm
    · cases h
/-- A choice that is decided. -/
def resolve (k : Known) : E → E
  | .ite c a b => (match dec k c with
    | some true => resolve k a
    | some false => resolve k b
    | none => .ite c a b)
  | e => e
theorem resolve_den {ρ : Env} {k : Known} (hk : Known.holds ρ k) : ∀ e : E, (resolve k e).den ρ = e.den ρ
  | .ite c a b => by
    unfold resolve
    split
    · rename_i hd
      have h1 := (dec_sound hk hd).2 rfl
      rw [resolve_den hk a]
      simp only [E.den]
      rw [if_neg h1]
    · rename_i hd
      have h1 : c.den ρ = 0 := by
        have := dec_sound hk hd
        by_cases h0 : c.den ρ = 0
        · exact h0
        · exact absurd (this.1 h0) (by simp)
      rw [resolve_den hk b]
      simp only [E.den]
      rw [if_pos h1]
    · rfl
  | .lit _ | .var _ | .tv _ | .get _ _ _ | .un _ _ | .bin _ _ _ | .upd _ _ _ _ | .app _ _ _ => by simp only [resolve]
def sameK (k : Known) (x y : E) : Bool := match x.same y with
  | true => true
  | false => (match isT (dec k (.bin .eq x y)) with
    | true => true
    | false => (match sameN k (norm k x) (norm k y) with
      | true => true
      | false => (norm k (resolve k (norm k x))).same (norm k (resolve k (norm k y)))))
theorem sameK_ok {ρ : Env} {k : Known} (hk : Known.holds ρ k) {x y : E} (h : sameK k x y = true) : x.den ρ = y.den ρ := by
  unfold sameK at h
  split at h
  · rename_i hs; rw [E.same_eq hs]
  · split at h
    · rename_i hT
      cases hd : dec k (.bin .eq x y) with
      | none => rw [hd] at hT; cases hT
      | some b =>
        rw [hd] at hT
        simp only [isT] at hT
        subst hT
        exact (eq_iff.1 (dec_sound hk hd)).2 rfl
    · split at h
      · rename_i h3
        have h2 := sameN_ok hk h3
        rwa [norm_den hk, norm_den hk] at h2
      · have h2 := congrArg (E.den ρ) (E.same_eq h)
        rwa [norm_den hk, norm_den hk, resolve_den hk, resolve_den hk, norm_den hk, norm_den hk] at h2
def eqsOk (k : Known) (a b : Asg) : Pairs → Bool
  | [] => true
  | (e, e') :: r => match e'.flatT && sameK k e (e'.sb a b) with | true => eqsOk k a b r | false => false
theorem eqsOk_ok {ρ : Env} {k : Known} (hk : Known.holds ρ k) {a b : Asg} : ∀ {ps : Pairs}, eqsOk k a b ps = true → ∀ p ∈ ps, p.1.den ρ = p.2.den (ρ.puts a b)
  | [], _, p, h => by cases h
  | (e, e') :: r, h, p, hp => by
    unfold eqsOk at h
    split at h
    · rename_i hs
      simp only [Bool.and_eq_true] at hs
      rcases List.mem_cons.1 hp with rfl | hp
      · rw [← sb_den ρ a b e' hs.1]; exact sameK_ok hk hs.2
      · exact eqsOk_ok hk h p hp
    · cases h
def loOk (a : Option Int) : Option Int → Bool
  | none => true
  | some n => match a with | some m => ile n m | none => false
def hiOk (a : Option Int) : Option Int → Bool
  | none => true
  | some n => match a with | some m => ile m n | none => false
theorem ile_le {a b : Int} (h : ile a b = true) : a ≤ b := ile_iff.1 h
theorem bd_in {r s : Bd} {n : Int} (h : r.has n) (h1 : loOk r.1 s.1 = true) (h2 : hiOk r.2 s.2 = true) : s.has n := by
  constructor
  · intro m hm
    rw [hm] at h1
    unfold loOk at h1
    simp only at h1
    split at h1
    · rename_i x hx; exact Int.le_trans (ile_le h1) (h.1 _ hx)
    · cases h1
  · intro m hm
    rw [hm] at h2
    unfold hiOk at h2
    simp only at h2
    split at h2
    · rename_i x hx; exact Int.le_trans (h.2 _ hx) (ile_le h2)
    · cases h2
def bdOk1 (k : Known) (e : E) (r : Bd) : Bool := (norm k e).deepK fun e => match bnd k e with | (lo, hi) => loOk lo r.1 && hiOk hi r.2
def bdOk (k : Known) (e : E) (r : Bd) : Bool := match bdOk1 k e r with
  | true => true
  | false => match r with
    | (some lo, some hi) => ieq lo hi && isT (dec k (.bin .eq e (.lit lo)))
    | _ => false
theorem bdOk1_ok {ρ : Env} {k : Known} (hk : Known.holds ρ k) {e : E} {r : Bd} (h : bdOk1 k e r = true) : r.has (e.den ρ) := by
  unfold bdOk1 at h
  rw [E.deepK_eq] at h
  simp only [Bool.and_eq_true] at h
  have := bnd_has hk (norm k e)
  rw [norm_den hk] at this
  exact bd_in this h.1 h.2
theorem bdOk_ok {ρ : Env} {k : Known} (hk : Known.holds ρ k) {e : E} {r : Bd} (h : bdOk k e r = true) : r.has (e.den ρ) := by
  unfold bdOk at h
  split at h
  · rename_i h1; exact bdOk1_ok hk h1
  · obtain ⟨lo?, hi?⟩ := r
    cases lo? <;> cases hi? <;> simp only [Bool.false_eq_true] at h
    · rename_i lo hi
      simp only [Bool.and_eq_true] at h
      have e1 := (ieq_eq h.1).symm
      subst e1
      cases hd : dec k (.bin .eq e (.lit lo)) with
      | none => rw [hd] at h; cases h.2
      | some b =>
        rw [hd] at h
        have hb : b = true := h.2
        subst hb
        have := (eq_iff.1 (dec_sound hk hd)).2 rfl
        simp only [E.den] at this
        exact ⟨fun m hm => by cases hm; omega, fun m hm => by cases hm; omega⟩
/-! ### what follows from a comparison -/
/-- A number as another one and a literal, none too great. -/
def exactOff (k : Known) (e : E) : Option (E × Int) := match offOfE e with
  | (x, a) => (match ieq a 0 with
    | true => (match e.same x with | true => some (x, 0) | false => none)
    | false => (match fits .i64 (plusB (bnd k x) a) && e.same (.bin (.add .i64) x (.lit a)) with | true => some (x, a) | false => none))
theorem exactOff_ok {ρ : Env} {k : Known} (hk : Known.holds ρ k) {e x : E} {a : Int} (h : exactOff k e = some (x, a)) : e.den ρ = x.den ρ + a := by
  unfold exactOff at h
  split at h
  rename_i x' a' _
  split at h
  · split at h
    · rename_i hs
      cases h
      rw [E.same_eq hs]; omega
    · cases h
  · split at h
    · rename_i hc
      simp only [Bool.and_eq_true] at hc
      cases h
      rw [E.same_eq hc.2]
      simp only [E.den, BO.den]
      exact fits_wrap hc.1 (plusB_has (bnd_has hk _))
    · cases h
def relT (k : Known) (y x : E × Int) (t : E × Bool) : Bool := match t with
  | (.bin .lt a b, v) => (match exactOff k (norm k a), exactOff k (norm k b) with
    | some (ba, oa), some (bb, ob) => (match v with
      | false => bb.same y.1 && (ba.same x.1 && ile ((oa - x.2) + (y.2 - ob)) 0)
      | true => ba.same y.1 && (bb.same x.1 && ile ((ob - x.2) + (y.2 - oa)) 1))
    | _, _ => false)
  | _ => false
theorem lt_den {ρ : Env} {a b : E} {v : Bool} (h : (E.bin .lt a b).den ρ ≠ 0 ↔ v = true) : (a.den ρ < b.den ρ ↔ v = true) := lt_iff.1 h
theorem relT_ok {ρ : Env} {k : Known} (hk : Known.holds ρ k) {y x : E × Int} {t : E × Bool} (ht : t.1.den ρ ≠ 0 ↔ t.2 = true) (h : relT k y x t = true) : y.1.den ρ + y.2 ≤ x.1.den ρ + x.2 := by
  unfold relT at h
  split at h
  · rename_i a b v
    split at h
    · rename_i ba oa bb ob h1 h2
      have e1 := exactOff_ok hk h1
      have e2 := exactOff_ok hk h2
      rw [norm_den hk] at e1 e2
      have hl := lt_den ht
      split at h
      · simp only [Bool.and_eq_true] at h
        have g1 := E.same_eq h.1; have g2 := E.same_eq h.2.1; have g3 := ile_iff.1 h.2.2
        rw [g1] at e2; rw [g2] at e1
        simp only [Bool.false_eq_true, iff_false] at hl
        omega
      · simp only [Bool.and_eq_true] at h
        have g1 := E.same_eq h.1; have g2 := E.same_eq h.2.1; have g3 := ile_iff.1 h.2.2
        rw [g1] at e1; rw [g2] at e2
        simp only [iff_true] at hl
        omega
    · cases h
  · cases h
/-- Is y, and d, at most x? -/
def relLe (k : Known) (d : Int) (y x : E) : Bool := match exactOff k (norm k y), exactOff k (norm k x) with
  | some (by_, oy), some x' => (by_.same x'.1 && ile (oy + d) x'.2) || k.tr.any (relT k (by_, oy + d) x')
  | _, _ => false
theorem relLe_ok {ρ : Env} {k : Known} (hk : Known.holds ρ k) {d : Int} {y x : E} (h : relLe k d y x = true) : y.den ρ + d ≤ x.den ρ := by
  unfold relLe at h
  split at h
  · rename_i by_ oy x' h1 h2
    have e1 := exactOff_ok hk h1
    have e2 := exactOff_ok hk (show exactOff k (norm k x) = some (x'.1, x'.2) from h2)
    rw [norm_den hk] at e1 e2
    rcases Bool.or_eq_true_iff.1 h with h | h
    · simp only [Bool.and_eq_true] at h
      have g1 := E.same_eq h.1; have g2 := ile_iff.1 h.2
      rw [g1] at e1
      omega
    · obtain ⟨t, ht, hr⟩ := List.any_eq_true.1 h
      have := relT_ok hk (hk.tr t ht) hr
      simp only at this
      omega
  · cases h
def relH (k : Known) (y : E × Int) (hi : Int) (t : E × Bool) : Bool := match t with
  | (.bin .lt a b, v) => (match v with
    | false => (match exactOff k (norm k b), (bnd k (norm k a)).2 with
      | some (bb, ob), some h => bb.same y.1 && ile (h + (y.2 - ob)) hi
      | _, _ => false)
    | true => (match exactOff k (norm k a), (bnd k (norm k b)).2 with
      | some (ba, oa), some h => ba.same y.1 && ile (h + (y.2 - oa)) (hi + 1)
      | _, _ => false))
  | _ => false
theorem relH_ok {ρ : Env} {k : Known} (hk : Known.holds ρ k) {y : E × Int} {hi : Int} {t : E × Bool} (ht : t.1.den ρ ≠ 0 ↔ t.2 = true) (h : relH k y hi t = true) : y.1.den ρ + y.2 ≤ hi := by
  unfold relH at h
  split at h
  · rename_i a b v
    have hl := lt_den ht
    split at h
    · split at h
      · rename_i bb ob m h1 h2
        have e1 := exactOff_ok hk h1
        have e2 := (bnd_has hk (norm k a)).2 _ h2
        rw [norm_den hk] at e1 e2
        simp only [Bool.and_eq_true] at h
        have g1 := E.same_eq h.1; have g2 := ile_iff.1 h.2
        rw [g1] at e1
        simp only [Bool.false_eq_true, iff_false] at hl
        omega
      · cases h
    · split at h
      · rename_i ba oa m h1 h2
        have e1 := exactOff_ok hk h1
        have e2 := (bnd_has hk (norm k b)).2 _ h2
        rw [norm_den hk] at e1 e2
        simp only [Bool.and_eq_true] at h
        have g1 := E.same_eq h.1; have g2 := ile_iff.1 h.2
        rw [g1] at e1
        simp only [iff_true] at hl
        omega
      · cases h
  · cases h
def relHi (k : Known) (e : E) (hi : Int) : Bool := match exactOff k (norm k e) with
  | some y => k.tr.any (relH k y hi)
  | none => false
theorem relHi_ok {ρ : Env} {k : Known} (hk : Known.holds ρ k) {e : E} {hi : Int} (h : relHi k e hi = true) : e.den ρ ≤ hi := by
  unfold relHi at h
  split at h
  · rename_i y h1
    have e1 := exactOff_ok hk (show exactOff k (norm k e) = some (y.1, y.2) from h1)
    rw [norm_den hk] at e1
    obtain ⟨t, ht, hr⟩ := List.any_eq_true.1 h
    have := relH_ok hk (hk.tr t ht) hr
    omega
  · cases h
/-- Bounds, the upper one from a comparison. -/
def bdOkR (k : Known) (e : E) (r : Bd) : Bool := match bdOk k e r with
  | true => true
  | false => (match r with
    | (lo, some hi) => bdOk k e (lo, none) && relHi k e hi
    | _ => false)
theorem bdOkR_ok {ρ : Env} {k : Known} (hk : Known.holds ρ k) {e : E} {r : Bd} (h : bdOkR k e r = true) : r.has (e.den ρ) := by
  unfold bdOkR at h
  split at h
  · rename_i h1; exact bdOk_ok hk h1
  · split at h
    · rename_i lo hi
      simp only [Bool.and_eq_true] at h
      have h1 := bdOk_ok hk h.1
      have h2 := relHi_ok hk h.2
      exact ⟨fun m hm => h1.1 m hm, fun m hm => by cases hm; exact h2⟩
    · cases h
/-- A comparison from another one. -/
def ltOk (k : Known) (v : Bool) : E → Bool
  | .bin .lt x y => (match v with | false => relLe k 0 y x | true => relLe k 1 x y)
  | _ => false
theorem ltOk_ok {ρ : Env} {k : Known} (hk : Known.holds ρ k) {v : Bool} {e : E} (h : ltOk k v e = true) : e.den ρ ≠ 0 ↔ v = true := by
  unfold ltOk at h
  split at h
  · rename_i x y
    refine lt_iff.2 ?_
    cases v
    · have := relLe_ok hk h
      constructor
      · intro hh; omega
      · intro hh; cases hh
    · have := relLe_ok hk h
      constructor
      · intro; rfl
      · intro; omega
  · cases h
def factOk (k : Known) (a b : Asg) : Fact → Bool
  | .tr e v => match e.flatT with | true => (match dec k (e.sb a b) with | some c => eqB01 v c | none => ltOk k v (e.sb a b)) | false => false
  | .rng e r => e.flatT && bdOkR k (e.sb a b) r
  | .rep _ _ => false
theorem factOk_ok {ρ : Env} {k : Known} (hk : Known.holds ρ k) {a b : Asg} {g : Fact} (h : factOk k a b g = true) : Fact.holds (ρ.puts a b) g := by
  cases g with
  | tr e v =>
    simp only [factOk] at h
    split at h
    · rename_i hf
      split at h
      · rename_i c hc
        have := dec_sound hk hc
        rw [sb_den ρ a b e hf] at this
        rw [eqB01_eq h]
        exact this
      · have := ltOk_ok hk h
        rw [sb_den ρ a b e hf] at this
        exact this
    · cases h
  | rng e r =>
    simp only [factOk, Bool.and_eq_true] at h
    have := bdOkR_ok hk h.2
    rw [sb_den ρ a b e h.1] at this
    exact this
  | rep i j => cases h
def factsOk (k : Known) (a b : Asg) : List Fact → Bool
  | [] => true
  | g :: r => match factOk k a b g with | true => factsOk k a b r | false => false
theorem factsOk_ok {ρ : Env} {k : Known} (hk : Known.holds ρ k) {a b : Asg} : ∀ {l : List Fact}, factsOk k a b l = true → ∀ g ∈ l, Fact.holds (ρ.puts a b) g
  | [], _, g, hg => by cases hg
  | x :: r, h, g, hg => by
    unfold factsOk at h
    split at h
    · rename_i hx
      rcases List.mem_cons.1 hg with rfl | hg
      · exact factOk_ok hk hx
      · exact factsOk_ok hk h g hg
    · cases h
/-- A count goes up by one, and had not come to its end. -/
def cntOk (k : Known) (a : Asg) : Option (Nat × Int) → Bool
  | none => true
  | some (c, B) => match asgGet a c with
    | some e => sameK k e (.bin (.add .i64) (.var c) (.lit (.ofNat 1))) && (bdOk k (.var c) (some (.negSucc 9223372036854775807), some (B - 1)) && ile B (.ofNat 9223372036854775807))
    | none => false
def cntLt (ρ ρ' : Env) : Option (Nat × Int) → Prop
  | none => True
  | some (c, B) => (B - ρ'.v c).toNat < (B - ρ.v c).toNat
theorem cntOk_ok {ρ : Env} {k : Known} (hk : Known.holds ρ k) {a b : Asg} {c : Option (Nat × Int)} (h : cntOk k a c = true) : cntLt ρ (ρ.puts a b) c := by
  cases c with
  | none => trivial
  | some c =>
    obtain ⟨c, B⟩ := c
    simp only [cntOk] at h
    split at h
    · rename_i e he
      simp only [Bool.and_eq_true] at h
      obtain ⟨h1, h2, h3⟩ := h
      have e1 := sameK_ok hk h1
      have e2 := bdOk_ok hk h2
      have e3 := ile_le h3
      have l1 := e2.1 _ rfl
      have l2 := e2.2 _ rfl
      have hv : (ρ.puts a b).v c = e.den ρ := by simp only [Env.puts, he]
      simp only [E.den, BO.den] at e1 l1 l2
      have l1' : -9223372036854775808 ≤ ρ.v c := l1
      have l3 : B ≤ 9223372036854775807 := e3
      have hw : IntKind.i64.wrap (ρ.v c + Int.ofNat 1) = ρ.v c + 1 := wrap_i64 (z := ρ.v c + 1) (by omega)
      rw [hw] at e1
      show (B - (ρ.puts a b).v c).toNat < (B - ρ.v c).toNat
      rw [hv, e1]
      omega
    · cases h
/-- A table without what was written behind row n. -/
def stripR (k : Known) (n : E) : E → E
  | .upd t i j v => (match relLe k 0 n i with | true => stripR k n t | false => .upd (stripR k n t) i j v)
  | e => e
theorem stripR_ok {ρ : Env} {k : Known} (hk : Known.holds ρ k) {n : E} {x : Int} (hx : x < n.den ρ) (jj : Nat) : ∀ e : E, (stripR k n e).tden ρ x jj = e.tden ρ x jj
  | .upd t i j v => by
    unfold stripR
    split
    · rename_i h
      have h1 := relLe_ok hk h
      rw [stripR_ok hk hx jj t]
      simp only [E.tden]
      rw [if_neg]
      rintro ⟨h2, _⟩
      omega
    · simp only [E.tden, stripR_ok hk hx jj t]
  | .lit _ | .var _ | .tv _ | .get _ _ _ | .un _ _ | .bin _ _ _ | .ite _ _ _ | .app _ _ _ => by simp only [stripR]
def teqOk (k : Known) (x y : E) : Option E → Bool
  | none => x.same y
  | some n => (match x.same y with | true => true | false => (stripR k n x).same (stripR k n y))
def teqsOk (k : Known) (a b : Asg) : TPairs → Bool
  | [] => true
  | (e, e', n) :: r => match e'.flatB && teqOk k (normT k e) (normT k (e'.sb a b)) n with | true => teqsOk k a b r | false => false
theorem teqsOk_ok {ρ : Env} {k : Known} (hk : Known.holds ρ k) {a b : Asg} : ∀ {ps : TPairs}, teqsOk k a b ps = true → ∀ p ∈ ps, TEqP ρ (ρ.puts a b) p
  | [], _, p, h => by cases h
  | (e, e', n) :: r, h, p, hp => by
    unfold teqsOk at h
    split at h
    · rename_i hs
      simp only [Bool.and_eq_true] at hs
      rcases List.mem_cons.1 hp with rfl | hp
      · have key : e'.tden (ρ.puts a b) = (normT k (e'.sb a b)).tden ρ := by rw [(norm2_den hk _).2.1, sb_tden ρ a b e' hs.1]
        have key2 : e.tden ρ = (normT k e).tden ρ := (norm2_den hk e).2.1.symm
        have h2 := hs.2
        cases n with
        | none =>
          simp only [teqOk] at h2
          simp only [TEqP]
          rw [key, key2, E.same_eq h2]
        | some n =>
          simp only [TEqP]
          simp only [teqOk] at h2
          intro i hi j
          rw [key, key2]
          split at h2
          · rename_i h3; rw [E.same_eq h3]
          · have := congrArg (fun t => E.tden ρ t i j) (E.same_eq h2)
            simp only [stripR_ok hk hi j] at this
            exact this
      · exact teqsOk_ok hk h p hp
    · cases h
def solved (k : Known) (facts : List Fact) (cnt : Option (Nat × Int)) (ps : Pairs) (ts : TPairs) : Bool :=
  match asgOf ps [], tasgOf ts [] with
  | a, b => eqsOk k a b ps && (teqsOk k a b ts && (factsOk k a b facts && cntOk k a cnt))
theorem solved_ok {ρ : Env} {k : Known} (hk : Known.holds ρ k) {facts : List Fact} {cnt : Option (Nat × Int)} {ps : Pairs} {ts : TPairs} (h : solved k facts cnt ps ts = true) : ∃ ρ', Eqs ρ ρ' ps ts ∧ (∀ g ∈ facts, Fact.holds ρ' g) ∧ cntLt ρ ρ' cnt := by
  simp only [solved, Bool.and_eq_true] at h
  exact ⟨_, ⟨eqsOk_ok hk h.1, teqsOk_ok hk h.2.1⟩, factsOk_ok hk h.2.2.1, cntOk_ok hk h.2.2.2⟩
def settled (k : Known) (FN FX : List Fact) (cnt : Option (Nat × Int)) : What → Bool
  | .next ps ts => solved k FN cnt ps ts
  | .out ps ts => solved k FX none ps ts
  | .done e => isT (dec k e)
def obsB (ty : Tys) (fn : Func) (tN : Option Tm) (FN : List Fact) (cnt : Option (Nat × Int)) (tX : Option (Nat × Tm)) (FX : List Fact) : Outs → Option (List Ob)
  | [] => some []
  | (k, x, s) :: r => match whatOf ty fn tN tX x s, obsB ty fn tN FN cnt tX FX r with
    | some o, some os => (match settled k FN FX cnt o with | true => some os | false => some ((k.tr, o) :: os))
    | _, _ => none
def runBk (ty : Tys) (fm : FuncId → Option Func) (mb : List (Nat × List Nat)) (n : Nat) (fn : Func) (l : List Code) (k : Known) (s : S) (tN : Option Tm) (FN : List Fact) (cnt : Option (Nat × Int)) (tX : Option (Nat × Tm)) (FX : List Fact) : Option (List Ob) :=
  match execL (mkCfgM ty fm mb) n fn.ntmps l k s with
    | some outs => obsB ty fn tN FN cnt tX FX outs
    | none => none
def runB (ty : Tys) (fm : FuncId → Option Func) (mb : List (Nat × List Nat)) (n : Nat) (fn : Func) (l : List Code) (facts : List Fact) (s : S) (tN : Option Tm) (FN : List Fact) (cnt : Option (Nat × Int)) (tX : Option (Nat × Tm)) (FX : List Fact) : Option (List Ob) :=
  Known.addsK Known.nil facts fun k => runBk ty fm mb n fn l k s tN FN cnt tX FX
/-- On a path of tests. -/
def runBP (ty : Tys) (fm : FuncId → Option Func) (mb : List (Nat × List Nat)) (n : Nat) (fn : Func) (l : List Code) (facts : List Fact) (s : S) (tN : Option Tm) (FN : List Fact) (cnt : Option (Nat × Int)) (tX : Option (Nat × Tm)) (FX : List Fact) (path : List (E × Bool)) : Option (List Ob) :=
  Known.addsK Known.nil facts fun k => assumesK k path fun k => runBk ty fm mb n fn l k s tN FN cnt tX FX
/-- What is left to show. -/
abbrev LeftOb (ρ : Env) (obs : List Ob) (FN : List Fact) (cnt : Option (Nat × Int)) (FX : List Fact) : Prop := ObsOk ρ obs (fun ρ' => (∀ g ∈ FN, Fact.holds ρ' g) ∧ cntLt ρ ρ' cnt) (fun ρ' => ∀ g ∈ FX, Fact.holds ρ' g)
theorem obsB_ok {ty : Tys} {fn : Func} {tN : Option Tm} {FN : List Fact} {cnt : Option (Nat × Int)} {tX : Option (Nat × Tm)} {FX : List Fact} : ∀ {outs : Outs} {obs : List Ob}, obsB ty fn tN FN cnt tX FX outs = some obs → ∀ o ∈ outs,
    ∃ wh, whatOf ty fn tN tX o.2.1 o.2.2 = some wh ∧ (settled o.1 FN FX cnt wh = true ∨ (o.1.tr, wh) ∈ obs)
  | [], obs, h, o, ho => by cases ho
  | (k, x, s) :: r, obs, h, o, ho => by
    simp only [obsB] at h
    split at h
    · rename_i wh os hw hos
      have ih := obsB_ok hos
      split at h
      · rename_i hd
        cases h
        rcases List.mem_cons.1 ho with rfl | ho
        · exact ⟨wh, hw, .inl hd⟩
        · exact ih o ho
      · cases h
        rcases List.mem_cons.1 ho with rfl | ho
        · exact ⟨wh, hw, .inr (List.mem_cons_self ..)⟩
        · obtain ⟨wh', h1, h2⟩ := ih o ho
          exact ⟨wh', h1, h2.imp id (List.mem_cons_of_mem _)⟩
    · cases h
def GoodP (ty : Tys) (fm : FuncId → Option Func) (mb : List (Nat × List Nat)) (n : Nat) (fn : Func) (l : List Code) (facts : List Fact) (s : S) (tN : Option Tm) (FN : List Fact) (cnt : Option (Nat × Int)) (tX : Option (Nat × Tm)) (FX : List Fact) (p : List (E × Bool)) : Prop :=
  ∃ obs, runBP ty fm mb n fn l facts s tN FN cnt tX FX p = some obs ∧ ∀ ρ, (∀ g ∈ facts, Fact.holds ρ g) → LeftOb ρ obs FN cnt FX
def GoodT (ty : Tys) (fm : FuncId → Option Func) (mb : List (Nat × List Nat)) (n : Nat) (fn : Func) (l : List Code) (facts : List Fact) (s : S) (tN : Option Tm) (FN : List Fact) (cnt : Option (Nat × Int)) (tX : Option (Nat × Tm)) (FX : List Fact) (t : DT) : Prop :=
  ∀ p ∈ t.paths, GoodP ty fm mb n fn l facts s tN FN cnt tX FX p
section
variable {P : Program} {ty : Tys} {fm : FuncId → Option Func} {mb : List (Nat × List Nat)} (hm : P.follows .mixedOrders = true) (hty : TysOk P ty) (hfn : FnOk P fm)
include hm hty hfn in
theorem run_Bk {n : Nat} {fn : Func} {l : List Code} {k0 : Known} {s : S} {tN : Option Tm} {FN : List Fact} {cnt : Option (Nat × Int)} {tX : Option (Nat × Tm)} {FX : List Fact} {obs : List Ob}
    (hrun : runBk ty fm mb n fn l k0 s tN FN cnt tX FX = some obs) {ρ : Env} (hk : Known.holds ρ k0)
    {W : World} {β : Lab} {a : Act} {w : World} (hs : TS W ρ β fn.ntmps s a w) {Q : Exit → Act → World → Prop} (hob : LeftOb ρ obs FN cnt FX)
    (hN : ∀ ρ', (∀ g ∈ FN, Fact.holds ρ' g) → cntLt ρ ρ' cnt → ∀ t, tN = some t → ∀ β a w, TS W ρ' β fn.ntmps t.toS a w → Q .normal a w)
    (hX : ∀ ρ', (∀ g ∈ FX, Fact.holds ρ' g) → ∀ b t, tX = some (b, t) → ∀ β a w, TS W ρ' β fn.ntmps t.toS a w → Q (.exit b) a w)
    (hret : ∀ a w, TrueEnd P fn W .ret a w → Q .ret a w) (hnrm : tN = none → ∀ a w, TrueEnd P fn W .normal a w → Q .normal a w) : WPs P l Q a w := by
  unfold runBk at hrun
  split at hrun
  · rename_i outs houts
    refine execL_TS hm hty hfn houts hk hs fun o ho hok β' a' w' hts => ?_
    obtain ⟨wh, hwh, hin⟩ := obsB_ok hrun o ho
    obtain ⟨k, x, s'⟩ := o
    have done : ∀ e, wh = .done e → e.den ρ ≠ 0 := by
      intro e he
      subst he
      rcases hin with hin | hin
      · simp only [settled] at hin
        cases hx : dec k e with
        | none => rw [hx] at hin; cases hin
        | some b => rw [hx] at hin; simp only [isT] at hin; subst hin; exact (dec_sound hok hx).2 rfl
      · exact hob _ hin hok.tr
    have next : ∀ ps ts, wh = .next ps ts → ∃ ρ', Eqs ρ ρ' ps ts ∧ (∀ g ∈ FN, Fact.holds ρ' g) ∧ cntLt ρ ρ' cnt := by
      intro ps ts he
      subst he
      rcases hin with hin | hin
      · exact solved_ok hok hin
      · exact hob _ hin hok.tr
    have out : ∀ ps ts, wh = .out ps ts → ∃ ρ', Eqs ρ ρ' ps ts ∧ (∀ g ∈ FX, Fact.holds ρ' g) := by
      intro ps ts he
      subst he
      rcases hin with hin | hin
      · obtain ⟨ρ', h1, h2, _⟩ := solved_ok hok hin
        exact ⟨ρ', h1, h2⟩
      · exact hob _ hin hok.tr
    cases x with
    | nrm =>
      simp only [whatOf] at hwh
      cases tN with
      | none =>
        simp only at hwh
        cases hr : retE ty fn s' with
        | none => rw [hr] at hwh; cases hwh
        | some e =>
          rw [hr] at hwh
          cases hwh
          exact hnrm rfl _ _ (ret_TS hty hts hr (done e rfl) (.inr rfl))
      | some t =>
        simp only at hwh
        cases hr : matchS s' t with
        | none => rw [hr] at hwh; cases hwh
        | some ps =>
          rw [hr] at hwh
          cases hwh
          obtain ⟨ρ', h1, h2, h3⟩ := next _ _ rfl
          obtain ⟨β2, hts2⟩ := matchS_ok hr h1 hts
          exact hN ρ' h2 h3 t rfl _ _ _ hts2
    | ret =>
      simp only [whatOf] at hwh
      cases hr : retE ty fn s' with
      | none => rw [hr] at hwh; cases hwh
      | some e =>
        rw [hr] at hwh
        cases hwh
        exact hret _ _ (ret_TS hty hts hr (done e rfl) (.inl rfl))
    | ext id =>
      simp only [whatOf] at hwh
      split at hwh
      · rename_i b t
        split at hwh
        · rename_i hb
          have := Nat.eq_of_beq_eq_true hb
          subst this
          cases hr : matchS s' t with
          | none => rw [hr] at hwh; cases hwh
          | some ps =>
            rw [hr] at hwh
            cases hwh
            obtain ⟨ρ', h1, h2⟩ := out _ _ rfl
            obtain ⟨β2, hts2⟩ := matchS_ok hr h1 hts
            exact hX ρ' h2 _ t rfl _ _ _ hts2
        · cases hwh
      · cases hwh
  · cases hrun
include hm hty hfn in
theorem run_B {n : Nat} {fn : Func} {l : List Code} {facts : List Fact} {s : S} {tN : Option Tm} {FN : List Fact} {cnt : Option (Nat × Int)} {tX : Option (Nat × Tm)} {FX : List Fact} {obs : List Ob}
    (hrun : runB ty fm mb n fn l facts s tN FN cnt tX FX = some obs) {ρ : Env} (hk : ∀ g ∈ facts, Fact.holds ρ g)
    {W : World} {β : Lab} {a : Act} {w : World} (hs : TS W ρ β fn.ntmps s a w) {Q : Exit → Act → World → Prop} (hob : LeftOb ρ obs FN cnt FX)
    (hN : ∀ ρ', (∀ g ∈ FN, Fact.holds ρ' g) → cntLt ρ ρ' cnt → ∀ t, tN = some t → ∀ β a w, TS W ρ' β fn.ntmps t.toS a w → Q .normal a w)
    (hX : ∀ ρ', (∀ g ∈ FX, Fact.holds ρ' g) → ∀ b t, tX = some (b, t) → ∀ β a w, TS W ρ' β fn.ntmps t.toS a w → Q (.exit b) a w)
    (hret : ∀ a w, TrueEnd P fn W .ret a w → Q .ret a w) (hnrm : tN = none → ∀ a w, TrueEnd P fn W .normal a w → Q .normal a w) : WPs P l Q a w := by
  unfold runB at hrun
  rw [Known.addsK_eq] at hrun
  exact run_Bk hm hty hfn hrun (Known.adds_holds (Known.nil_holds ρ) hk) hs hob hN hX hret hnrm
include hm hty hfn in
/-- By cases. -/
theorem run_T {n : Nat} {fn : Func} {l : List Code} {facts lem : List Fact} {s : S} {tN : Option Tm} {FN : List Fact} {cnt : Option (Nat × Int)} {tX : Option (Nat × Tm)} {FX : List Fact} {t : DT}
    (hg : GoodT ty fm mb n fn l (facts ++ lem) s tN FN cnt tX FX t) (hlem : ∀ ρ, (∀ g ∈ facts, Fact.holds ρ g) → ∀ g ∈ lem, Fact.holds ρ g) {ρ : Env} (hk : ∀ g ∈ facts, Fact.holds ρ g)
    {W : World} {β : Lab} {a : Act} {w : World} (hs : TS W ρ β fn.ntmps s a w) {Q : Exit → Act → World → Prop}
    (hN : ∀ ρ', (∀ g ∈ FN, Fact.holds ρ' g) → cntLt ρ ρ' cnt → ∀ t, tN = some t → ∀ β a w, TS W ρ' β fn.ntmps t.toS a w → Q .normal a w)
    (hX : ∀ ρ', (∀ g ∈ FX, Fact.holds ρ' g) → ∀ b t, tX = some (b, t) → ∀ β a w, TS W ρ' β fn.ntmps t.toS a w → Q (.exit b) a w)
    (hret : ∀ a w, TrueEnd P fn W .ret a w → Q .ret a w) (hnrm : tN = none → ∀ a w, TrueEnd P fn W .normal a w → Q .normal a w) : WPs P l Q a w := by
  obtain ⟨p, hp, hc⟩ := DT.cover ρ t
  obtain ⟨obs, hrun, hob⟩ := hg p hp
  have hall : ∀ g ∈ facts ++ lem, Fact.holds ρ g := fun g hg => by
    rcases List.mem_append.1 hg with h | h
    · exact hk g h
    · exact hlem ρ hk g h
  unfold runBP at hrun
  rw [Known.addsK_eq, assumesK_eq] at hrun
  exact run_Bk hm hty hfn hrun (assumes_holds (Known.adds_holds (Known.nil_holds ρ) hall) hc) hs (hob ρ hall) hN hX hret hnrm
include hm hty hfn in
/-- One loop, counted. -/
theorem loopB {n : Nat} {fn : Func} {s0 : S} {i b c : Nat} {B : Int} {t tE : Tm} {facts0 factsL factsE : List Fact} {obs0 obsL obs2 : List Ob}
    (hloop : (flat (bodyOf fn))[i]? = some (.block b (.loop (loopBody (flat (bodyOf fn)) i))))
    (run0 : runB ty fm mb n fn ((flat (bodyOf fn)).take i) facts0 s0 (some t) factsL none none [] = some obs0)
    (runL : runB ty fm mb n fn (flat (loopBody (flat (bodyOf fn)) i)) factsL t.toS (some t) factsL (some (c, B)) (some (b, tE)) factsE = some obsL)
    (run2 : runB ty fm mb n fn ((flat (bodyOf fn)).drop (i + 1)) factsE tE.toS none [] none none [] = some obs2)
    (h0 : ∀ ρ, (∀ g ∈ facts0, Fact.holds ρ g) → LeftOb ρ obs0 factsL none []) (hL : ∀ ρ, (∀ g ∈ factsL, Fact.holds ρ g) → LeftOb ρ obsL factsL (some (c, B)) factsE) (h2 : ∀ ρ, (∀ g ∈ factsE, Fact.holds ρ g) → LeftOb ρ obs2 [] none [])
    {ρ : Env} (hk : ∀ g ∈ facts0, Fact.holds ρ g) {β : Lab} {W : World} {a : Act} (hs : TS W ρ β fn.ntmps s0 a W) : WPs P (flat (bodyOf fn)) (TrueEnd P fn W) a W := by
  rw [cut_at hloop]
  refine WPs.append (run_B hm hty hfn run0 hk hs (h0 ρ hk) (fun ρ' hf _ t' ht' β a w hts => ?_) (fun _ _ _ _ h => by cases h) (fun a w h => h) (fun h => by cases h))
  cases ht'
  show Exit.then _ _ .normal a w
  simp only [Exit.then, WPs]
  refine wp_block ?_
  have key : ∀ (d : Nat) (ρ : Env) (β : Lab) (a : Act) (w : World), (B - ρ.v c).toNat < d → (∀ g ∈ factsL, Fact.holds ρ g) → TS W ρ β fn.ntmps t.toS a w →
      Code.rounds P (loopBody (flat (bodyOf fn)) i) (Exit.inBlock b (Exit.then (WPs P ((flat (bodyOf fn)).drop (i + 1)) (TrueEnd P fn W)) (TrueEnd P fn W))) d a w := by
    intro d
    induction d with
    | zero => intro ρ β a w hd; omega
    | succ d ih =>
      intro ρ β a w hd hf hs
      rw [rounds_succ]
      refine WPs.flat (run_B hm hty hfn runL hf hs (hL ρ hf) (fun ρ' hf' hc t' ht' β a w hts => ?_) (fun ρ' hf' b' t' ht' β a w hts => ?_) (fun a w h => h) (fun h => by cases h))
      · cases ht'
        have hc' : (B - ρ'.v c).toNat < (B - ρ.v c).toNat := hc
        exact ih ρ' β a w (by omega) hf' hts
      · cases ht'
        show Exit.then _ (Exit.inBlock _ _) (.exit _) a w
        simp only [Exit.then, Exit.inBlock, if_true]
        exact run_B hm hty hfn run2 hf' hts (h2 ρ' hf') (fun _ _ _ _ h => by cases h) (fun _ _ _ _ h => by cases h) (fun a w h => h) (fun _ a w h => h)
  exact wp_loop_rounds _ (key ((B - ρ'.v c).toNat + 1) ρ' β a w (by omega) hf hts)
include hm hty hfn in
/-- One loop, counted; each part by cases. -/
theorem loopT {n : Nat} {fn : Func} {s0 : S} {i b c : Nat} {B : Int} {t tE : Tm} {facts0 factsL factsE lemL lemE : List Fact} {tr0 trL tr2 : DT}
    (hloop : (flat (bodyOf fn))[i]? = some (.block b (.loop (loopBody (flat (bodyOf fn)) i))))
    (run0 : GoodT ty fm mb n fn ((flat (bodyOf fn)).take i) (facts0 ++ []) s0 (some t) factsL none none [] tr0)
    (runL : GoodT ty fm mb n fn (flat (loopBody (flat (bodyOf fn)) i)) (factsL ++ lemL) t.toS (some t) factsL (some (c, B)) (some (b, tE)) factsE trL)
    (run2 : GoodT ty fm mb n fn ((flat (bodyOf fn)).drop (i + 1)) (factsE ++ lemE) tE.toS none [] none none [] tr2)
    (hL : ∀ ρ, (∀ g ∈ factsL, Fact.holds ρ g) → ∀ g ∈ lemL, Fact.holds ρ g) (hE : ∀ ρ, (∀ g ∈ factsE, Fact.holds ρ g) → ∀ g ∈ lemE, Fact.holds ρ g)
    {ρ : Env} (hk : ∀ g ∈ facts0, Fact.holds ρ g) {β : Lab} {W : World} {a : Act} (hs : TS W ρ β fn.ntmps s0 a W) : WPs P (flat (bodyOf fn)) (TrueEnd P fn W) a W := by
  rw [cut_at hloop]
  refine WPs.append (run_T hm hty hfn run0 (fun _ _ _ h => by cases h) hk hs (fun ρ' hf _ t' ht' β a w hts => ?_) (fun _ _ _ _ h => by cases h) (fun a w h => h) (fun h => by cases h))
  cases ht'
  show Exit.then _ _ .normal a w
  simp only [Exit.then, WPs]
  refine wp_block ?_
  have key : ∀ (d : Nat) (ρ : Env) (β : Lab) (a : Act) (w : World), (B - ρ.v c).toNat < d → (∀ g ∈ factsL, Fact.holds ρ g) → TS W ρ β fn.ntmps t.toS a w →
      Code.rounds P (loopBody (flat (bodyOf fn)) i) (Exit.inBlock b (Exit.then (WPs P ((flat (bodyOf fn)).drop (i + 1)) (TrueEnd P fn W)) (TrueEnd P fn W))) d a w := by
    intro d
    induction d with
    | zero => intro ρ β a w hd; omega
    | succ d ih =>
      intro ρ β a w hd hf hs
      rw [rounds_succ]
      refine WPs.flat (run_T hm hty hfn runL hL hf hs (fun ρ' hf' hc t' ht' β a w hts => ?_) (fun ρ' hf' b' t' ht' β a w hts => ?_) (fun a w h => h) (fun h => by cases h))
      · cases ht'
        have hc' : (B - ρ'.v c).toNat < (B - ρ.v c).toNat := hc
        exact ih ρ' β a w (by omega) hf' hts
      · cases ht'
        show Exit.then _ (Exit.inBlock _ _) (.exit _) a w
        simp only [Exit.then, Exit.inBlock, if_true]
        exact run_T hm hty hfn run2 hE hf' hts (fun _ _ _ _ h => by cases h) (fun _ _ _ _ h => by cases h) (fun a w h => h) (fun _ a w h => h)
  exact wp_loop_rounds _ (key ((B - ρ'.v c).toNat + 1) ρ' β a w (by omega) hf hts)
include hm hty hfn in
/-- Where nothing came in: up to behind the loop, and on from there. -/
theorem loopNil {n : Nat} {fn : Func} {s0 : S} {i : Nat} {tE : Tm} {facts0 factsE lemE : List Fact} {tr0 tr2 : DT}
    (run0 : GoodT ty fm mb n fn ((flat (bodyOf fn)).take (i + 1)) (facts0 ++ []) s0 (some tE) factsE none none [] tr0)
    (run2 : GoodT ty fm mb n fn ((flat (bodyOf fn)).drop (i + 1)) (factsE ++ lemE) tE.toS none [] none none [] tr2)
    (hE : ∀ ρ, (∀ g ∈ factsE, Fact.holds ρ g) → ∀ g ∈ lemE, Fact.holds ρ g)
    {ρ : Env} (hk : ∀ g ∈ facts0, Fact.holds ρ g) {β : Lab} {W : World} {a : Act} (hs : TS W ρ β fn.ntmps s0 a W) : WPs P (flat (bodyOf fn)) (TrueEnd P fn W) a W := by
  rw [← List.take_append_drop (i + 1) (flat (bodyOf fn))]
  refine WPs.append (run_T hm hty hfn run0 (fun _ _ _ h => by cases h) hk hs (fun ρ' hf _ t' ht' β a w hts => ?_) (fun _ _ _ _ h => by cases h) (fun a w h => h) (fun h => by cases h))
  cases ht'
  show Exit.then _ _ .normal a w
  simp only [Exit.then]
  exact run_T hm hty hfn run2 hE hf hts (fun _ _ _ _ h => by cases h) (fun _ _ _ _ h => by cases h) (fun a w h => h) (fun _ a w h => h)
end
end
end Go.Sx
