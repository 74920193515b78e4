/-
  SX: LOOPS. Code as a list of parts; a state held against a template; rounds by induction.
-/
import Derived.Test.YtcobklmobbfolaaSxB
namespace Go.Sx
noncomputable section
set_option linter.unusedVariables false

/-! ### code as a list of parts -/
def WPs (P : Program) : List Code → (Exit → Act → World → Prop) → Act → World → Prop
  | [], Q => Q .normal
  | c :: r, Q => c.wp P (Exit.then (WPs P r Q) Q)
theorem WPs.mono {P : Program} : ∀ {l : List Code} {Q Q' : Exit → Act → World → Prop} {a : Act} {w : World}, WPs P l Q a w → (∀ e a w, Q e a w → Q' e a w) → WPs P l Q' a w
  | [], _, _, _, _, h, hq => hq _ _ _ h
  | c :: r, Q, Q', _, _, h, hq => wp_mono h fun e a w he => by
    cases e with
    | normal => exact WPs.mono (l := r) he hq
    | _ => exact hq _ _ _ he
theorem WPs.append {P : Program} : ∀ {l r : List Code} {Q : Exit → Act → World → Prop} {a : Act} {w : World}, WPs P l (Exit.then (WPs P r Q) Q) a w → WPs P (l ++ r) Q a w
  | [], r, Q, a, w, h => h
  | c :: l, r, Q, a, w, h => wp_mono h fun e a w he => by
    cases e with
    | normal => exact WPs.append (l := l) he
    | _ => exact he
theorem WPs.split {P : Program} : ∀ {l r : List Code} {Q : Exit → Act → World → Prop} {a : Act} {w : World}, WPs P (l ++ r) Q a w → WPs P l (Exit.then (WPs P r Q) Q) a w
  | [], r, Q, a, w, h => h
  | c :: l, r, Q, a, w, h => wp_mono h fun e a w he => by
    cases e with
    | normal => exact WPs.split (l := l) he
    | _ => exact he
/-- The parts of a sequence. -/
def flat : Code → List Code
  | .seq a b => flat a ++ flat b
  | c => [c]
theorem WPs.one {P : Program} {c : Code} {Q : Exit → Act → World → Prop} {a : Act} {w : World} (h : WPs P [c] Q a w) : c.wp P Q a w := wp_mono h fun e a w he => by cases e <;> exact he
theorem WPs.flat {P : Program} {c : Code} : ∀ {Q : Exit → Act → World → Prop} {a : Act} {w : World}, WPs P (flat c) Q a w → c.wp P Q a w := by
  induction c with
  | seq x y hx hy =>
    intro Q a w h
    rw [Sx.flat] at h
    refine wp_seq (hx ((WPs.split h).mono fun e a w he => ?_))
    cases e with
    | normal => exact hy he
    | _ => exact he
  | _ => intro Q a w h; exact WPs.one h

/-! ### the executor on a list of parts -/
def execL (cf : Cfg) (n : Nat) (nt : Nat) : List Code → Known → S → Option Outs
  | [], k, s => some [(k, .nrm, s)]
  | c :: r, k, s => match exec cf n nt c k s with
    | some outs => bindS (fun k x => k.whK fun k => match x with | (e, s) => s.whK fun s => match e with | .nrm => execL cf n nt r k s | e => some [(k, e, s)]) outs
    | none => none
def LXGood (P : Program) (ρ : Env) (nt : Nat) (l : List Code) (s : S) (o : XK × S) : Prop :=
  ∀ (β : Lab) (a : Act) (w : World), SatS ρ β nt s a w → ∀ Q : Exit → Act → World → Prop, (∀ β' a' w', Goes ρ β nt s w β' o.2 a' w' → Q o.1.toExit a' w') → WPs P l Q a w
section
variable {P : Program} {cf : Cfg} (hty : TysOk P cf.ty) {ρ : Env}
include hty in
theorem execL_ok (hfn : FnOk P cf.fn) (hdr : DrawOk P ρ cf) (n nt : Nat) : ∀ (l : List Code) (k : Known) (s : S) (outs : Outs), execL cf n nt l k s = some outs → AltsOk ρ k outs (LXGood P ρ nt l s)
  | [], k, s, outs, h => by
    simp only [execL] at h
    cases h
    exact AltsOk.single fun _ β a w hs Q hQ => hQ β a w (Goes.refl hs)
  | c :: r, k, s, outs, h => by
    simp only [execL, bindS_eq, Known.whK_eq, S.whK_eq] at h
    split at h
    · rename_i outs1 h1
      refine ((exec_ok hty hfn hdr n).1 _ _ _ _ _ h1).bind h fun k' o ys hys => ?_
      obtain ⟨x, s1⟩ := o
      cases x with
      | nrm =>
        simp only at hys
        refine (execL_ok hfn hdr n nt r k' s1 ys hys).weaken fun y hy hx => ?_
        intro β a w hs Q hQ
        refine hx β a w hs _ fun β' a' w' hg => ?_
        exact hy β' a' w' hg.sat Q fun β'' a'' w'' hg' => hQ _ _ _ (Goes.trans hs.sh hg hg')
      | ext id =>
        simp only at hys
        cases hys
        refine AltsOk.single fun _ hx => ?_
        intro β a w hs Q hQ
        exact hx β a w hs _ fun β' a' w' hg => hQ _ _ _ hg
      | ret =>
        simp only at hys
        cases hys
        refine AltsOk.single fun _ hx => ?_
        intro β a w hs Q hQ
        exact hx β a w hs _ fun β' a' w' hg => hQ _ _ _ hg
    · cases h
end

/-! ### states over a first world -/
structure TS (W : World) (ρ : Env) (β : Lab) (nt : Nat) (s : S) (a : Act) (w : World) : Prop where
  sat : SatS ρ β nt s a w
  frm : Frm (fun _ => False) W w
  own : ∀ l x, s.heap.get l = some x → x.wr = true → W.heap.size ≤ β.b l
theorem TS.goes {W : World} {ρ : Env} {β β' : Lab} {nt : Nat} {s s' : S} {a a' : Act} {w w' : World} (h : TS W ρ β nt s a w) (g : Goes ρ β nt s w β' s' a' w') : TS W ρ β' nt s' a' w' := by
  obtain ⟨t, st, _, hsub⟩ := g.step
  refine ⟨g.sat, Frm.trans h.frm st.frm fun k hk => ?_, fun l x hx hw => ?_⟩
  · rintro ⟨l, hl, hn, he⟩
    obtain ⟨y, hy, hyw⟩ := st.own l hl hn
    have := h.own l y hy hyw
    omega
  · have h1 := hsub l x hx
    by_cases hm : l ∈ t.labels
    · by_cases hn : l < s.nx
      · obtain ⟨y, hy, hyw⟩ := st.own l hm hn
        rw [(st.agree l hn).1]
        exact h.own l y hy hyw
      · have h2 := (st.new l hm (by omega)).1
        have h3 := h.frm.size
        omega
    · rw [Heap.set_of_not_mem hm] at h1
      have hn := (h.sat.sh.blk l x h1).1
      rw [(st.agree l hn).1]
      exact h.own l x h1 hw
theorem execL_TS {P : Program} {ty : Tys} {fn : FuncId → Option Func} (hm : P.follows .mixedOrders = true) (hty : TysOk P ty) (hfn : FnOk P fn) {n nt : Nat} {l : List Code} {k : Known} {s : S} {outs : Outs}
    {mb : List (Nat × List Nat)} (h : execL (mkCfgM ty fn mb) n nt l k s = some outs) {ρ : Env} (hk : Known.holds ρ k) {W : World} {β : Lab} {a : Act} {w : World} (ht : TS W ρ β nt s a w) {Q : Exit → Act → World → Prop}
    (hQ : ∀ o ∈ outs, Known.holds ρ o.1 → ∀ β' a' w', TS W ρ β' nt o.2.2 a' w' → Q o.2.1.toExit a' w') : WPs P l Q a w := by
  have hx := execL_ok (ρ := ρ) (cf := mkCfgM ty fn mb) hty hfn (fun _ _ _ _ _ _ hc hdom h => drawOps_ok (fnm := fn) hty hm hc hfn (fun f a h n k l e => hdom f a h n k l e) h) n nt l k s outs h
  obtain ⟨o, ho, hok⟩ := hx.1 hk
  exact (hx.2 o ho hok).2 β a w ht.sat Q fun β' a' w' g => hQ o ho hok β' a' w' (ht.goes g)

/-! ### a state held against a template -/
structure Tm where
  slots : List (Nat × SV)
  heap : List (Nat × Ent)
  nx : Nat
def slOf : List (Nat × SV) → Sl
  | [] => .nil
  | (n, v) :: r => .cons n v (slOf r)
def Tm.toS (t : Tm) : S := ⟨slOf t.slots, putSets .leaf t.heap, t.nx, []⟩
abbrev Pairs := List (E × E)
def cvM : CV → CV → Option Pairs
  | .int k e, .int k' e' => match keq k k' with | true => some [(e, e')] | false => none
  | .bool e, .bool e' => some [(e, e')]
  | .ptr l o, .ptr l' o' => match Nat.beq l l' && Nat.beq o o' with | true => some [] | false => none
  | .nilp, .nilp => some []
  | .nils, .nils => some []
  | .nilf, .nilf => some []
  | .slc l o n c, .slc l' o' n' c' => match Nat.beq l l' && Nat.beq o o' with | true => some [(n, n'), (c, c')] | false => none
  | .tslc l z r n c, .tslc l' z' r' n' c' => match Nat.beq l l' && Nat.beq z z' with | true => some [(r, r'), (n, n'), (c, c')] | false => none
  | .tptr l z r j, .tptr l' z' r' j' => match Nat.beq l l' && (Nat.beq z z' && Nat.beq j j') with | true => some [(r, r')] | false => none
  | _, _ => none
def cvsM : List CV → List CV → Option Pairs
  | [], [] => some []
  | c :: r, c' :: r' => match cvM c c', cvsM r r' with | some p, some q => some (p ++ q) | _, _ => none
  | _, _ => none
def v1M : V1 → V1 → Option Pairs
  | .one c, .one c' => cvM c c'
  | .agg cs, .agg cs' => cvsM cs cs'
  | _, _ => none
def svM : SV → SV → Option Pairs
  | .v x, .v x' => v1M x x'
  | _, _ => none
def CV.bel (n : Nat) : CV → Bool
  | .ptr l _ => Nat.blt l n
  | .slc l _ _ _ => Nat.blt l n
  | .fn _ _ _ => false
  | .opq _ => false
  | .tslc l _ _ _ _ => Nat.blt l n
  | .tptr l _ _ _ => Nat.blt l n
  | _ => true
def V1.bel (n : Nat) : V1 → Bool
  | .one c => c.bel n
  | .agg cs => cs.all (CV.bel n)
def SV.bel (n : Nat) : SV → Bool
  | .v x => x.bel n
  | .tup _ => false
def slotsM (s : Sl) (nx : Nat) : List (Nat × SV) → Option Pairs
  | [] => some []
  | (n, v) :: r => match s.get n with
    | some x => (match v.bel nx with
      | true => (match svM x v, slotsM s nx r with | some p, some q => some (p ++ q) | _, _ => none)
      | false => none)
    | none => none
def eqB01 (a b : Bool) : Bool := match a with | true => b | false => (match b with | true => false | false => true)
theorem eqB01_eq {a b : Bool} (h : eqB01 a b = true) : a = b := by cases a <;> cases b <;> simp_all [eqB01]
def ckEq : List CK → List CK → Bool
  | [], [] => true
  | .int k :: r, .int k' :: r' => keq k k' && ckEq r r'
  | .bool :: r, .bool :: r' => ckEq r r'
  | _, _ => false
theorem ckEq_eq : ∀ {a b : List CK}, ckEq a b = true → a = b
  | [], [], _ => rfl
  | .int k :: r, .int k' :: r', h => by
    simp only [ckEq, Bool.and_eq_true] at h
    rw [keq_eq h.1, ckEq_eq h.2]
  | .bool :: r, .bool :: r', h => by
    simp only [ckEq] at h
    rw [ckEq_eq h]
  | [], _ :: _, h => by simp [ckEq] at h
  | _ :: _, [], h => by simp [ckEq] at h
  | .int _ :: _, .bool :: _, h => by simp [ckEq] at h
  | .bool :: _, .int _ :: _, h => by simp [ckEq] at h
def tvEq : E → E → Bool
  | .tv q, .tv q' => Nat.beq q q'
  | _, _ => false
def heapM (h : T Ent) (nx : Nat) : List (Nat × Ent) → Option Pairs
  | [] => some []
  | (l, ⟨wr, .cells cs ty⟩) :: r => match h.get l with
    | some ⟨wr', .cells cs' ty'⟩ => (match Nat.blt l nx && (cs.all (CV.bel nx) && (Nat.beq ty ty' && eqB01 wr wr')) with
      | true => (match cvsM cs' cs, heapM h nx r with | some p, some q => some (p ++ q) | _, _ => none)
      | false => none)
    | _ => none
  | (l, ⟨wr, .tab q t n ks⟩) :: r => match h.get l with
    | some ⟨wr', .tab q' t' n' ks'⟩ => (match Nat.blt l nx && (Nat.blt q nx && (Nat.beq q q' && (ckEq ks ks' && (tvEq t t' && eqB01 wr wr')))) with
      | true => (match heapM h nx r with | some p => some ((n', n) :: p) | none => none)
      | false => none)
    | _ => none
def matchS (s : S) (t : Tm) : Option Pairs := match slotsM s.slots t.nx t.slots, heapM s.heap t.nx t.heap with
  | some p, some q => some (p ++ q)
  | _, _ => none
section
variable {ρ ρ' : Env} {β : Lab}
theorem cvM_ok {c c' : CV} {ps : Pairs} (h : cvM c c' = some ps) (he : ∀ p ∈ ps, p.1.den ρ = p.2.den ρ') : c.den ρ β = c'.den ρ' β := by
  unfold cvM at h
  split at h
  · split at h
    · rename_i hk
      cases h
      have := he _ (List.mem_cons_self ..)
      simp only at this
      simp only [CV.den, this, keq_eq hk]
    · cases h
  · cases h
    have := he _ (List.mem_cons_self ..)
    simp only at this
    simp only [CV.den, this]
  · split at h
    · rename_i hb
      simp only [Bool.and_eq_true] at hb
      simp only [CV.den, Nat.eq_of_beq_eq_true hb.1, Nat.eq_of_beq_eq_true hb.2]
    · cases h
  · rfl
  · rfl
  · rfl
  · split at h
    · rename_i hb
      cases h
      simp only [Bool.and_eq_true] at hb
      have h1 := he _ (List.mem_cons_self ..)
      have h2 := he _ (List.mem_cons_of_mem _ (List.mem_cons_self ..))
      simp only at h1 h2
      simp only [CV.den, Nat.eq_of_beq_eq_true hb.1, Nat.eq_of_beq_eq_true hb.2, h1, h2]
    · cases h
  · split at h
    · rename_i hb
      cases h
      simp only [Bool.and_eq_true] at hb
      have h1 := he _ (List.mem_cons_self ..)
      have h2 := he _ (List.mem_cons_of_mem _ (List.mem_cons_self ..))
      have h3 := he _ (List.mem_cons_of_mem _ (List.mem_cons_of_mem _ (List.mem_cons_self ..)))
      simp only at h1 h2 h3
      simp only [CV.den, Nat.eq_of_beq_eq_true hb.1, Nat.eq_of_beq_eq_true hb.2, h1, h2, h3]
    · cases h
  · split at h
    · rename_i hb
      cases h
      simp only [Bool.and_eq_true] at hb
      have h1 := he _ (List.mem_cons_self ..)
      simp only at h1
      simp only [CV.den, Nat.eq_of_beq_eq_true hb.1, Nat.eq_of_beq_eq_true hb.2.1, Nat.eq_of_beq_eq_true hb.2.2, h1]
    · cases h
  · cases h
theorem pairs_split {p q : Pairs} (he : ∀ x ∈ p ++ q, x.1.den ρ = x.2.den ρ') : (∀ x ∈ p, x.1.den ρ = x.2.den ρ') ∧ ∀ x ∈ q, x.1.den ρ = x.2.den ρ' :=
  ⟨fun x hx => he x (List.mem_append_left _ hx), fun x hx => he x (List.mem_append_right _ hx)⟩
theorem cvsM_ok : ∀ {cs cs' : List CV} {ps : Pairs}, cvsM cs cs' = some ps → (∀ p ∈ ps, p.1.den ρ = p.2.den ρ') → cs.map (CV.den ρ β) = cs'.map (CV.den ρ' β)
  | [], [], ps, h, he => rfl
  | c :: r, c' :: r', ps, h, he => by
    simp only [cvsM] at h
    split at h
    · rename_i p q hp hq
      cases h
      have := pairs_split he
      rw [List.map_cons, List.map_cons, cvM_ok hp this.1, cvsM_ok hq this.2]
    · cases h
  | [], _ :: _, ps, h, he => by simp [cvsM] at h
  | _ :: _, [], ps, h, he => by simp [cvsM] at h
theorem v1M_ok {x x' : V1} {ps : Pairs} (h : v1M x x' = some ps) (he : ∀ p ∈ ps, p.1.den ρ = p.2.den ρ') : x.den ρ β = x'.den ρ' β := by
  cases x <;> cases x' <;> simp only [v1M, reduceCtorEq] at h
  · exact cvM_ok h he
  · simp only [V1.den, cvsM_ok h he]
theorem svM_ok {x x' : SV} {ps : Pairs} (h : svM x x' = some ps) (he : ∀ p ∈ ps, p.1.den ρ = p.2.den ρ') : x.den ρ β = x'.den ρ' β := by
  cases x <;> cases x' <;> simp only [svM, reduceCtorEq] at h
  exact v1M_ok h he
theorem CV.bel_ok {n : Nat} {c : CV} (h : c.bel n = true) : c.below n := by
  cases c <;> simp only [CV.bel, Nat.blt_eq, Bool.false_eq_true] at h <;> first | exact h | trivial
theorem SV.bel_ok {n : Nat} {x : SV} (h : x.bel n = true) : x.below n := by
  cases x with
  | v x => cases x with
    | one c => exact CV.bel_ok h
    | agg cs => exact fun c hc => CV.bel_ok (List.all_eq_true.1 h c hc)
  | tup xs => cases h
theorem slOf_mem : ∀ {l : List (Nat × SV)} {n : Nat} {v : SV}, (slOf l).get n = some v → (n, v) ∈ l
  | [], n, v, h => by cases h
  | (m, x) :: r, n, v, h => by
    have := Sl.get_put (slOf r) m n x v h
    rcases this with ⟨rfl, rfl⟩ | ⟨_, h⟩
    · exact List.mem_cons_self ..
    · exact List.mem_cons_of_mem _ (slOf_mem h)
theorem slotsM_ok {s : Sl} {nx : Nat} : ∀ {l : List (Nat × SV)} {ps : Pairs}, slotsM s nx l = some ps → (∀ p ∈ ps, p.1.den ρ = p.2.den ρ') → ∀ n v, (n, v) ∈ l → v.below nx ∧ ∃ x, s.get n = some x ∧ ∀ β, x.den ρ β = v.den ρ' β
  | [], ps, h, he, n, v, hm => by cases hm
  | (m, y) :: r, ps, h, he, n, v, hm => by
    simp only [slotsM] at h
    split at h
    · rename_i x hx
      split at h
      · rename_i hb
        split at h
        · rename_i p q hp hq
          cases h
          have := pairs_split he
          rcases List.mem_cons.1 hm with e | hm
          · cases e
            exact ⟨SV.bel_ok hb, x, hx, fun β => svM_ok hp this.1⟩
          · exact slotsM_ok hq this.2 n v hm
        · cases h
      · cases h
    · cases h
theorem heapM_ok (hT : ρ'.t = ρ.t) {h0 : T Ent} {nx : Nat} : ∀ {l : List (Nat × Ent)} {ps : Pairs}, heapM h0 nx l = some ps → (∀ p ∈ ps, p.1.den ρ = p.2.den ρ') → ∀ n x, (n, x) ∈ l → n < nx ∧ x.blk.below nx ∧ ∃ y, h0.get n = some y ∧ y.wr = x.wr ∧ ∀ β b w, y.blk.sat ρ β b w → x.blk.sat ρ' β b w
  | [], ps, h, he, n, x, hm => by cases hm
  | (m, ⟨wr, .cells cs ty⟩) :: r, ps, h, he, n, x, hm => by
    simp only [heapM] at h
    split at h
    · rename_i wr' cs' ty' hx
      split at h
      · rename_i hb
        simp only [Bool.and_eq_true, Nat.blt_eq] at hb
        obtain ⟨h1, h2, h3, h4⟩ := hb
        split at h
        · rename_i p q hp hq
          cases h
          have := pairs_split he
          rcases List.mem_cons.1 hm with e | hm
          · cases e
            refine ⟨h1, fun c hc => CV.bel_ok (List.all_eq_true.1 h2 c hc), _, hx, (eqB01_eq h4).symm, fun β b w hs => ?_⟩
            simp only [Blk.sat] at hs ⊢
            rw [hs, cvsM_ok hp this.1, Nat.eq_of_beq_eq_true h3]
          · exact heapM_ok hT hq this.2 n x hm
        · cases h
      · cases h
    · cases h
  | (m, ⟨wr, .tab q t n' ks⟩) :: r, ps, h, he, n, x, hm => by
    simp only [heapM] at h
    split at h
    · rename_i wr' q' t' n2 ks' hx
      split at h
      · rename_i hb
        simp only [Bool.and_eq_true, Nat.blt_eq] at hb
        obtain ⟨h1, h2, h3, h4, h5, h6⟩ := hb
        split at h
        · rename_i p hp
          cases h
          have hn := he _ (List.mem_cons_self ..)
          simp only at hn
          rcases List.mem_cons.1 hm with e | hm
          · cases e
            refine ⟨h1, h2, _, hx, (eqB01_eq h6).symm, fun β b w hs => ?_⟩
            have ht : t'.tden ρ = t.tden ρ' := by
              unfold tvEq at h5
              split at h5
              · rename_i a b
                rw [Nat.eq_of_beq_eq_true h5]
                simp only [E.tden, hT]
              · cases h5
            have e1 := Nat.eq_of_beq_eq_true h3
            have e2 := ckEq_eq h4
            subst e1
            subst e2
            intro i hi j k hk
            have := hs i (by rw [hn]; exact hi) j k hk
            rw [ht] at this
            exact this
          · exact heapM_ok hT hp (fun p hp => he p (List.mem_cons_of_mem _ hp)) n x hm
        · cases h
      · cases h
    · cases h
theorem find_mem' {l : Nat} {x : Ent} : ∀ {s : Sets}, s.find l = some x → (l, x) ∈ s
  | [], h => by cases h
  | (l', y) :: r, h => by
    unfold Sets.find at h
    split at h
    · rename_i z hz
      cases h
      exact List.mem_cons_of_mem _ (find_mem' hz)
    · split at h
      · rename_i hb
        cases h
        rw [Nat.eq_of_beq_eq_true hb]
        exact List.mem_cons_self ..
      · cases h
theorem putSets_mem {s : Sets} {l : Nat} {x : Ent} (h : (putSets .leaf s).get l = some x) : (l, x) ∈ s := by
  have := putSets_get s .leaf l x h
  unfold Heap.set at this
  split at this
  · rename_i y hy
    cases this
    exact find_mem' hy
  · simp [T.get_leaf] at this
theorem matchS_ok (hT : ρ'.t = ρ.t) {s : S} {t : Tm} {ps : Pairs} (h : matchS s t = some ps) (he : ∀ p ∈ ps, p.1.den ρ = p.2.den ρ') {W : World} {nt : Nat} {a : Act} {w : World} (hs : TS W ρ β nt s a w) : TS W ρ' β nt t.toS a w := by
  unfold matchS at h
  split at h
  · rename_i p q hp hq
    cases h
    have hpq := pairs_split he
    have h1 := slotsM_ok hp hpq.1
    have h2 := heapM_ok hT hq hpq.2
    refine ⟨⟨⟨fun n v hv => ?_, hs.sat.sa.defers⟩, hs.sat.sz, ⟨fun l x hx => ?_, fun l l' x x' hx hx' hne hw => ?_⟩⟩, hs.frm, fun l x hx hw => ?_⟩
    · obtain ⟨hb, y, hy, hd⟩ := h1 n v (slOf_mem hv)
      exact ⟨hb, by rw [(hs.sat.sa.slot n y hy).2, hd]⟩
    · obtain ⟨hl, hb, y, hy, _, hsat⟩ := h2 l x (putSets_mem hx)
      obtain ⟨_, _, h5, h6⟩ := hs.sat.sh.blk l y hy
      exact ⟨hl, hb, h5, hsat β _ w h6⟩
    · obtain ⟨_, _, y, hy, e, _⟩ := h2 l x (putSets_mem hx)
      obtain ⟨_, _, y', hy', e', _⟩ := h2 l' x' (putSets_mem hx')
      exact hs.sat.sh.inj l l' y y' hy hy' hne (by rw [e, e']; exact hw)
    · obtain ⟨_, _, y, hy, e, _⟩ := h2 l x (putSets_mem hx)
      exact hs.own l y hy (by rw [e]; exact hw)
  · cases h
end

/-! ### rounds -/
/-- One state under one environment stands for another under another. -/
def Stands (ρ : Env) (s : S) (ρ' : Env) (t : Tm) : Prop := ρ'.t = ρ.t ∧ ∃ ps, matchS s t = some ps ∧ ∀ p ∈ ps, p.1.den ρ = p.2.den ρ'
theorem loop_TS {P : Program} {ty : Tys} {fn : FuncId → Option Func} (hm : P.follows .mixedOrders = true) (hty : TysOk P ty) (hfn : FnOk P fn) {n nt : Nat} {body : Code} {t : Tm} {k : Known} {outs : Outs}
    (hrun : execL (mkCfg ty fn) n nt (flat body) k t.toS = some outs) {Inv : Env → Prop} {m : Env → Nat} {W : World} {Q : Exit → Act → World → Prop} (hI : ∀ ρ, Inv ρ → Known.holds ρ k)
    (hnext : ∀ ρ, Inv ρ → ∀ o ∈ outs, Known.holds ρ o.1 → match o.2.1 with
      | .nrm => ∃ ρ', Inv ρ' ∧ m ρ' < m ρ ∧ Stands ρ o.2.2 ρ' t
      | e => ∀ β a w, TS W ρ β nt o.2.2 a w → Q e.toExit a w) {ρ : Env} (h0 : Inv ρ) {β : Lab} {a : Act} {w : World} (hs : TS W ρ β nt t.toS a w) : (Code.loop body).wp P Q a w := by
  have key : ∀ (d : Nat) (ρ : Env) (β : Lab) (a : Act) (w : World), m ρ < d → Inv ρ → TS W ρ β nt t.toS a w → Code.rounds P body Q d a w := by
    intro d
    induction d with
    | zero => intro ρ β a w hd; omega
    | succ d ih =>
      intro ρ β a w hd hi hs
      rw [rounds_succ]
      refine WPs.flat (execL_TS hm hty hfn hrun (hI ρ hi) hs fun o ho hk β' a' w' hts => ?_)
      have := hnext ρ hi o ho hk
      obtain ⟨k', x, s'⟩ := o
      cases x with
      | nrm =>
        obtain ⟨ρ', hi', hlt, hT, ps, hps, he⟩ := this
        exact ih ρ' β' a' w' (by omega) hi' (matchS_ok hT hps he hts)
      | ext id => exact this β' a' w' hts
      | ret => exact this β' a' w' hts
  exact wp_loop_rounds _ (key (m ρ + 1) ρ β a w (by omega) h0 hs)

/-! ### a function's end -/
/-- Where a law ends: it hands back true; the first world stands. -/
def TrueEnd (P : Program) (fn : Func) (W : World) : Exit → Act → World → Prop :=
  bodyPost P fn fun e w' => e = .returned (.bool true) ∧ Frm (fun _ => False) W w'
def retE (ty : Tys) (fn : Func) (s : S) : Option E := match resOf ty s fn.results.toList with
  | some [.one (.bool e)] => some e
  | _ => none
theorem ret_TS {P : Program} {ty : Tys} (hty : TysOk P ty) {fn : Func} {W : World} {ρ : Env} {β : Lab} {nt : Nat} {s : S} {a : Act} {w : World} (hs : TS W ρ β nt s a w) {e : E} (he : retE ty fn s = some e) (h : e.den ρ ≠ 0) {x : Exit} (hx : x = .ret ∨ x = .normal) : TrueEnd P fn W x a w := by
  unfold retE at he
  split at he
  · rename_i e' hr
    cases he
    have := results_ok (cf := mkCfg ty fun _ => none) hty hs.sat hr
    have hv : (svOfList [V1.one (CV.bool e)]).den ρ β = .bool true := by simp [svOfList, SV.den, V1.den, CV.den, h]
    rw [hv] at this
    rcases hx with rfl | rfl <;> exact ⟨hs.sat.sa.defers, _, this.1, rfl, hs.frm⟩
  · cases he
/-- A law, from its first state on. -/
theorem law_TS {P : Program} {f : FuncId} {fn : Func} {body : Code} (hf : P.funcs[f]? = some fn) (hb : fn.body = some body) {ts : List TypeId} {xs : List V1} {k : List Fact} {mm : Nat} (hsym : symArgs P ts 0 = some (xs, k, mm))
    (hw : ∀ ρ : Env, (∀ g ∈ k, Fact.holds ρ g) → ∀ (β : Lab) (W : World) (a : Act), TS W ρ β fn.ntmps ⟨argSlots xs 0 .nil, .leaf, 0, []⟩ a W → WPs P (flat body) (TrueEnd P fn W) a W) {r : Reach} {base : Nat} {W : World} {args : Array Value}
    (hsz : args.size = ts.length) (hv : ∀ (j : Nat) (t : TypeId) (v : Value), ts[j]? = some t → args[j]? = some v → Value.okWide P W r base t v) :
    Calls P f args W fun e w' => e = .returned (.bool true) ∧ Kept W w' := by
  obtain ⟨L, -, hL⟩ := symArgs_ok hsym (vs := args.toList) (by simpa using hsz) (fun j t v ht hj => hv j t v ht (by simpa using hj))
  let ρ : Env := ⟨fun i => L.getD i 0, fun _ _ _ => 0, fun _ _ _ => 0⟩
  have hρ : ρ.from 0 L := fun i _ => by simp [ρ]
  let β : Lab := ⟨fun _ => 0, fun _ => .bool true⟩
  obtain ⟨h1, h2, h3⟩ := hL ρ β hρ
  refine calls_of_wp hf hb ?_
  have hi := SatS.init (ρ := ρ) (β := β) (args := xs) (heap := .leaf) (nx := 0) (w := W) (nt := fn.ntmps) (h3 0) ⟨fun l x hx => (by cases hx), fun l l' x x' hx => (by cases hx)⟩
  rw [h1, Array.toArray_toList] at hi
  have := WPs.flat (hw ρ h2 β W _ ⟨hi, Frm.refl _ _, fun l x hx => (by cases hx)⟩)
  refine wp_mono this fun e a w he => ?_
  unfold TrueEnd at he
  have fin : ∀ e w', (e = Ending.returned (.bool true) ∧ Frm (fun _ => False) W w') → e = .returned (.bool true) ∧ Kept W w' := fun e w' h => ⟨h.1, h.2.grown fun _ h => h, fun k hk => h.2.old k hk id⟩
  cases e with
  | normal => exact ⟨he.1, he.2.imp fun v hv => ⟨hv.1, fin _ _ hv.2⟩⟩
  | ret => exact ⟨he.1, he.2.imp fun v hv => ⟨hv.1, fin _ _ hv.2⟩⟩
  | panic ch => exact ⟨he.1, fin _ _ he.2⟩
  | outgrown => exact fin _ _ he
  | exit id => exact he
  | goto l => exact he
end
end Go.Sx
