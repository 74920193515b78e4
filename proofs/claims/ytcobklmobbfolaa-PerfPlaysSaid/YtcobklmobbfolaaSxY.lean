/-
  SX, PART 12: THE EXECUTOR IS SOUND.
-/
import Derived.Test.YtcobklmobbfolaaSxX
namespace Go.Sx
noncomputable section

/-- How a symbolic state stands to the activation and the world. -/
structure SatS (ρ : Env) (β : Lab) (nt : Nat) (s : S) (a : Act) (w : World) : Prop where
  sa : SatA ρ β s.nx s.slots.get a
  sz : nt ≤ a.tmps.size
  sh : SatH ρ β s.nx s.heap.get w
/-- From the state s to the state s'. -/
structure Goes (ρ : Env) (β : Lab) (nt : Nat) (s : S) (w : World) (β' : Lab) (s' : S) (a' : Act) (w' : World) : Prop where
  sat : SatS ρ β' nt s' a' w'
  step : ∃ t : Sets, Step ρ β s.nx s.heap.get w t β' s'.nx w' ∧ (∀ l, l ∈ s'.log ↔ l ∈ t.labels ∨ l ∈ s.log) ∧ ∀ l x, s'.heap.get l = some x → (Heap.set s.heap.get t) l = some x
theorem Goes.refl {ρ : Env} {β : Lab} {nt : Nat} {s : S} {a : Act} {w : World} (h : SatS ρ β nt s a w) : Goes ρ β nt s w β s a w :=
  ⟨h, [], Step.refl h.sh, fun l => by simp [Sets.labels], fun _ _ h => h⟩
theorem Goes.trans {ρ : Env} {β β' β'' : Lab} {nt : Nat} {s s' s'' : S} {a' a'' : Act} {w w' w'' : World} (hs : SatH ρ β s.nx s.heap.get w) (h : Goes ρ β nt s w β' s' a' w') (h' : Goes ρ β' nt s' w' β'' s'' a'' w'') :
    Goes ρ β nt s w β'' s'' a'' w'' := by
  obtain ⟨t, ht, hl, hsub⟩ := h.step
  obtain ⟨t', ht', hl', hsub'⟩ := h'.step
  refine ⟨h'.sat, t ++ t', Step.trans hs ht (Step.frame ht' hsub ht.sat), fun l => ?_, fun l x hx => ?_⟩
  · rw [hl', hl, Sets.labels_append, List.mem_append]
    constructor
    · rintro (h | h | h)
      · exact .inl (.inr h)
      · exact .inl (.inl h)
      · exact .inr h
    · rintro ((h | h) | h)
      · exact .inr (.inl h)
      · exact .inl h
      · exact .inr (.inr h)
  · rw [Heap.set_append]
    have := hsub' l x hx
    unfold Heap.set at this ⊢
    split at this
    · exact this
    · exact hsub l x this

theorem putSets_get (s : Sets) : ∀ (heap : T Ent) (l : Nat) (x : Ent), (putSets heap s).get l = some x → (Heap.set heap.get s) l = some x := by
  induction s with
  | nil => intro heap l x h; exact h
  | cons y r ih =>
    obtain ⟨l', e⟩ := y
    intro heap l x h
    have := ih (T.put 40 heap l' e) l x h
    unfold Heap.set at this ⊢
    simp only [Sets.find]
    split at this
    · exact this
    · rcases T.get_put 40 heap l' l e x this with ⟨e1, e2⟩ | ⟨e1, e2⟩
      · subst e1; subst e2
        simp
      · have : Nat.beq l l' = false := by
          cases hb : Nat.beq l l'
          · rfl
          · exact absurd (Nat.eq_of_beq_eq_true hb) e1
        simp only [this]
        exact e2

/-! ### one operation -/
/-- The step of an operation: whatever follows. -/
def OGood (P : Program) (ρ : Env) (ev : Ev) (h : Heap) (nx : Nat) (o : Oper) (e : Eff) : Prop :=
  ∀ (β : Lab) (a : Act) (w : World), EvOk ρ β nx ev a.eval → SatH ρ β nx h w → ∀ (K : Act → World → Prop) (Q : Exit → Act → World → Prop),
    (∀ β' w', Step ρ β nx h w e.sets β' e.nx w' → e.res.below e.nx → K (a.put o.dst (e.res.den ρ β')) w') → o.wp P a w K Q
def CGood (P : Program) (ρ : Env) (f : FuncId) (args : List V1) (heap : T Ent) (nx : Nat) (e : Eff) : Prop :=
  ∀ (β : Lab) (w : World), (∀ x ∈ args, V1.below nx x) → SatH ρ β nx heap.get w →
    Calls P f (args.map (V1.den ρ β)).toArray w fun e' w' => ∃ β', Step ρ β nx heap.get w e.sets β' e.nx w' ∧ e.res.below e.nx ∧ e' = .returned (e.res.den ρ β')
def CallOk (P : Program) (ρ : Env) (callF : CallF) : Prop :=
  ∀ f args heap nx k l, callF f args heap nx k = some l → AltsOk ρ k l (CGood P ρ f args heap nx)
/-- The functions that are called have bodies and plain names. -/
def FnOk (P : Program) (fn : FuncId → Option Func) : Prop := ∀ f g, fn f = some g → P.funcs[f]? = some g ∧ (g.name == "runtime.NumGoroutine") = false

theorem EGood.toO {P : Program} {ρ : Env} {ev : Ev} {h : Heap} {nx : Nat} {o : Oper} {e : Eff} (hg : EGood P ρ ev h nx o e) : OGood P ρ ev h nx o e := by
  intro β a w he hs K Q hK
  obtain ⟨β', w', hst, hb, hr⟩ := hg β a.eval w he hs
  unfold Oper.wp
  rcases hr with hr | ⟨hr, hu⟩
  · rw [hr]
    exact hK β' w' hst hb
  · rw [hr]
    have := hK β' w' hst hb
    rw [hu] at this
    exact this

theorem CGood.bare {P : Program} {ρ : Env} {f : FuncId} {args : List V1} {e : Eff} (hg : CGood P ρ f args .leaf 0 e) (ha : args.all V1.flat = true) (hr : e.res.flat = true) (heap : T Ent) (nx : Nat) : CGood P ρ f args heap nx (bareEff nx e) := by
  intro β w _ hs
  refine (hg β w (fun x hx => V1.flat_below (List.all_eq_true.1 ha x hx) 0) ⟨fun l x hx => (by cases hx), fun l l' x x' hx => (by cases hx)⟩).mono fun e' w' ⟨β', st, _, he⟩ => ?_
  have hf : Frm (fun _ => False) w w' := st.frm.mono fun k _ ⟨l, _, hl, _⟩ => Nat.not_lt_zero _ hl
  refine ⟨β, ⟨Nat.le_refl _, Lab.agree_refl _ _, ?_, hf.mono fun k _ h => h.elim, fun l hl => (by simp [bareEff, Sets.labels] at hl), fun l hl => (by simp [bareEff, Sets.labels] at hl)⟩, SV.flat_below hr _, ?_⟩
  · refine ⟨fun l x hl => ?_, hs.inj⟩
    obtain ⟨h1, h2, h3, h4⟩ := hs.blk l x hl
    exact ⟨h1, h2, Nat.lt_of_lt_of_le h3 hf.size, Blk.sat_keep h2 (Lab.agree_refl _ _) (hf.old _ h3 id) h4⟩
  · rw [he]
    have : e.res.den ρ β' = e.res.den ρ β := SV.den_agree (n := 0) (fun l hl => absurd hl (Nat.not_lt_zero _)) (SV.flat_below hr 0)
    simp only [bareEff, this]
theorem wrap_ok {P : Program} {ρ : Env} {callF : CallF} (hc : CallOk P ρ callF) : CallOk P ρ (soloF callF) := by
  intro f args heap nx k l h
  unfold soloF at h
  split at h
  · rename_i ha
    split at h
    · unfold wrapLit at h
      split at h
      · rename_i l0 hl0
        simp only [listK_eq altK_eq] at h
        split at h
        · exact hc _ _ _ _ _ _ h
        · split at h
          · split at h
            · rename_i k1 e _ hr
              cases h
              have hg := hc _ _ _ _ _ _ hl0
              obtain ⟨x, hx, hk⟩ := hg.1 (Known.nil_holds ρ)
              have hgood := (hg.2 x hx hk).2
              rw [List.mem_singleton.1 hx] at hgood
              exact AltsOk.single fun _ => CGood.bare hgood ha hr heap nx
            · exact hc _ _ _ _ _ _ h
          · exact hc _ _ _ _ _ _ h
      · exact hc _ _ _ _ _ _ h
    · unfold wrapFlat at h
      split at h
      · rename_i l0 hl0
        simp only [listK_eq altK_eq] at h
        split at h
        · rename_i hr
          cases h
          have hg := hc _ _ _ _ _ _ hl0
          refine ⟨fun hk => ?_, fun x hx hk => ?_⟩
          · obtain ⟨x, hx, hxk⟩ := hg.1 hk
            exact ⟨_, List.mem_map.2 ⟨x, hx, rfl⟩, hxk⟩
          · obtain ⟨y, hy, rfl⟩ := List.mem_map.1 hx
            have := hg.2 y hy hk
            exact ⟨this.1, CGood.bare this.2 ha (List.all_eq_true.1 hr y hy) heap nx⟩
        · exact hc _ _ _ _ _ _ h
      · cases h
  · exact hc _ _ _ _ _ _ h
theorem wrap_dom {callF : CallF} {fnm : FuncId → Option Func} (hdom : ∀ f args heap nx k l, callF f args heap nx k = some l → ∃ g, fnm f = some g ∧ g.body.isSome = true) :
    ∀ f args heap nx k l, soloF callF f args heap nx k = some l → ∃ g, fnm f = some g ∧ g.body.isSome = true := by
  intro f args heap nx k l h
  unfold soloF at h
  split at h
  · split at h
    · unfold wrapLit at h
      split at h
      · rename_i hl0; exact hdom _ _ _ _ _ _ hl0
      · exact hdom _ _ _ _ _ _ h
    · unfold wrapFlat at h
      split at h
      · rename_i hl0; exact hdom _ _ _ _ _ _ hl0
      · cases h
  · exact hdom _ _ _ _ _ _ h
section
variable {P : Program} {ty : Tys} (hty : TysOk P ty) {ρ : Env}
theorem v1sOf_ok {ev : Ev} {β : Lab} {n : Nat} {f : Operand → Value} (he : EvOk ρ β n ev f) : ∀ {l : List Operand} {r : List V1}, v1sOf ev l = some r → l.map f = r.map (V1.den ρ β) ∧ ∀ x ∈ r, V1.below n x
  | [], r, hr => by cases hr; exact ⟨rfl, fun p hp => (by cases hp)⟩
  | x :: l, r, hr => by
    simp only [v1sOf] at hr
    split at hr
    · rename_i y ys hy hys
      cases hr
      have h1 := he x _ (asV_eq hy)
      have ih := v1sOf_ok he hys
      refine ⟨by rw [List.map_cons, List.map_cons, ih.1, h1.2]; rfl, fun p hp => ?_⟩
      rcases List.mem_cons.1 hp with rfl | hp
      · exact h1.1
      · exact ih.2 p hp
    · cases hr
theorem ptrV_den (β : Lab) (ps : List (Nat × Nat)) : (ps.map ptrV).map (V1.den ρ β) = ps.map β.pt := by
  rw [List.map_map]; rfl

include hty in
theorem op_ok {callF : CallF} (hc : CallOk P ρ callF) {fnm : FuncId → Option Func} (hfn : FnOk P fnm) (hdom : ∀ f args heap nx k l, callF f args heap nx k = some l → ∃ g, fnm f = some g ∧ g.body.isSome = true)
    {ev : Ev} {heap : T Ent} {nx : Nat} {k : Known} {o : Oper} {l : EAlts} (h : opAlts ty callF ev heap nx k o = some l) :
    AltsOk ρ k l (OGood P ρ ev heap.get nx o) := by
  have eff_case : effAlts ty ev heap.get nx k o = some l → AltsOk ρ k l (OGood P ρ ev heap.get nx o) := fun h => (eff_ok hty h).weaken fun e he => he.toO
  unfold opAlts at h
  split at h
  · rename_i c hop
    split at h
    · rename_i f hcal
      split at h
      · rename_i g first caps args hf hargs
        obtain ⟨fn, hfnm, hbody⟩ := wrap_dom hdom _ _ _ _ _ _ h
        obtain ⟨hfs, hname⟩ := hfn _ _ hfnm
        refine (wrap_ok hc _ _ _ _ _ _ h).weaken fun e he => ?_
        intro β a w hev hs K Q hK
        have h1 := hev _ _ hf
        have h2 := v1sOf_ok hev hargs
        have h1' := h1.2
        simp only [SV.den, V1.den, CV.den] at h1'
        have hbl : ∀ x ∈ first.map ptrV ++ (args ++ caps.map ptrV), V1.below nx x := by
          intro x hx
          rcases List.mem_append.1 hx with hx | hx
          · obtain ⟨p, hp, rfl⟩ := List.mem_map.1 hx
            exact h1.1.1 p hp
          · rcases List.mem_append.1 hx with hx | hx
            · exact h2.2 x hx
            · obtain ⟨p, hp, rfl⟩ := List.mem_map.1 hx
              exact h1.1.2 p hp
        have hcall := he β w hbl hs
        have hrun : (execOp a.eval o).run P w = .ok (.enter g ((first.map ptrV ++ (args ++ caps.map ptrV)).map (V1.den ρ β)).toArray) w := by
          have eargs : ((first.map β.pt).toArray ++ c.args.map a.eval) ++ (caps.map β.pt).toArray = ((first.map ptrV ++ (args ++ caps.map ptrV)).map (V1.den ρ β)).toArray := by
            apply Array.ext'
            simp only [Array.toList_append, Array.toList_map, List.map_append, ptrV_den, h2.1, List.append_assoc]
          have hbn : fn.body.isNone = false := by cases hb : fn.body <;> simp_all
          simp only [execOp, hop, resolve, hcal, h1', Deferred.ofValue, invoke, callFunc, Sem.run_bind, Sem.run_pure, Result.andThen_ok, run_program, hfs, hname, Bool.false_eq_true, if_false, hbn, eargs]
        unfold Oper.wp
        rw [hrun, Oper.upon_enter]
        refine hcall.mono fun e' w' ⟨β', hst, hb, he'⟩ => ?_
        rw [he']
        exact hK β' w' hst hb
      · cases h
    · exact eff_case h
  · exact eff_case h

/-! ### regions in the order of the text -/
theorem putSlot_ok {β β' : Lab} {nt : Nat} {s : S} {a : Act} {w w' : World} (hs : SatS ρ β nt s a w) {d : Option Tmp} (hd : ∀ t, d = some t → t < nt) {e : Eff} (hst : Step ρ β s.nx s.heap.get w e.sets β' e.nx w') (hb : e.res.below e.nx) :
    Goes ρ β nt s w β' (s.after d e) (a.put d (e.res.den ρ β')) w' := by
  have hslot : ∀ t v, s.slots.get t = some v → v.below e.nx ∧ a.tmps[t]? = some (v.den ρ β') := by
    intro t v ht
    obtain ⟨h1, h2⟩ := hs.sa.slot t v ht
    exact ⟨SV.below_mono hst.le h1, by rw [h2, SV.den_agree hst.agree h1]⟩
  refine ⟨⟨⟨fun t v ht => ?_, ?_⟩, ?_, ?_⟩, e.sets, hst, fun l => ?_, fun l x hx => putSets_get _ _ _ _ hx⟩
  · cases d with
    | none => exact hslot t v ht
    | some t' =>
      simp only [S.after, putSlot] at ht
      simp only [Act.put, S.after]
      rcases Sl.get_put s.slots t' t e.res v ht with ⟨rfl, rfl⟩ | ⟨hne, ht⟩
      · refine ⟨hb, ?_⟩
        have : t < a.tmps.size := Nat.lt_of_lt_of_le (hd t rfl) hs.sz
        simp [this]
      · refine ⟨(hslot t v ht).1, ?_⟩
        rw [Array.getElem?_setIfInBounds_ne (Ne.symm hne)]
        exact (hslot t v ht).2
  · cases d <;> exact hs.sa.defers
  · cases d with
    | none => exact hs.sz
    | some t => simp only [Act.put, Array.size_setIfInBounds]; exact hs.sz
  · exact hst.sat.sub fun l x hx => putSets_get _ _ _ _ hx
  · simp only [S.after, List.mem_append]
theorem yielded_ok {β : Lab} {n : Nat} {slots : Nat → Option SV} {a : Act} (h : SatA ρ β n slots a) {all : Array Oper} {j : Nat} {g : Oper} {d : Tmp} (hg : all[j]? = some g) (hd : g.dst = some d) {v : SV} (hv : slots d = some v) :
    yielded all a.tmps j = match v.den ρ β with | .bool b => some b | _ => none := by
  simp only [yielded, hg, Option.bind_some, hd, (h.slot d v hv).2]
  cases v.den ρ β <;> rfl
theorem guard_ok {all : List Oper} {slots : Sl} {k : Known} {o : Oper} {l : List (Known × Bool)} (h : guardAlts all slots k o = some l) :
    AltsOk ρ k l fun b => ∀ (β : Lab) (n : Nat) (a : Act), SatA ρ β n slots.get a → Region.wanted o (yielded all.toArray a.tmps) = b := by
  unfold guardAlts at h
  split at h
  · rename_i hg
    cases h
    exact AltsOk.single fun _ β n a _ => by simp [Region.wanted, hg]
  · rename_i j want hg
    split at h
    · rename_i g hj
      split at h
      · rename_i d hd
        split at h
        · rename_i e he
          cases h
          refine AltsOk.map (fork_alts (ρ := ρ) (c := e)) (fun b => b == want) fun b hb => ?_
          intro β n a hs
          have := yielded_ok hs (all := all.toArray) (by simpa using hj) hd he
          simp only [SV.den, V1.den, CV.den] at this
          simp only [Region.wanted, hg, this]
          by_cases h0 : e.den ρ = 0
          · have : b = false := by simpa [h0] using hb
            subst this
            cases want <;> simp [h0]
          · have : b = true := by simpa [h0] using hb
            subst this
            cases want <;> simp [h0]
        · rename_i he
          cases h
          refine AltsOk.single fun _ => ?_
          intro β n a hs
          have := yielded_ok hs (all := all.toArray) (by simpa using hj) hd he
          simp only [SV.den] at this
          simp only [Region.wanted, hg, this]
          rfl
        · cases h
      · cases h
    · cases h

/-- A region's operations, run one by one: whatever follows. -/
def RGood (P : Program) (ρ : Env) (nt : Nat) (all ops : List Oper) (s : S) (s' : S) : Prop :=
  ∀ (β : Lab) (a : Act) (w : World), SatS ρ β nt s a w → ∀ Q : Exit → Act → World → Prop, (∀ β' a' w', Goes ρ β nt s w β' s' a' w' → Q .normal a' w') → wpList P all.toArray Q ops a w
include hty in
theorem seq_ok {callF : CallF} (hc : CallOk P ρ callF) {fnm : FuncId → Option Func} (hfn : FnOk P fnm) (hdom : ∀ f args heap nx k l, callF f args heap nx k = some l → ∃ g, fnm f = some g ∧ g.body.isSome = true) {nt : Nat} {all : List Oper} :
    ∀ (ops : List Oper) (k : Known) (s : S) (l : List (Known × S)), seqOps ty callF nt all ops k s = some l → AltsOk ρ k l (RGood P ρ nt all ops s)
  | [], k, s, l, h => by
    cases h
    exact AltsOk.single fun _ β a w hs Q hQ => wpList_nil (hQ β a w (Goes.refl hs))
  | o :: r, k, s, l, h => by
    simp only [seqOps, bindS_eq, Known.whK_eq, Eff.deepK_eq, S.afterK_eq] at h
    split at h
    · rename_i hd
      have hd' : ∀ t, o.dst = some t → t < nt := by
        intro t ht
        unfold dstOk at hd
        rw [ht] at hd
        simpa [Nat.blt_eq] using hd
      split at h
      · rename_i gs hgs
        refine (guard_ok hgs).bind h fun k' b ys hys => ?_
        split at hys
        · have hb : true = true := rfl
          split at hys
          · rename_i es hes
            refine (op_ok hty hc hfn hdom hes).bind hys fun k'' e zs hzs => ?_
            refine (seq_ok hc hfn hdom r k'' _ zs hzs).weaken fun s' hs' he hw => ?_
            intro β a w hs Q hQ
            have hwant := hw β s.nx a hs.sa
            unfold wpList
            rw [if_pos (by rw [hwant])]
            left
            refine he β a w hs.sa.ev hs.sh _ _ fun β' w' hst hbl => ?_
            have hg := putSlot_ok hs hd' hst hbl
            exact hs' β' _ w' hg.sat Q fun β'' a'' w'' hg' => hQ _ _ _ (Goes.trans hs.sh hg hg')
          · cases hys
        · have hb : ¬ (false = true) := by simp
          refine (seq_ok hc hfn hdom r k' _ ys hys).weaken fun s' hs' hw => ?_
          intro β a w hs Q hQ
          have hwant := hw β s.nx a hs.sa
          unfold wpList
          rw [if_neg (by rw [hwant]; exact hb)]
          have hg := putSlot_ok hs hd' (e := ⟨undefSV, [], s.nx⟩) (Step.refl hs.sh) (fun x hx => (by cases hx))
          exact hs' β _ w hg.sat Q fun β'' a'' w'' hg' => hQ _ _ _ (Goes.trans hs.sh hg hg')
      · cases h
    · cases h
end
end
end Go.Sx
