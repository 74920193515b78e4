/-
  SX, PART 13: CODE, SOUND: calls, loops, everything but regions that draw their order, which are taken by a hypothesis here.
-/
import Derived.Test.YtcobklmobbfolaaSxO
namespace Go.Sx
noncomputable section

theorem Step.reset {ρ : Env} {β β' : Lab} {n n' : Nat} {h : Heap} {w w' : World} {t E : Sets} (st : Step ρ β n h w t β' n' w') (hsat : SatH ρ β n h w) (hl : ∀ l, l ∈ E.labels → l ∈ t.labels) (hold : ∀ l, l ∈ t.labels → l < n → l ∈ E.labels)
    (hf : ∀ l x, E.find l = some x → (h.set t) l = some x) : Step ρ β n h w E β' n' w' := by
  refine ⟨st.le, st.agree, st.sat.sub fun l x hx => ?_, st.frm.mono fun k _ hk => ?_, fun l hm hn => st.own l (hl l hm) hn, fun l hm hn => st.new l (hl l hm) hn⟩
  · by_cases hm : l ∈ E.labels
    · rw [Heap.set_of_mem hm] at hx
      exact hf l x hx
    · rw [Heap.set_of_not_mem hm] at hx
      have hln := (hsat.blk l x hx).1
      rw [Heap.set_of_not_mem (fun hh => hm (hold l hh hln))]
      exact hx
  · obtain ⟨l, hm, hn, e⟩ := hk
    exact ⟨l, hold l hm hn, hn, e⟩
theorem find_cons_heap {heap : T Ent} {l : Nat} {x : Ent} {s : Sets} (hx : heap.get l = some x) (hs : ∀ l y, s.find l = some y → heap.get l = some y) : ∀ l' y, Sets.find l' ((l, x) :: s) = some y → heap.get l' = some y := by
  intro l' y hy
  simp only [Sets.find] at hy
  split at hy
  · rename_i z hz
    cases hy
    exact hs l' _ hz
  · split at hy
    · rename_i hb
      cases hy
      rw [Nat.eq_of_beq_eq_true hb]
      exact hx
    · cases hy
theorem setsGo_ok {nx0 : Nat} {R heap : T Ent} : ∀ {log : List Nat} {seen : T Ent} {acc E : Sets}, setsGo nx0 R heap log seen acc = some E → (∀ l x, seen.get l = some x → l ∈ acc.labels) → (∀ l x, acc.find l = some x → heap.get l = some x) →
    (∀ l, l ∈ E.labels → l ∈ log ∨ l ∈ acc.labels) ∧ (∀ l, l ∈ acc.labels → l ∈ E.labels) ∧ (∀ l, l ∈ log → l < nx0 → l ∈ E.labels) ∧ (∀ l x, E.find l = some x → heap.get l = some x)
  | [], seen, acc, E, h, hs, ha => by
    cases h
    exact ⟨fun l hl => .inr hl, fun l hl => hl, fun l hl => (by cases hl), ha⟩
  | l :: r, seen, acc, E, h, hs, ha => by
    unfold setsGo at h
    have put : ∀ x, heap.get l = some x → setsGo nx0 R heap r (T.put 40 seen l x) ((l, x) :: acc) = some E →
        (∀ l', l' ∈ E.labels → l' ∈ l :: r ∨ l' ∈ acc.labels) ∧ (∀ l', l' ∈ acc.labels → l' ∈ E.labels) ∧ (∀ l', l' ∈ l :: r → l' < nx0 → l' ∈ E.labels) ∧ (∀ l x, E.find l = some x → heap.get l = some x) := by
      intro x hx h
      have hlab : ∀ l', l' ∈ Sets.labels ((l, x) :: acc) ↔ l' = l ∨ l' ∈ acc.labels := by
        intro l'; simp only [Sets.labels, List.map_cons, List.mem_cons]
      have ih := setsGo_ok h (fun l' y hy => by
        rw [hlab]
        rcases T.get_put 40 seen l l' x y hy with ⟨rfl, _⟩ | ⟨_, e⟩
        · exact .inl rfl
        · exact .inr (hs _ _ e)) (find_cons_heap hx ha)
      refine ⟨fun l' hl' => ?_, fun l' hl' => ih.2.1 l' ((hlab l').2 (.inr hl')), fun l' hl' hn => ?_, ih.2.2.2⟩
      · rcases ih.1 l' hl' with h1 | h1
        · exact .inl (List.mem_cons_of_mem _ h1)
        · rcases (hlab l').1 h1 with rfl | h2
          · exact .inl (List.mem_cons_self ..)
          · exact .inr h2
      · rcases List.mem_cons.1 hl' with rfl | hl'
        · exact ih.2.1 _ ((hlab _).2 (.inl rfl))
        · exact ih.2.2.1 l' hl' hn
    split at h
    · rename_i y hy
      have ih := setsGo_ok h hs ha
      refine ⟨fun l' hl' => (ih.1 l' hl').imp (List.mem_cons_of_mem _) id, ih.2.1, fun l' hl' hn => ?_, ih.2.2.2⟩
      rcases List.mem_cons.1 hl' with rfl | hl'
      · exact ih.2.1 _ (hs _ _ hy)
      · exact ih.2.2.1 l' hl' hn
    · split at h
      · cases h
      · rename_i x hx
        split at h
        · exact put x hx h
        · rename_i hn
          split at h
          · exact put x hx h
          · have ih := setsGo_ok h hs ha
            refine ⟨fun l' hl' => (ih.1 l' hl').imp (List.mem_cons_of_mem _) id, ih.2.1, fun l' hl' hlt => ?_, ih.2.2.2⟩
            rcases List.mem_cons.1 hl' with rfl | hl'
            · have : Nat.blt l' nx0 = true := by rw [Nat.blt_eq]; exact hlt
              rw [hn] at this; cases this
            · exact ih.2.2.1 l' hl' hlt
theorem setsOf_ok {nx0 : Nat} {heap : T Ent} {seeds log : List Nat} {E : Sets} (h : setsOf nx0 heap seeds log = some E) :
    (∀ l, l ∈ E.labels → l ∈ log) ∧ (∀ l, l ∈ log → l < nx0 → l ∈ E.labels) ∧ (∀ l x, E.find l = some x → heap.get l = some x) := by
  have := setsGo_ok h (fun l x hx => by simp [T.get_leaf] at hx) (fun l x hx => by cases hx)
  exact ⟨fun l hl => (this.1 l hl).elim id fun hh => by simp [Sets.labels] at hh, this.2.2.1, this.2.2.2⟩
theorem argSlots_get : ∀ (args : List V1) (i : Nat) (t : Sl) (j : Nat) (v : SV), (argSlots args i t).get j = some v → (∃ m x, args[m]? = some x ∧ j = i + m ∧ v = .v x) ∨ t.get j = some v
  | [], i, t, j, v, h => .inr h
  | y :: r, i, t, j, v, h => by
    simp only [argSlots] at h
    rcases argSlots_get r (i + 1) _ j v h with ⟨m, x, hm, hj, hv⟩ | h
    · exact .inl ⟨m + 1, x, by simpa using hm, by omega, hv⟩
    · rcases Sl.get_put t i j _ v h with ⟨rfl, rfl⟩ | ⟨_, h⟩
      · exact .inl ⟨0, y, rfl, rfl, rfl⟩
      · exact .inr h

section
variable {P : Program} {cf : Cfg} (hty : TysOk P cf.ty) {ρ : Env}
theorem SatS.init {β : Lab} {args : List V1} {heap : T Ent} {nx : Nat} {w : World} {nt : Nat} (hb : ∀ x ∈ args, V1.below nx x) (hs : SatH ρ β nx heap.get w) :
    SatS ρ β nt ⟨argSlots args 0 .nil, heap, nx, []⟩ { tmps := (args.map (V1.den ρ β)).toArray ++ Array.replicate (nt - (args.map (V1.den ρ β)).toArray.size) undef, defers := [] } w := by
  refine ⟨⟨fun t v ht => ?_, rfl⟩, by simp; omega, hs⟩
  rcases argSlots_get args 0 .nil t v ht with ⟨m, x, hm, hj, hv⟩ | h
  · subst hv
    have hlt : m < args.length := (List.getElem?_eq_some_iff.1 hm).1
    refine ⟨hb x (List.mem_of_getElem? hm), ?_⟩
    have : t = m := by omega
    subst this
    rw [Array.getElem?_append_left (by simpa using hlt)]
    simp [hm, SV.den]
  · simp [Sl.get_nil] at h
include hty in
theorem resOf_ok {β : Lab} {nt : Nat} {s : S} {a : Act} {w : World} (hs : SatS ρ β nt s a w) {f : ResultVar → Sem Value} (hf1 : ∀ t, f (.tmp t) = pure (a.tmps.getD t undef)) (hf2 : ∀ c t, f (.cell c t) = (do loadVar t (← asAddr (a.tmps.getD c undef)))) :
    ∀ {l : List ResultVar} {vs : List V1}, resOf cf.ty s l = some vs → (l.mapM f).run P w = .ok (vs.map (V1.den ρ β)) w ∧ ∀ x ∈ vs, V1.below s.nx x
  | [], vs, h => by cases h; exact ⟨rfl, fun x hx => (by cases hx)⟩
  | .tmp t :: r, vs, h => by
    simp only [resOf] at h
    split at h
    · rename_i v vs' hv hvs
      cases h
      have ih := resOf_ok hs hf1 hf2 hvs
      have h1 := hs.sa.slot _ _ (asV_eq hv)
      have h2 : a.tmps.getD t undef = v.den ρ β := by simp [h1.2, SV.den]
      refine ⟨?_, fun x hx => ?_⟩
      · simp only [List.mapM_cons, hf1, Sem.run_bind, Sem.run_pure, Result.andThen_ok, ih.1, h2, List.map_cons]
      · rcases List.mem_cons.1 hx with rfl | hx
        · exact h1.1
        · exact ih.2 x hx
    · cases h
  | .cell c t :: r, vs, h => by
    simp only [resOf] at h
    split at h
    · rename_i l off ti vs' hc hti hvs
      split at h
      · rename_i wr cs bt hl
        split at h
        · rename_i v hv
          cases h
          have ih := resOf_ok hs hf1 hf2 hvs
          have h1 := hs.sa.slot _ _ (asP_eq hc)
          have h2 : a.tmps.getD c undef = .pointer (some ⟨β.b l, off, none⟩) := by simp [h1.2, SV.den, V1.den, CV.den]
          obtain ⟨_, hb, _, hst⟩ := hs.sh.blk _ _ hl
          have h3 := load_ok (hty _ _ hti) hv hb hst
          refine ⟨?_, fun x hx => ?_⟩
          · have h4 : (asAddr (a.tmps.getD c undef)).run P w = .ok ⟨β.b l, off, none⟩ w := by rw [h2]; rfl
            simp only [List.mapM_cons, hf2, Sem.run_bind, Sem.run_pure, Result.andThen_ok, ih.1, h4, h3.2, List.map_cons]
          · rcases List.mem_cons.1 hx with rfl | hx
            · exact h3.1
            · exact ih.2 x hx
        · cases h
      · cases h
    · cases h
theorem svOfList_den (β : Lab) (vs : List V1) : (svOfList vs).den ρ β = if h : (vs.map (V1.den ρ β)).toArray.size = 1 then (vs.map (V1.den ρ β)).toArray[0] else .tuple (vs.map (V1.den ρ β)).toArray := by
  match vs with
  | [] => rfl
  | [x] => rfl
  | x :: y :: r => simp [svOfList, SV.den]
theorem svOfList_below {n : Nat} {vs : List V1} (h : ∀ x ∈ vs, V1.below n x) : (svOfList vs).below n := by
  match vs with
  | [] => exact fun x hx => (by cases hx)
  | [x] => exact h x (List.mem_singleton.2 rfl)
  | x :: y :: r => exact h
include hty in
theorem results_ok {fn : Func} {β : Lab} {nt : Nat} {s : S} {a : Act} {w : World} (hs : SatS ρ β nt s a w) {vs : List V1} (h : resOf cf.ty s fn.results.toList = some vs) :
    (results fn a.tmps).run P w = .ok ((svOfList vs).den ρ β) w ∧ (svOfList vs).below s.nx := by
  obtain ⟨f, hf, hf1, hf2⟩ : ∃ f : ResultVar → Sem Value, results fn a.tmps = (do let vs ← fn.results.mapM f; pure (if h : vs.size = 1 then vs[0] else .tuple vs)) ∧
      (∀ t, f (.tmp t) = pure (a.tmps.getD t undef)) ∧ (∀ c t, f (.cell c t) = (do loadVar t (← asAddr (a.tmps.getD c undef)))) := ⟨_, rfl, fun t => rfl, fun c t => rfl⟩
  have h1 := resOf_ok hty hs hf1 hf2 h
  refine ⟨?_, svOfList_below h1.2⟩
  rw [hf, Sem.run_bind, Array.mapM_eq_mapM_toList, Sem.run_map, h1.1]
  simp only [Result.andThen_ok, Sem.run_pure, svOfList_den]

def XGood (P : Program) (ρ : Env) (nt : Nat) (c : Code) (s : S) (o : XK × S) : Prop :=
  ∀ (β : Lab) (a : Act) (w : World), SatS ρ β nt s a w → ∀ Q : Exit → Act → World → Prop, (∀ β' a' w', Goes ρ β nt s w β' o.2 a' w' → Q o.1.toExit a' w') → c.wp P Q a w
def LGood (P : Program) (ρ : Env) (nt n : Nat) (c : Code) (s : S) (o : XK × S) : Prop :=
  ∀ (β : Lab) (a : Act) (w : World), SatS ρ β nt s a w → ∀ Q : Exit → Act → World → Prop, (∀ β' a' w', Goes ρ β nt s w β' o.2 a' w' → Q o.1.toExit a' w') → Code.rounds P c Q n a w
def DGood (P : Program) (ρ : Env) (nt : Nat) (ops : List Oper) (s : S) (s' : S) : Prop :=
  ∀ (β : Lab) (a : Act) (w : World) (id : Nat), SatS ρ β nt s a w → ∀ Q : Exit → Act → World → Prop, (∀ β' a' w', Goes ρ β nt s w β' s' a' w' → Q .normal a' w') → (Code.region id ops.toArray true).wp P Q a w
def CallDom (cf : Cfg) (callF : CallF) : Prop := ∀ f args heap nx k l, callF f args heap nx k = some l → ∃ g, cf.fn f = some g ∧ g.body.isSome = true
def DrawOk (P : Program) (ρ : Env) (cf : Cfg) : Prop :=
  ∀ callF nt ops k s l, CallOk P ρ callF → CallDom cf callF → cf.draw callF nt ops k s = some l → AltsOk ρ k l (DGood P ρ nt ops s)
def ExOk (P : Program) (ρ : Env) (cf : Cfg) (n : Nat) : Prop :=
  ∀ nt c k s outs, exec cf n nt c k s = some outs → AltsOk ρ k outs (XGood P ρ nt c s)

theorem callDom (n : Nat) : CallDom cf (callF cf n) := by
  intro f args heap nx k l h
  unfold callF callWith at h
  split at h
  · cases h
  · rename_i fn hfn
    split at h
    · cases h
    · rename_i body hb
      exact ⟨fn, hfn, by rw [hb]; rfl⟩
include hty in
theorem callOk {n : Nat} (hfn : FnOk P cf.fn) (hex : ExOk P ρ cf n) : CallOk P ρ (callF cf n) := by
  intro f args heap nx k l h
  unfold callF callWith at h
  split at h
  · cases h
  · rename_i fn hfnm
    split at h
    · cases h
    · rename_i body hbody
      split at h
      · rename_i hle
        rw [argSlotsK_eq] at h
        unfold callBody at h
        split at h
        · rename_i outs houts
          refine (hex _ _ _ _ _ houts).mapO h fun hk o e he hg => ?_
          intro β w hb hs
          refine calls_of_wp (hfn _ _ hfnm).1 hbody ?_
          refine hg β _ w (SatS.init hb hs) _ fun β' a' w' hgo => ?_
          have fin : ∀ vs sets, resOf cf.ty o.2 fn.results.toList = some vs → setsOf nx o.2.heap (vs.flatMap V1.labs) o.2.log = some sets →
              a'.defers = [] ∧ ∃ v, (results fn a'.tmps).run P w' = .ok v w' ∧ ∃ β', Step ρ β nx heap.get w sets β' o.2.nx w' ∧ (svOfList vs).below o.2.nx ∧ Ending.returned v = .returned ((svOfList vs).den ρ β') := by
            intro vs sets hvs hsets
            have h1 := results_ok hty hgo.sat hvs
            obtain ⟨t, ht, hlog, hsub⟩ := hgo.step
            have h2 := setsOf_ok hsets
            refine ⟨hgo.sat.sa.defers, _, h1.1, β', Step.reset ht hs (fun l hl => ?_) (fun l hl hn => ?_) (fun l x hx => hsub l x (h2.2.2 l x hx)), h1.2, rfl⟩
            · have := h2.1 l hl
              rw [hlog] at this
              simpa using this
            · refine h2.2.1 l ?_ hn
              rw [hlog]
              simpa using hl
          unfold finish at he
          obtain ⟨x, s'⟩ := o
          cases x with
          | ext id => simp at he
          | nrm =>
            simp only at he
            split at he
            · rename_i vs hvs
              split at he
              · rename_i sets hsets
                cases he
                exact fin _ _ hvs hsets
              · cases he
            · cases he
          | ret =>
            simp only at he
            split at he
            · rename_i vs hvs
              split at he
              · rename_i sets hsets
                cases he
                exact fin _ _ hvs hsets
              · cases he
            · cases he
        · cases h
      · cases h

include hty in
theorem exec_ok (hfn : FnOk P cf.fn) (hdr : DrawOk P ρ cf) : ∀ n : Nat, ExOk P ρ cf n ∧ ∀ nt c k s outs, exec cf n nt (.loop c) k s = some outs → AltsOk ρ k outs (LGood P ρ nt n c s)
  | 0 => ⟨fun nt c k s outs h => by simp [exec] at h, fun nt c k s outs h => by simp [exec] at h⟩
  | n + 1 => by
    obtain ⟨ih, ihl⟩ := exec_ok hfn hdr n
    have hcall := callOk hty hfn ih
    have hloop : ∀ nt c k s outs, exec cf (n + 1) nt (.loop c) k s = some outs → AltsOk ρ k outs (LGood P ρ nt (n + 1) c s) := by
      intro nt c k s outs h
      simp only [exec, execStep, xLoop, bindS_eq] at h
      split at h
      · rename_i outs1 h1
        refine (ih _ _ _ _ _ h1).bind h fun k' o ys hys => ?_
        rw [thenGo_eq] at hys
        obtain ⟨x, s1⟩ := o
        cases x with
        | nrm =>
          simp only [thenGo2] at hys
          refine (ihl _ _ _ _ _ hys).weaken fun y hy hx => ?_
          intro β a w hs Q hQ
          rw [rounds_succ]
          refine hx β a w hs _ fun β' a' w' hg => ?_
          exact hy β' a' w' hg.sat Q fun β'' a'' w'' hg' => hQ _ _ _ (Goes.trans hs.sh hg hg')
        | ext id =>
          simp only [thenGo2] at hys
          cases hys
          refine AltsOk.single fun _ hx => ?_
          intro β a w hs Q hQ
          rw [rounds_succ]
          exact hx β a w hs _ fun β' a' w' hg => hQ _ _ _ hg
        | ret =>
          simp only [thenGo2] at hys
          cases hys
          refine AltsOk.single fun _ hx => ?_
          intro β a w hs Q hQ
          rw [rounds_succ]
          exact hx β a w hs _ fun β' a' w' hg => hQ _ _ _ hg
      · cases h
    refine ⟨fun nt c k s outs h => ?_, hloop⟩
    cases c with
    | skip =>
      simp only [exec, execStep] at h
      cases h
      exact AltsOk.single fun _ β a w hs Q hQ => wp_skip (hQ β a w (Goes.refl hs))
    | ret =>
      simp only [exec, execStep] at h
      cases h
      exact AltsOk.single fun _ β a w hs Q hQ => wp_ret (hQ β a w (Goes.refl hs))
    | exit id =>
      simp only [exec, execStep] at h
      cases h
      exact AltsOk.single fun _ β a w hs Q hQ => wp_exit (hQ β a w (Goes.refl hs))
    | loop body =>
      exact (hloop _ _ _ _ _ h).weaken fun o ho β a w hs Q hQ => wp_loop_rounds _ (ho β a w hs Q hQ)
    | region id ops draw =>
      cases draw with
      | false =>
        simp only [exec, execStep, xSeqR, seqRun_eq] at h
        split at h
        · rename_i l hl
          cases h
          refine AltsOk.map (Good' := XGood P ρ nt (.region id ops false) s) (seq_ok hty hcall hfn (callDom n) _ _ _ _ hl) (fun x => (XK.nrm, x)) fun s' hs' => ?_
          intro β a w hs Q hQ
          refine wp_region_list ?_
          have := hs' β a w hs Q fun β' a' w' hg => hQ _ _ _ hg
          simpa using this
        · cases h
      | true =>
        simp only [exec, execStep, xDraw] at h
        split at h
        · rename_i l hl
          cases h
          refine AltsOk.map (Good' := XGood P ρ nt (.region id ops true) s) (hdr _ _ _ _ _ _ hcall (callDom n) hl) (fun x => (XK.nrm, x)) fun s' hs' => ?_
          intro β a w hs Q hQ
          have := hs' β a w id hs Q fun β' a' w' hg => hQ _ _ _ hg
          simpa using this
        · cases h
    | seq a b =>
      simp only [exec, execStep, xSeq, bindS_eq] at h
      split at h
      · rename_i outs1 h1
        refine (ih _ _ _ _ _ h1).bind h fun k' o ys hys => ?_
        rw [thenGo_eq] at hys
        obtain ⟨x, s1⟩ := o
        cases x with
        | nrm =>
          simp only [thenGo2] at hys
          refine (ih _ _ _ _ _ hys).weaken fun y hy hx => ?_
          intro β a w hs Q hQ
          refine wp_seq (hx β a w hs _ fun β' a' w' hg => ?_)
          exact hy β' a' w' hg.sat Q fun β'' a'' w'' hg' => hQ _ _ _ (Goes.trans hs.sh hg hg')
        | ext id =>
          simp only [thenGo2] at hys
          cases hys
          refine AltsOk.single fun _ hx => ?_
          intro β a w hs Q hQ
          exact wp_seq (hx β a w hs _ fun β' a' w' hg => hQ _ _ _ hg)
        | ret =>
          simp only [thenGo2] at hys
          cases hys
          refine AltsOk.single fun _ hx => ?_
          intro β a w hs Q hQ
          exact wp_seq (hx β a w hs _ fun β' a' w' hg => hQ _ _ _ hg)
      · cases h
    | cond c a b =>
      simp only [exec, execStep, xCond, bindS_eq] at h
      split at h
      · rename_i e he
        refine (fork_alts (ρ := ρ) (c := e)).bind h fun k' t ys hys => ?_
        have hc : ∀ (β : Lab) (a : Act) (w : World), SatS ρ β nt s a w → a.eval c = .bool (decide (e.den ρ ≠ 0)) := fun β a w hs => (hs.sa.ev _ _ (asB_eq he)).2
        simp only [condGo, Known.whK_eq, condGo1] at hys
        split at hys
        · refine (ih _ _ _ _ _ hys).weaken fun y hy hx => ?_
          intro β a w hs Q hQ
          have h0 : e.den ρ ≠ 0 := hx.2 rfl
          exact wp_cond_true (by rw [hc β a w hs]; simp [h0]) (hy β a w hs Q hQ)
        · refine (ih _ _ _ _ _ hys).weaken fun y hy hx => ?_
          intro β a w hs Q hQ
          have h0 : ¬ e.den ρ ≠ 0 := fun hh => (by simpa using hx.1 hh)
          exact wp_cond_false (by rw [hc β a w hs]; simpa using h0) (hy β a w hs Q hQ)
      · cases h
    | block id body =>
      simp only [exec, execStep, xBlock] at h
      split at h
      · rename_i outs1 h1
        have base : AltsOk ρ k (outs1.map (leave id)) (XGood P ρ nt (.block id body) s) := by
          refine AltsOk.map (Good' := XGood P ρ nt (.block id body) s) (ih _ _ _ _ _ h1) (fun x : XK × S => ((match x.1 with | .ext i => if Nat.beq i id then XK.nrm else .ext i | e => e), x.2)) fun o ho => ?_
          obtain ⟨x, s1⟩ := o
          intro β a w hs Q hQ
          refine wp_block (ho β a w hs _ fun β' a' w' hg => ?_)
          cases x with
          | nrm => exact hQ _ _ _ hg
          | ret => exact hQ _ _ _ hg
          | ext i =>
            have := hQ β' a' w' hg
            simp only at this
            simp only [XK.toExit, Exit.inBlock]
            by_cases hi : i = id
            · subst hi
              simp only [Nat.beq_refl, if_true] at this
              rw [if_pos rfl]
              exact this
            · have hb : Nat.beq i id = false := by
                cases hb : Nat.beq i id
                · rfl
                · exact absurd (Nat.eq_of_beq_eq_true hb) hi
              simp only [hb, Bool.false_eq_true, if_false] at this
              rw [if_neg hi]
              exact this
        split at h
        · rename_i lv hlv
          rcases mergeOuts_ok lv k s (outs1.map (leave id)) with hm | ⟨x, m, hm, hall⟩
          · rw [hm] at h
            cases h
            exact base
          · rw [hm] at h
            cases h
            refine AltsOk.single fun hk => ?_
            obtain ⟨o, ho, hok⟩ := base.1 hk
            have hgood := (base.2 o ho hok).2
            obtain ⟨e1, e2⟩ := hall o ho
            intro β a w hs Q hQ
            refine hgood β a w hs Q fun β' a' w' hg => ?_
            rw [e1]
            exact hQ _ _ _ (e2 ρ hok β β' nt a' w w' hs.sh hg)
        · cases h
          exact base
      · cases h
    | rangeFunc _ _ _ _ => simp [exec, execStep] at h
    | scope _ => simp [exec, execStep] at h
    | label _ => simp [exec, execStep] at h
    | goto _ => simp [exec, execStep] at h
    | refuse _ => simp [exec, execStep] at h
end
end
end Go.Sx
