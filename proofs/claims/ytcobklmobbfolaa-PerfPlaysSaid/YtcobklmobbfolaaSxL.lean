/-
  SX, PART 18: DRAWN REGIONS, SOUND: the region whole; the executor whole.
-/
import Derived.Test.YtcobklmobbfolaaSxJ
import Derived.Orders
namespace Go.Sx
noncomputable section
namespace DCtx
variable {C : DCtx} (hC : C.Ok)

def flags (listed : Array Bool) : Nat → Bool := fun j => listed.getD j false
theorem ready_mem {ops : Array Oper} {listed : Array Bool} {i : Nat} (h : i ∈ Region.ready .any ops listed) :
    ∃ o, ops[i]? = some o ∧ listed.getD i true = false ∧ ∀ e ∈ o.after.toList, Region.binds .any e = true → listed.getD e.on false = true := by
  unfold Region.ready at h
  simp only [List.mem_filter, List.mem_range, Bool.and_eq_true, Bool.not_eq_true'] at h
  obtain ⟨h1, h2, h3⟩ := h
  have ho : ops[i]? = some ops[i] := Array.getElem?_eq_getElem h1
  refine ⟨ops[i], ho, h2, fun e he hb => ?_⟩
  rw [ho] at h3
  simp only [Option.map_some, Option.getD_some, Array.all_eq_true_iff_forall_mem] at h3
  have := h3 e (by simpa using he)
  rw [hb] at this
  simpa using this
theorem mem_ready {ops : Array Oper} {listed : Array Bool} {i : Nat} {o : Oper} (ho : ops[i]? = some o) (h : listed.getD i true = false) (hd : ∀ e ∈ o.after.toList, Region.binds .any e = true → listed.getD e.on false = true) : i ∈ Region.ready .any ops listed := by
  unfold Region.ready
  simp only [List.mem_filter, List.mem_range, Bool.and_eq_true, Bool.not_eq_true']
  refine ⟨(Array.getElem?_eq_some_iff.1 ho).1, h, ?_⟩
  rw [ho]
  simp only [Option.map_some, Option.getD_some, Array.all_eq_true_iff_forall_mem]
  intro e he
  cases hb : Region.binds .any e
  · rfl
  · simpa using hd e (by simpa using he) hb
/-- How many are still to come. -/
def rest (listed : Array Bool) : Nat := listed.toList.countP (fun b => !b)
theorem rest_set {listed : Array Bool} {i : Nat} (h : listed[i]? = some false) : rest (listed.setIfInBounds i true) + 1 = rest listed := by
  unfold rest
  rw [Array.toList_setIfInBounds]
  have h' : listed.toList[i]? = some false := by simpa using h
  generalize listed.toList = l at h'
  clear h
  induction l generalizing i with
  | nil => simp at h'
  | cons b l ih =>
    cases i with
    | zero =>
      simp only [List.getElem?_cons_zero, Option.some.injEq] at h'
      subst h'
      simp
    | succ i =>
      simp only [List.getElem?_cons_succ] at h'
      have := ih h'
      simp only [List.set_cons_succ, List.countP_cons]
      omega
theorem rest_zero {listed : Array Bool} (h : rest listed = 0) : ∀ i, i < listed.size → listed.getD i false = true := by
  intro i hi
  unfold rest at h
  rw [List.countP_eq_zero] at h
  have := h listed[i] (by simp)
  simp only [Bool.not_eq_true', Bool.not_eq_false] at this
  simp [Array.getD, hi, this]
include hC in
theorem run_any {Q : Exit → Act → World → Prop} (hQ : ∀ D β a w, (∀ i, i < C.ds.length → D i = true) → C.Inv D β a w → Q .normal a w) :
    ∀ (fuel : Nat) (listed : Array Bool) (β : Lab) (a : Act) (w : World), listed.size = C.ds.length → rest listed = fuel → C.Inv (flags listed) β a w → wpAny C.P .any C.ops.toArray Q fuel listed a w := by
  have hlen : C.ops.length = C.ds.length := by rw [← hC.ops, List.length_map]
  intro fuel
  induction fuel with
  | zero =>
    intro listed β a w hsz hr hI
    have hall := rest_zero hr
    simp only [wpAny]
    refine ⟨?_, hQ _ β a w (fun i hi => hall i (by omega)) hI⟩
    rw [List.eq_nil_iff_forall_not_mem]
    intro i hi
    obtain ⟨o, ho, hn, _⟩ := ready_mem hi
    have hlt := (Array.getElem?_eq_some_iff.1 ho).1
    have := hall i (by simp at hlt; omega)
    have hi' : i < listed.size := by simp at hlt; omega
    simp [Array.getD, hi'] at this hn
    rw [this] at hn; cases hn
  | succ fuel ih =>
    intro listed β a w hsz hr hI
    have key : ∀ i ∈ Region.ready .any C.ops.toArray listed, wpOp C.P C.ops.toArray Q i (wpAny C.P .any C.ops.toArray Q fuel (listed.setIfInBounds i true)) a w := by
      intro i hi
      obtain ⟨o, ho, hn, hdep⟩ := ready_mem hi
      have hlt : i < C.ds.length := by have := (Array.getElem?_eq_some_iff.1 ho).1; simp at this; omega
      have hd : C.ds[i]? = some C.ds[i] := List.getElem?_eq_getElem hlt
      have hod := ops_get hC hd
      have hoe : o = C.ds[i].o := by
        have h1 : C.ops.toArray[i]? = some C.ds[i].o := by simpa using hod
        rw [ho] at h1; cases h1; rfl
      subst hoe
      have hi' : i < listed.size := by omega
      have hfalse : listed[i]? = some false := by
        simp [Array.getD, hi'] at hn
        simp [hi', hn]
      have hDi : flags listed i = false := by simp [flags, Array.getD, hi'] at hn ⊢; exact hn
      have hdep' : ∀ e ∈ C.ds[i].o.after.toList, Region.binds .any e = true → flags listed e.on = true := hdep
      have hplus : flags (listed.setIfInBounds i true) = plus (flags listed) i := by
        funext j
        unfold flags plus
        by_cases hji : j = i
        · subst hji; simp [Array.getD, hi']
        · rw [if_neg hji]
          simp [Array.getD]
          by_cases hj : j < listed.size
          · simp [hj, Ne.symm hji]
          · simp [hj]
      have hde := hC.de i _ hd
      have hrest : rest (listed.setIfInBounds i true) = fuel := by have := rest_set hfalse; omega
      have hnext : ∀ β' w', Step C.ρ β C.ds[i].n0 C.ds[i].hv.get w C.ds[i].e.sets β' C.ds[i].e.nx w' → C.ds[i].e.res.below C.ds[i].e.nx →
          wpAny C.P .any C.ops.toArray Q fuel (listed.setIfInBounds i true) (a.put C.ds[i].o.dst (C.ds[i].e.res.den C.ρ β')) w' := by
        intro β' w' hst hres
        have := step hC hI hd hDi hdep' hst hres
        rw [← hplus] at this
        exact ih _ _ _ _ (by simpa using hsz) hrest this
      have hguard := hde.guard β C.ds[i].n0 a (read_ev hC hI hd hDi hdep')
      have hsat := view_sat hC hI hd hDi hdep'
      unfold wpOp
      have hoo : C.ops.toArray[i]? = some C.ds[i].o := by simpa using hod
      rw [hoo]
      simp only
      cases hw : C.ds[i].want with
      | true =>
        rw [if_pos (by rw [hguard]; exact hw)]
        left
        exact hde.yes hw β a w (read_ev hC hI hd hDi hdep').ev hsat _ _ hnext
      | false =>
        rw [if_neg (by rw [hguard, hw]; simp)]
        have he := hde.no hw
        have := hnext β w (by rw [he]; exact Step.refl hsat) (by rw [he]; exact fun x hx => (by cases hx))
        rw [he] at this
        exact this
    simp only [wpAny]
    refine ⟨fun hnil => ?_, key⟩
    -- there is one that may run
    exfalso
    have hex : ∃ i, i < listed.size ∧ listed.getD i true = false := by
      have h0 : rest listed ≠ 0 := by omega
      unfold rest at h0
      have h1 : 0 < listed.toList.countP (fun b => !b) := by omega
      rw [List.countP_pos_iff] at h1
      obtain ⟨b, hb, hnb⟩ := h1
      obtain ⟨i, hi, he⟩ := List.getElem_of_mem hb
      have hi' : i < listed.size := by simpa using hi
      refine ⟨i, hi', ?_⟩
      simp only [Array.getElem_toList] at he
      have : b = false := by simpa using hnb
      simp [Array.getD, hi', he, this]
    have hmin : ∀ m i, i ≤ m → i < listed.size → listed.getD i true = false → ∃ j, j < listed.size ∧ listed.getD j true = false ∧ ∀ q, q < j → listed.getD q false = true := by
      intro m
      induction m with
      | zero =>
        intro i hi h1 h2
        exact ⟨i, h1, h2, fun q hq => by omega⟩
      | succ m ihm =>
        intro i hi h1 h2
        by_cases hq : ∃ q, q < i ∧ listed.getD q true = false
        · obtain ⟨q, hq1, hq2⟩ := hq
          exact ihm q (by omega) (by omega) hq2
        · refine ⟨i, h1, h2, fun q hq1 => ?_⟩
          have hq' : q < listed.size := by omega
          cases hv : listed.getD q false
          · exfalso
            refine hq ⟨q, hq1, ?_⟩
            simp [Array.getD, hq'] at hv ⊢
            exact hv
          · rfl
    obtain ⟨i, hi, hf⟩ := hex
    obtain ⟨j, hj, hjf, hjq⟩ := hmin i i (Nat.le_refl _) hi hf
    have hjl : j < C.ds.length := by omega
    have hd : C.ds[j]? = some C.ds[j] := List.getElem?_eq_getElem hjl
    have hod := ops_get hC hd
    have hmem : j ∈ Region.ready .any C.ops.toArray listed := mem_ready (by simpa using hod) hjf fun e he hb => hjq _ (hC.edges j _ hod e he hb)
    rw [hnil] at hmem
    cases hmem
end DCtx

theorem foldTrue_set : ∀ (ds : List DE) (i : Nat) (g : Nat → Option Ent), foldD (fun _ => true) fH ds i g = pset g (ds.flatMap fun d => d.e.sets)
  | [], i, g => rfl
  | d :: r, i, g => by
    simp only [foldD, if_true, List.flatMap_cons]
    rw [foldTrue_set r, pset_append]
    rfl
theorem logAll_mem : ∀ (ds : List DE) (l : Nat), l ∈ logAll ds ↔ l ∈ Sets.labels (ds.flatMap fun d => d.e.sets)
  | [], l => by simp [logAll, Sets.labels]
  | d :: r, l => by
    simp only [logAll, List.flatMap_cons, Sets.labels_append, List.mem_append, logAll_mem r]
section
variable {P : Program} {ty : Tys} (hty : TysOk P ty) {ρ : Env}
include hty in
theorem drawOps_ok (hm : P.follows .mixedOrders = true) {callF : CallF} (hc : CallOk P ρ callF) {fnm : FuncId → Option Func} (hfn : FnOk P fnm) (hdom : ∀ f args heap nx k l, callF f args heap nx k = some l → ∃ g, fnm f = some g ∧ g.body.isSome = true)
    {nt : Nat} {ops : List Oper} {k : Known} {s : S} {l : List (Known × S)} (h : drawOps ty callF nt ops k s = some l) : AltsOk ρ k l (DGood P ρ nt ops s) := by
  unfold drawOps at h
  split at h
  · rename_i hck
    simp only [Bool.and_eq_true, List.all_eq_true] at hck
    split at h
    · rename_i runs hruns
      refine (drawRun_ok hty hc hfn hdom ops [] k s.slots s.nx runs hruns).mapO h fun hk x s' hx hg => ?_
      obtain ⟨ds, fin⟩ := x
      obtain ⟨new, hnew, hops, hch⟩ := hg
      simp only [List.nil_append] at hnew
      subst hnew
      simp only at hx
      split at hx
      · rename_i hok
        cases hx
        unfold drawOk at hok
        simp only [Bool.and_eq_true, List.all_eq_true] at hok
        obtain ⟨hpairs, hall⟩ := hok
        obtain ⟨hfin, hde⟩ := hch.get
        simp only at hfin
        intro β a w id hs Q hQ
        let C : DCtx := ⟨P, ρ, ops, ds, s, nt, β, a, { w with drawn := w.drawn + 1 }⟩
        have hs' : SatS ρ β nt s a { w with drawn := w.drawn + 1 } := ⟨hs.sa, hs.sz, ⟨fun l x hx => by
          obtain ⟨h1, h2, h3, h4⟩ := hs.sh.blk l x hx
          refine ⟨h1, h2, h3, ?_⟩
          cases hxb : x.blk with
          | cells cs ty' => rw [hxb] at h4; exact h4
          | tab q t n ks => rw [hxb] at h4; exact h4, hs.sh.inj⟩⟩
        have hC : C.Ok := by
          refine ⟨hs', hops, fun i d hd => ?_, fun i j a b hij ha hb => ?_, fun d hd l hl hn => ?_, fun d hd => ?_, fun i o ho e he hb => ?_, fun o ho t ht => ?_⟩
          · have := hde i d hd
            simpa [DCtx.nxa] using this
          · have := pairsOk_ok hpairs i j a b hij ha hb
            simpa using this
          · have := (hall d hd).1
            unfold ownOk at this
            rw [List.all_eq_true] at this
            obtain ⟨x, hx, rfl⟩ := List.mem_map.1 hl
            have h1 := this x hx
            simp only [Bool.or_eq_true] at h1
            rcases h1 with h1 | h1
            · have : s.nx ≤ x.1 := Nat.le_of_ble_eq_true h1
              have hn' : x.1 < s.nx := hn
              omega
            · split at h1
              · rename_i y hy
                exact ⟨y, hy, h1⟩
              · cases h1
          · exact Nat.le_of_ble_eq_true (hall d hd).2
          · have := edgesOk_ok hck.1 i o ho e he hb
            simpa using this
          · have := hck.2 o ho
            unfold dstOk at this
            rw [ht] at this
            simpa [Nat.blt_eq] using this
        have none_ : ∀ {α : Type} (f : DE → List (Nat × α)) (r : List DE) (i : Nat) (g : Nat → Option α), foldD (fun _ => false) f r i g = g := by
          intro α f r
          induction r with
          | nil => intro i g; rfl
          | cons d r ih => intro i g; simp only [foldD, Bool.false_eq_true, if_false]; exact ih _ _
        have hI0 : C.Inv (fun _ => false) β a { w with drawn := w.drawn + 1 } := by
          refine ⟨Lab.agree_refl _ _, fun i d _ h => (by cases h), fun t v hv => ?_, hs.sz, hs.sa.defers, fun l x hx => ?_, fun l l' x x' hx hx' hne hw => ?_, fun l x hx hl => ?_, Frm.refl _ _, fun i d _ h => (by cases h)⟩
          · unfold DCtx.sl at hv
            rw [none_] at hv
            obtain ⟨h1, h2⟩ := hs.sa.slot t v hv
            exact ⟨SV.allL_mono (fun l hl => .inl hl) (SV.below_iff.1 h1), h2⟩
          · unfold DCtx.hp at hx
            rw [none_] at hx
            obtain ⟨h1, h2, h3, h4⟩ := hs'.sh.blk l x hx
            exact ⟨.inl h1, Blk.allL_mono (fun l hl => .inl hl) (Blk.below_iff.1 h2), h3, h4⟩
          · unfold DCtx.hp at hx hx'
            rw [none_] at hx hx'
            exact hs'.sh.inj l l' x x' hx hx' hne hw
          · unfold DCtx.hp at hx
            rw [none_] at hx
            have := (hs'.sh.blk l x hx).1
            have hl' : s.nx ≤ l := hl
            omega
        have hlen : ops.length = ds.length := by rw [← hops, List.length_map]
        have hflags : DCtx.flags (Array.replicate ops.toArray.size false) = fun _ => false := by
          funext j
          unfold DCtx.flags
          simp [Array.getD]
        refine wp_region_any hm ?_
        refine DCtx.run_any hC ?_ _ _ β a _ (by simp [C, hlen]) (by simp [DCtx.rest, List.countP_replicate]) (by rw [hflags]; exact hI0)
        intro D β' a' w' hD hI
        have hfull : ∀ {α : Type} (f : DE → List (Nat × α)) (g : Nat → Option α) (l : Nat), foldD D f ds 0 g l = foldD (fun _ => true) f ds 0 g l := by
          intro α f g l
          refine foldD_congr rfl fun j d hj hne => ?_
          have hlt := (List.getElem?_eq_some_iff.1 hj).1
          simp only [Nat.zero_add] at hne
          exact absurd (hD j hlt) hne
        have hN : C.nxa ds.length = lastNx s.nx ds := by simp [DCtx.nxa, C]
        have liveN : ∀ l, C.live D l → l < lastNx s.nx ds := by
          intro l hl
          rw [← hN]
          rcases hl with hl | ⟨j, hj, _, _, h2⟩
          · have := DCtx.nxa_mono hC (Nat.zero_le ds.length)
            rw [DCtx.nxa_zero] at this
            have hl' : l < C.s.nx := hl
            omega
          · have : C.nxa (j + 1) ≤ C.nxa ds.length := DCtx.nxa_mono hC hj
            omega
        have hheap : ∀ l x, (foldD (fun _ => true) fH ds 0 s.heap.get) l = some x → C.hp D l = some x := by
          intro l x hx
          unfold DCtx.hp
          rw [show C.ds = ds from rfl, hfull]
          exact hx
        have hsatH : SatH ρ β' (lastNx s.nx ds) (foldD (fun _ => true) fH ds 0 s.heap.get) w' := by
          refine ⟨fun l x hx => ?_, fun l l' x x' hx hx' hne hw => ?_⟩
          · obtain ⟨h1, h2, h3, h4⟩ := hI.blk l x (hheap l x hx)
            exact ⟨liveN l h1, Blk.below_iff.2 (Blk.allL_mono liveN h2), h3, h4⟩
          · exact hI.inj l l' x x' (hheap l x hx) (hheap l' x' hx') hne hw
        have hset : foldD (fun _ => true) fH ds 0 s.heap.get = Heap.set s.heap.get (ds.flatMap fun d => d.e.sets) := by rw [foldTrue_set, Heap.set_eq]
        have hnx : s.nx ≤ lastNx s.nx ds := by
          rw [← hN]
          have := DCtx.nxa_mono hC (Nat.zero_le ds.length)
          rwa [DCtx.nxa_zero] at this
        refine hQ β' a' w' ⟨⟨⟨fun t v ht => ?_, hI.defers⟩, hI.sz, hsatH.sub fun l x hx => putAll_get hx⟩, ds.flatMap (fun d => d.e.sets), ⟨hnx, hI.agree, by rw [← hset]; exact hsatH, ?_, fun l hl hn => ?_, fun l hl hn => ?_⟩, fun l => ?_, fun l x hx => ?_⟩
        · simp only [hfin] at ht
          have h1 := slotsAfter_get (i := 0) ht
          have h2 : C.sl D t = some v := by
            unfold DCtx.sl
            rw [show C.ds = ds from rfl, hfull]
            exact h1
          obtain ⟨h3, h4⟩ := hI.slot t v h2
          exact ⟨SV.below_iff.2 (SV.allL_mono liveN h3), h4⟩
        · have hf : Frm C.blocks w w' := ⟨hI.frm.os, hI.frm.tape, hI.frm.output, hI.frm.size, hI.frm.old, hI.frm.fz⟩
          refine hf.mono fun k _ hk => ?_
          obtain ⟨d, hd, l, hl, hn, he⟩ := hk
          refine ⟨l, ?_, hn, he⟩
          obtain ⟨x, hx, rfl⟩ := List.mem_map.1 hl
          exact List.mem_map.2 ⟨x, List.mem_flatMap.2 ⟨d, hd, hx⟩, rfl⟩
        · obtain ⟨x, hx, rfl⟩ := List.mem_map.1 hl
          obtain ⟨d, hd, hxd⟩ := List.mem_flatMap.1 hx
          exact hC.own d hd x.1 (List.mem_map.2 ⟨x, hxd, rfl⟩) hn
        · have hsome : ∃ x, (foldD (fun _ => true) fH ds 0 s.heap.get) l = some x := by
            rw [hset, Heap.set_eq, pset_mem hl]
            exact pfind_some hl
          obtain ⟨x, hx⟩ := hsome
          exact ⟨hI.new l x (hheap l x hx) hn, (hsatH.blk l x hx).1⟩
        · simp only [List.mem_append]
          rw [logAll_mem]
        · rw [← hset]
          exact putAll_get hx
      · cases hx
    · cases h
  · cases h
end

/-! ### the executor whole -/
/-- The blocks behind which ways are made one, and the slots that go on. -/
def mbOf : List (Nat × List Nat) → Nat → Option (List Nat)
  | [], _ => none
  | (i, l) :: r, id => match Nat.beq i id with | true => some l | false => mbOf r id
def mkCfgM (ty : Tys) (fn : FuncId → Option Func) (mb : List (Nat × List Nat)) : Cfg := ⟨ty, fn, drawOps ty, mbOf mb⟩
abbrev mkCfg (ty : Tys) (fn : FuncId → Option Func) : Cfg := mkCfgM ty fn []
theorem exec_sound {P : Program} {ty : Tys} {fn : FuncId → Option Func} (hm : P.follows .mixedOrders = true) (hty : TysOk P ty) (hfn : FnOk P fn) (ρ : Env) (mb : List (Nat × List Nat)) (n : Nat) : ExOk P ρ (mkCfgM ty fn mb) n :=
  (exec_ok hty hfn (fun _ _ _ _ _ _ hc hdom h => drawOps_ok (fnm := fn) hty hm hc hfn (fun f a h n k l e => hdom f a h n k l e) h) n).1
theorem call_sound {P : Program} {ty : Tys} {fn : FuncId → Option Func} (hm : P.follows .mixedOrders = true) (hty : TysOk P ty) (hfn : FnOk P fn) (ρ : Env) (mb : List (Nat × List Nat)) (n : Nat) : CallOk P ρ (callF (mkCfgM ty fn mb) n) :=
  callOk hty hfn (exec_sound hm hty hfn ρ mb n)
end
end Go.Sx
