/-
  SX, PART 10: OPERATIONS THAT MAKE OR WRITE MEMORY.
-/
import Derived.Test.YtcobklmobbfolaaSxS2
namespace Go.Sx
noncomputable section

/-- What an operation does: its result, the blocks that it sets, the next free label. -/
structure Eff where
  res : SV
  sets : Sets
  nx : Nat
abbrev EAlts := List (Known × Eff)
def undefSV : SV := .tup []

def newBlk (nx : Nat) (ty : TypeId) (cs : List CV) (res : SV) : Eff := ⟨res, [(nx, ⟨true, .cells cs ty⟩)], nx + 1⟩
def splice (cs : List CV) (o : Nat) (vs : List CV) : List CV := cs.take o ++ (vs ++ cs.drop (o + vs.length))
def okcs (cs : List CV) : Bool := cs.all CV.okc
def storeEff (h : Heap) (nx : Nat) (l o size : Nat) (v : V1) : Option Eff :=
  match v1cells v with
  | some vs => match h l with
    | some ⟨true, .cells cs bt⟩ => if Nat.beq vs.length size && (Nat.ble (o + size) cs.length && okcs vs) then some ⟨undefSV, [(l, ⟨true, .cells (splice cs o vs) bt⟩)], nx⟩ else none
    | _ => none
  | none => none

def eAlloc (ty : Tys) (nx : Nat) (k : Known) (t : TypeId) : Option EAlts :=
  match ty t with
    | some ti => match zeroCells1 ti with | some cs => some [(k, newBlk nx t cs (.v (.one (.ptr nx 0))))] | none => none
    | none => none
def eBox (ev : Ev) (nx : Nat) (k : Known) (t : TypeId) (x : Operand) : Option EAlts :=
  match asV (ev x) with
    | some v => match v1cells v with | some cs => some [(k, newBlk nx t cs (.v (.one (.ptr nx 0))))] | none => none
    | none => none
def eBuildSlice (ty : Tys) (ev : Ev) (nx : Nat) (k : Known) (t : TypeId) (len : Nat) (parts : Array (Nat × Operand)) : Option EAlts :=
  match ty t, partsOf ev parts.toList with
    | some ti, some ps => match ti.d with
      | .slc e => match ty e with
        | some te => match zeroCells1 te with
          | some z =>
            if Nat.ble (len * te.size) 4096 && (Nat.beq z.length te.size && !Nat.beq (len * te.size) 0) then
              match fillS (fun i => some (i * te.size, te.size)) ((List.range (len * te.size)).map fun i => z.getD (i % te.size) .nilp) ps with
              | some cs => some [(k, newBlk nx e cs (.v (.one (.slc nx 0 (.lit len) (.lit len)))))]
              | none => none
            else none
          | none => none
        | none => none
      | _ => none
    | _, _ => none
def eStore (ty : Tys) (ev : Ev) (h : Heap) (nx : Nat) (k : Known) (t : TypeId) (a x : Operand) : Option EAlts :=
  match asP (ev a), ty t, asV (ev x) with
    | some (l, off), some ti, some v => match storeEff h nx l off ti.size v with | some e => some [(k, e)] | none => none
    | _, _, _ => none
def ePure (ty : Tys) (ev : Ev) (h : Heap) (nx : Nat) (k : Known) (o : Oper) : Option EAlts :=
  match pureAlts ty ev h k o with
    | some l => some (l.map fun x => (x.1, ⟨x.2, [], nx⟩))
    | none => none
def effAlts (ty : Tys) (ev : Ev) (h : Heap) (nx : Nat) (k : Known) (o : Oper) : Option EAlts :=
  match o.op with
  | .alloc t => eAlloc ty nx k t
  | .box t x => eBox ev nx k t x
  | .buildSlice t len parts => eBuildSlice ty ev nx k t len parts
  | .store t a x => eStore ty ev h nx k t a x
  | _ => ePure ty ev h nx k o

/-- The step of an operation that calls nothing. -/
def EGood (P : Program) (ρ : Env) (ev : Ev) (h : Heap) (nx : Nat) (o : Oper) (e : Eff) : Prop :=
  ∀ (β : Lab) (f : Operand → Value) (w : World), EvOk ρ β nx ev f → SatH ρ β nx h w →
    ∃ β' w', Step ρ β nx h w e.sets β' e.nx w' ∧ e.res.below e.nx ∧
      ((execOp f o).run P w = .ok (.value (e.res.den ρ β')) w' ∨ ((execOp f o).run P w = .ok .skip w' ∧ e.res = undefSV))

/-- β, with block b for label l. -/
def Lab.upd (β : Lab) (l b : Nat) : Lab := ⟨fun i => if Nat.beq i l then b else β.b i, β.o⟩
theorem Lab.upd_same (β : Lab) (l b : Nat) : (β.upd l b).b l = b := by simp [Lab.upd]
theorem Lab.upd_agree (β : Lab) (l b : Nat) : β.agree l (β.upd l b) := fun i hi => by
  simp only [Lab.upd, and_true]
  rw [if_neg]
  intro h
  have := Nat.eq_of_beq_eq_true h
  omega
theorem heap_push_lt {w : World} {o : Obj} {k : Nat} (h : k < w.heap.size) : ({ w with heap := w.heap.push o } : World).heap[k]? = w.heap[k]? := by
  simp only [Array.getElem?_push, if_neg (Nat.ne_of_lt h)]
theorem frozen_push (w : World) (cs : Array Value) (t : TypeId) (a : Addr) : ({ w with heap := w.heap.push (.cells cs t) } : World).frozen? a = w.frozen? a := by
  simp only [World.frozen?, Array.getElem?_push]
  by_cases h : a.block = w.heap.size
  · rw [if_pos h, h]
    simp
  · rw [if_neg h]
theorem frozen_setRow {w : World} {b : Nat} {cs cs' : Array Value} {t : TypeId} (h : w.heap[b]? = some (.cells cs t (0, 0))) (h' : (w.setRow b cs').heap[b]? = some (.cells cs' t (0, 0))) (ho : ∀ k, k ≠ b → (w.setRow b cs').heap[k]? = w.heap[k]?) (a : Addr) :
    (w.setRow b cs').frozen? a = w.frozen? a := by
  unfold World.frozen?
  by_cases e : a.block = b
  · rw [e, h, h']
  · rw [ho _ e]
theorem newBlk_step {ρ : Env} {β : Lab} {nx : Nat} {h : Heap} {w : World} (hs : SatH ρ β nx h w) {t : TypeId} {cs : List CV} (hb : ∀ c ∈ cs, CV.below nx c) (res : SV) :
    Step ρ β nx h w (newBlk nx t cs res).sets (β.upd nx w.heap.size) (newBlk nx t cs res).nx { w with heap := w.heap.push (.cells (cs.map (CV.den ρ β)).toArray t) } := by
  have ag := Lab.upd_agree β nx w.heap.size
  have hfresh : h nx = none := by
    cases hh : h nx with
    | none => rfl
    | some x => have := (hs.blk nx x hh).1; omega
  refine ⟨Nat.le_succ _, ag, ?_, ⟨rfl, rfl, rfl, by simp, fun k hk _ => heap_push_lt hk, frozen_push w _ t⟩, fun l hl hn => ?_, fun l hl hn => ?_⟩
  · have split : ∀ l x, (h.set [(nx, ⟨true, .cells cs t⟩)]) l = some x → (l = nx ∧ x = ⟨true, .cells cs t⟩) ∨ (l < nx ∧ h l = some x) := by
      intro l x hl
      by_cases hm : l = nx
      · subst hm
        simp [Heap.set, Sets.find] at hl
        exact .inl ⟨rfl, hl.symm⟩
      · have : (h.set [(nx, ⟨true, .cells cs t⟩)]) l = h l := Heap.set_of_not_mem (by simp [Sets.labels, hm])
        rw [this] at hl
        exact .inr ⟨(hs.blk l x hl).1, hl⟩
    refine ⟨fun l x hl => ?_, fun l l' x x' hl hl' hne hw => ?_⟩
    · rcases split l x hl with ⟨rfl, rfl⟩ | ⟨hln, hl⟩
      · refine ⟨Nat.lt_succ_self _, fun c hc => CV.below_mono (Nat.le_succ _) (hb c hc), by rw [Lab.upd_same]; simp, ?_⟩
        simp only [Blk.sat, Lab.upd_same]
        have e : cs.map (CV.den ρ (β.upd l w.heap.size)) = cs.map (CV.den ρ β) := List.map_congr_left fun c hc => CV.den_agree ag (hb c hc)
        rw [e]
        simp
      · obtain ⟨_, hb', hsz, hst⟩ := hs.blk l x hl
        refine ⟨Nat.lt_succ_of_lt hln, Blk.below_mono (Nat.le_succ _) hb', by rw [(ag l hln).1]; simp; omega, ?_⟩
        rw [(ag l hln).1]
        exact Blk.sat_keep hb' ag (heap_push_lt hsz) hst
    · rcases split l x hl with ⟨e1, _⟩ | ⟨hln, h1⟩ <;> rcases split l' x' hl' with ⟨e2, _⟩ | ⟨hln', h2⟩
      · exact absurd (e1.trans e2.symm) hne
      · rw [e1, Lab.upd_same, (ag l' hln').1]
        have := (hs.blk l' x' h2).2.2.1
        omega
      · rw [e2, Lab.upd_same, (ag l hln).1]
        have := (hs.blk l x h1).2.2.1
        omega
      · rw [(ag l hln).1, (ag l' hln').1]
        exact hs.inj l l' x x' h1 h2 hne hw
  · simp [newBlk, Sets.labels] at hl
    omega
  · simp [newBlk, Sets.labels] at hl
    subst hl
    rw [Lab.upd_same]
    exact ⟨Nat.le_refl _, Nat.lt_succ_self _⟩

theorem store_step {ρ : Env} {β : Lab} {nx : Nat} {h : Heap} {w : World} (hs : SatH ρ β nx h w) {l o : Nat} {cs vs : List CV} {bt : TypeId} (hl : h l = some ⟨true, .cells cs bt⟩) (hv : ∀ c ∈ vs, CV.below nx c) :
    Step ρ β nx h w [(l, ⟨true, .cells (splice cs o vs) bt⟩)] β nx (w.setRow (β.b l) ((splice cs o vs).map (CV.den ρ β)).toArray) := by
  obtain ⟨hln, hb, hsz, hst⟩ := hs.blk l _ hl
  simp only [Blk.sat] at hst
  have hnew := setRow_heap w (β.b l) _ ((splice cs o vs).map (CV.den ρ β)).toArray bt (0, 0) hst
  have hother : ∀ k, k ≠ β.b l → (w.setRow (β.b l) ((splice cs o vs).map (CV.den ρ β)).toArray).heap[k]? = w.heap[k]? := by
    intro k hk
    simp only [World.setRow, Array.getElem?_modify]
    rw [if_neg (fun e => hk e.symm)]
  have hsize : (w.setRow (β.b l) ((splice cs o vs).map (CV.den ρ β)).toArray).heap.size = w.heap.size := by simp [World.setRow]
  have hbn : ∀ c ∈ splice cs o vs, CV.below nx c := by
    intro c hc
    rcases List.mem_append.1 hc with hc | hc
    · exact hb c (List.mem_of_mem_take hc)
    · rcases List.mem_append.1 hc with hc | hc
      · exact hv c hc
      · exact hb c (List.mem_of_mem_drop hc)
  have split : ∀ l' x, (h.set [(l, ⟨true, .cells (splice cs o vs) bt⟩)]) l' = some x → (l' = l ∧ x = ⟨true, .cells (splice cs o vs) bt⟩) ∨ (l' ≠ l ∧ h l' = some x) := by
    intro l' x hl'
    by_cases hm : l' = l
    · subst hm
      simp [Heap.set, Sets.find] at hl'
      exact .inl ⟨rfl, hl'.symm⟩
    · have : (h.set [(l, ⟨true, .cells (splice cs o vs) bt⟩)]) l' = h l' := Heap.set_of_not_mem (by simp [Sets.labels, hm])
      rw [this] at hl'
      exact .inr ⟨hm, hl'⟩
  refine ⟨Nat.le_refl _, Lab.agree_refl _ _, ⟨fun l' x hl' => ?_, fun l1 l2 x x' h1 h2 hne hw => ?_⟩, ⟨rfl, rfl, rfl, by rw [hsize]; exact Nat.le_refl _, fun k hk hn => hother k (fun e => hn ⟨l, by simp [Sets.labels], hln, e.symm⟩), frozen_setRow hst hnew hother⟩, fun l' hl' hn => ?_, fun l' hl' hn => ?_⟩
  · rcases split l' x hl' with ⟨rfl, rfl⟩ | ⟨hne, hl'⟩
    · exact ⟨hln, hbn, by rw [hsize]; exact hsz, hnew⟩
    · obtain ⟨q1, q2, q3, q4⟩ := hs.blk l' x hl'
      refine ⟨q1, q2, by rw [hsize]; exact q3, Blk.sat_keep q2 (Lab.agree_refl _ _) (hother _ ?_) q4⟩
      exact hs.inj l' l x _ hl' hl hne (by simp)
  · have old : ∀ l' x, (h.set [(l, ⟨true, .cells (splice cs o vs) bt⟩)]) l' = some x → ∃ y, h l' = some y ∧ y.wr = x.wr := by
      intro l' x hl'
      rcases split l' x hl' with ⟨rfl, rfl⟩ | ⟨_, hl'⟩
      · exact ⟨_, hl, rfl⟩
      · exact ⟨x, hl', rfl⟩
    obtain ⟨y1, hy1, e1⟩ := old l1 x h1
    obtain ⟨y2, hy2, e2⟩ := old l2 x' h2
    exact hs.inj l1 l2 y1 y2 hy1 hy2 hne (by rw [e1, e2]; exact hw)
  · simp [Sets.labels] at hl'
    subst hl'
    exact ⟨_, hl, rfl⟩
  · simp [Sets.labels] at hl'
    omega

theorem zeroCells1_ok {P : Program} {t : TypeId} {ti : TI} (ht : TIok P t ti) {cs : List CV} (h : zeroCells1 ti = some cs) (ρ : Env) (β : Lab) (n : Nat) (w : World) :
    ∃ z : Value, (zeroValue t).run P w = .ok z w ∧ z.cells = (cs.map (CV.den ρ β)).toArray ∧ ∀ c ∈ cs, CV.below n c := by
  unfold zeroCells1 at h
  split at h
  · rename_i z hz
    have h1 := ht.zero w hz ρ β n
    have h2 := v1cells_ok h ρ β n
    exact ⟨_, h1.1, h2.1, h2.2 h1.2⟩
  · cases h
section
variable {P : Program} {ty : Tys} (hty : TysOk P ty) {ρ : Env} {ev : Ev} {h : Heap} {nx : Nat} {k : Known}
include hty in
theorem eff_ok {o : Oper} {alts : EAlts} (ho : effAlts ty ev h nx k o = some alts) : AltsOk ρ k alts (EGood P ρ ev h nx o) := by
  have pure_case : (match pureAlts ty ev h k o with | some l => some (l.map fun x => (x.1, (⟨x.2, [], nx⟩ : Eff))) | none => none) = some alts → AltsOk ρ k alts (EGood P ρ ev h nx o) := by
    intro hp
    split at hp
    · rename_i l hl
      cases hp
      refine AltsOk.map (Good' := EGood P ρ ev h nx o) (pure_ok hty (ρ := ρ) hl) (fun v => ⟨v, [], nx⟩) fun v hv => ?_
      intro β f w he hs
      have := hv β nx f w he hs
      exact ⟨β, w, Step.refl hs, this.1, .inl this.2⟩
    · cases hp
  obtain ⟨d0, op, type, pos, after, guard⟩ := o
  cases op with
  | alloc t =>
    simp only [effAlts, eAlloc] at ho
    split at ho
    · rename_i ti hti
      split at ho
      · rename_i cs hcs
        cases ho
        refine AltsOk.single fun hk β f w he hs => ?_
        obtain ⟨z, hz, hzc, hb⟩ := zeroCells1_ok (hty _ _ hti) hcs ρ β nx w
        refine ⟨_, _, newBlk_step hs (t := t) hb _, Nat.lt_succ_self _, .inl ?_⟩
        simp only [execOp, Instr.alloc, Sem.run_bind, hz, Result.andThen_ok, newVar, newRow, run_newObj, Sem.run_pure, hzc]
        simp only [newBlk, SV.den, V1.den, CV.den, Lab.upd_same]
      · cases ho
    · cases ho
  | box t x =>
    simp only [effAlts, eBox] at ho
    split at ho
    · rename_i v hv
      split at ho
      · rename_i cs hcs
        cases ho
        refine AltsOk.single fun hk β f w he hs => ?_
        have h1 := he _ _ (asV_eq hv)
        have h2 := v1cells_ok hcs ρ β nx
        refine ⟨_, _, newBlk_step hs (t := t) (h2.2 h1.1) _, Nat.lt_succ_self _, .inl ?_⟩
        simp only [execOp, Instr.box, Sem.run_bind, Result.andThen_ok, newVar, newRow, run_newObj, Sem.run_pure, h1.2, SV.den, h2.1]
        simp only [newBlk, V1.den, CV.den, Lab.upd_same]
      · cases ho
    · cases ho
  | buildSlice t len parts =>
    simp only [effAlts, eBuildSlice] at ho
    split at ho
    · rename_i ti ps hti hps
      split at ho
      · rename_i e hd
        split at ho
        · rename_i te hte
          split at ho
          · rename_i z hz
            split at ho
            · rename_i hc
              simp only [Bool.and_eq_true, Bool.not_eq_true'] at hc
              obtain ⟨c1, c2, c3⟩ := hc
              have c1 := Nat.le_of_ble_eq_true c1
              have c2 := Nat.eq_of_beq_eq_true c2
              have c3 : len * te.size ≠ 0 := fun e => by rw [e] at c3; cases c3
              split at ho
              · rename_i cs hcs
                cases ho
                refine AltsOk.single fun hk β f w he hs => ?_
                obtain ⟨zv, hzv, hzc, hzb⟩ := zeroCells1_ok (hty _ _ hte) hz ρ β nx w
                have hpp := partsOf_ok he hps
                have hfl := fillS_ok ρ β nx hcs
                have hzpos : 0 < z.length := by
                  rw [c2]
                  rcases Nat.eq_zero_or_pos te.size with h0 | h0
                  · rw [h0] at c3; simp at c3
                  · exact h0
                have hbz : ∀ c ∈ (List.range (len * te.size)).map (fun i => z.getD (i % te.size) .nilp), CV.below nx c := by
                  intro c hc
                  obtain ⟨i, _, rfl⟩ := List.mem_map.1 hc
                  have hlt : i % te.size < z.length := by rw [c2]; exact Nat.mod_lt _ (by omega)
                  have : z.getD (i % te.size) .nilp = z[i % te.size] := by simp [List.getD, hlt]
                  rw [this]
                  exact hzb _ (List.getElem_mem hlt)
                refine ⟨_, _, newBlk_step hs (t := e) (hfl.2.1 hbz hpp.2) _, Nat.lt_succ_self _, .inl ?_⟩
                have ez : (Array.range (len * te.size)).map (fun x => zv.cells[x % zv.cells.size]!) = (((List.range (len * te.size)).map (fun i => z.getD (i % te.size) .nilp)).map (CV.den ρ β)).toArray := by
                  apply Array.ext'
                  simp only [Array.toList_map, Array.toList_range, List.map_map]
                  apply List.map_congr_left
                  intro i _
                  have hlt : i % te.size < z.length := by rw [c2]; exact Nat.mod_lt _ (by omega)
                  simp [hzc, c2, List.getD, List.getElem?_eq_getElem hlt]
                have ep : (Array.map (fun x => (x.fst, f x.snd)) parts).toList = ps.map (fun p => (p.1, p.2.den ρ β)) := by rw [Array.toList_map]; exact hpp.1
                have hbig : ¬ len * te.size > 2 ^ 24 := by omega
                simp only [execOp, Instr.buildSlice, Sem.run_bind, run_underlying ((hty _ _ hti).slc hd), Result.andThen_ok, (hty _ _ hte).sizeOf w, hbig, c3, if_false, Sem.run_pure, hzv, ez, ep, hfl.1, newRow, run_newObj]
                simp only [newBlk, SV.den, V1.den, CV.den, Lab.upd_same, E.den, Int.toNat_natCast]
              · cases ho
            · cases ho
          · cases ho
        · cases ho
      · cases ho
    · cases ho
  | store t a x =>
    simp only [effAlts, eStore] at ho
    split at ho
    · rename_i l off ti v ha hti hx
      split at ho
      · rename_i e he'
        cases ho
        refine AltsOk.single fun hk β f w he hs => ?_
        have h1 := he _ _ (asP_eq ha)
        have h2 := he _ _ (asV_eq hx)
        have h1' := h1.2
        have h2' := h2.2
        simp only [SV.den, V1.den, CV.den] at h1'
        simp only [SV.den] at h2'
        unfold storeEff at he'
        split at he'
        · rename_i vs hvs
          split at he'
          · rename_i cs bt hl
            split at he'
            · rename_i hc
              cases he'
              simp only [Bool.and_eq_true] at hc
              obtain ⟨c1, c2, c3⟩ := hc
              have c1 := Nat.eq_of_beq_eq_true c1
              have c2 := Nat.le_of_ble_eq_true c2
              have hvc := v1cells_ok hvs ρ β nx
              have hsat := (hs.blk l _ hl).2.2.2
              simp only [Blk.sat] at hsat
              refine ⟨β, _, store_step hs hl (hvc.2 h2.1), fun x hx => (by cases hx), .inr ⟨?_, rfl⟩⟩
              have hst := run_storeCells_at P (β.b l) off bt (vs.map (CV.den ρ β)) 0 (cs.map (CV.den ρ β)).toArray w hsat (by simp; omega) (fun u hu => by
                obtain ⟨c, hc, rfl⟩ := List.mem_map.1 hu
                exact (okc_den (List.all_eq_true.1 c3 c hc) ρ β).1)
              have hw : (w.setRow (β.b l) ((cs.map (CV.den ρ β)).toArray.toList.take (off + 0) ++ vs.map (CV.den ρ β) ++ (cs.map (CV.den ρ β)).toArray.toList.drop (off + 0 + (vs.map (CV.den ρ β)).length)).toArray) = w.setRow (β.b l) ((splice cs off vs).map (CV.den ρ β)).toArray := by
                congr 2
                simp [splice, List.map_take, List.map_drop]
              rw [hw] at hst
              have hsz : ¬ (vs.map (CV.den ρ β)).toArray.size ≠ ti.size := by simp; omega
              simp only [execOp, h1', h2', Instr.storeAt, Instr.sureAddr, storeVar, Sem.run_bind, Sem.run_pure, Result.andThen_ok, (hty _ _ hti).sizeOf w, if_neg hsz, hvc.1, hst]
            · cases he'
          · cases he'
        · cases he'
      · cases ho
    · cases ho
  | _ => exact pure_case ho
end
end
end Go.Sx
