/-
  SX, PART 11: CODE. The executor.
-/
import Derived.Test.YtlagjhnckdaonaaSxF
namespace Go.Sx
noncomputable section

inductive XK where
  | nrm | ext (id : Nat) | ret
def XK.toExit : XK → Exit
  | .nrm => .normal | .ext id => .exit id | .ret => .ret
/-- A symbolic state: slots, memory, the next free label, the labels that were set. -/
structure S where
  slots : T SV
  heap : T Ent
  nx : Nat
  log : List Nat
abbrev Outs := List (Known × (XK × S))
abbrev CallF := FuncId → List V1 → T Ent → Nat → Known → Option EAlts

def bindO {α α' : Type} (f : Known → α → Option (List (Known × α'))) : List (Known × α) → Option (List (Known × α'))
  | [] => some []
  | (k, x) :: r => match f k x with
    | some ys => match bindO f r with | some zs => some (ys ++ zs) | none => none
    | none => none
theorem bindO_mem {α α' : Type} {f : Known → α → Option (List (Known × α'))} : ∀ {l : List (Known × α)} {l' : List (Known × α')}, bindO f l = some l' →
    (∀ x ∈ l, ∃ ys, f x.1 x.2 = some ys ∧ ∀ y ∈ ys, y ∈ l') ∧ ∀ y ∈ l', ∃ x ∈ l, ∃ ys, f x.1 x.2 = some ys ∧ y ∈ ys
  | [], l', h => by cases h; exact ⟨fun x hx => (by cases hx), fun y hy => (by cases hy)⟩
  | (k, x) :: r, l', h => by
    simp only [bindO] at h
    split at h
    · rename_i ys hys
      split at h
      · rename_i zs hzs
        cases h
        have ih := bindO_mem hzs
        refine ⟨fun z hz => ?_, fun z hz => ?_⟩
        · rcases List.mem_cons.1 hz with rfl | hz
          · exact ⟨ys, hys, fun y hy => List.mem_append_left _ hy⟩
          · obtain ⟨ws, h1, h2⟩ := ih.1 z hz
            exact ⟨ws, h1, fun y hy => List.mem_append_right _ (h2 y hy)⟩
        · rcases List.mem_append.1 hz with hz | hz
          · exact ⟨_, List.mem_cons_self .., ys, hys, hz⟩
          · obtain ⟨u, hu, ws, h1, h2⟩ := ih.2 z hz
            exact ⟨u, List.mem_cons_of_mem _ hu, ws, h1, h2⟩
      · cases h
    · cases h
/-- As 'bindO'; of one alternative, that one's. -/
def bindS {α α' : Type} (f : Known → α → Option (List (Known × α'))) (l : List (Known × α)) : Option (List (Known × α')) :=
  match l with
  | [] => some []
  | (k, x) :: r => match r with
    | [] => f k x
    | _ => bindO f l
theorem bindS_eq {α α' : Type} (f : Known → α → Option (List (Known × α'))) (l : List (Known × α)) : bindS f l = bindO f l := by
  unfold bindS
  split
  · rfl
  · split
    · simp only [bindO]
      split
      · rename_i ys hys; rw [hys, List.append_nil]
      · rename_i hn; rw [hn]
    · rfl
theorem AltsOk.bind {α α' : Type} {ρ : Env} {k : Known} {l : List (Known × α)} {l' : List (Known × α')} {Good : α → Prop} {Good' : α' → Prop} {f : Known → α → Option (List (Known × α'))} (h : AltsOk ρ k l Good) (hb : bindO f l = some l')
    (hf : ∀ k' x ys, f k' x = some ys → AltsOk ρ k' ys fun y => Good x → Good' y) : AltsOk ρ k l' Good' := by
  have hm := bindO_mem hb
  refine ⟨fun hk => ?_, fun y hy hk => ?_⟩
  · obtain ⟨x, hx, hxk⟩ := h.1 hk
    obtain ⟨ys, hys, hsub⟩ := hm.1 x hx
    obtain ⟨y, hy, hyk⟩ := (hf _ _ _ hys).1 hxk
    exact ⟨y, hsub y hy, hyk⟩
  · obtain ⟨x, hx, ys, hys, hyy⟩ := hm.2 y hy
    have h1 := (hf _ _ _ hys).2 y hyy hk
    have h2 := h.2 x hx h1.1
    exact ⟨h2.1, h1.2 h2.2⟩
theorem AltsOk.weaken {α : Type} {ρ : Env} {k : Known} {l : List (Known × α)} {Good Good' : α → Prop} (h : AltsOk ρ k l Good) (hg : ∀ x, Good x → Good' x) : AltsOk ρ k l Good' :=
  ⟨h.1, fun x hx hk => ⟨(h.2 x hx hk).1, hg _ (h.2 x hx hk).2⟩⟩

/-! ### calls that bear no labels: by themselves, in no memory -/
def CV.flat : CV → Bool
  | .int _ _ => true
  | .bool _ => true
  | .nilp => true
  | .nils => true
  | .nilf => true
  | .raw _ => true
  | _ => false
def V1.flat : V1 → Bool
  | .one c => c.flat
  | .agg cs => cs.all CV.flat
def SV.flat : SV → Bool
  | .v x => x.flat
  | .tup xs => xs.all V1.flat
def E.isLit : E → Bool
  | .lit _ => true
  | _ => false
def CV.isLit : CV → Bool
  | .int _ e => e.isLit
  | .bool e => e.isLit
  | .nilp => true
  | .nils => true
  | .nilf => true
  | .raw _ => true
  | _ => false
def V1.isLit : V1 → Bool
  | .one c => c.isLit
  | .agg cs => cs.all CV.isLit
theorem CV.flat_below {c : CV} (h : c.flat = true) (n : Nat) : c.below n := by cases c <;> simp [CV.flat] at h <;> trivial
theorem V1.flat_below {x : V1} (h : x.flat = true) (n : Nat) : x.below n := by
  cases x with
  | one c => exact CV.flat_below h n
  | agg cs => exact fun c hc => CV.flat_below (List.all_eq_true.1 h c hc) n
theorem SV.flat_below {x : SV} (h : x.flat = true) (n : Nat) : x.below n := by
  cases x with
  | v x => exact V1.flat_below h n
  | tup xs => exact fun c hc => V1.flat_below (List.all_eq_true.1 h c hc) n
def altK {R : Type} (x : Known × Eff) (k : Known × Eff → R) : R := match x with | (a, e) => a.whK fun a => e.deepK fun e => k (a, e)
theorem altK_eq {R : Type} (x : Known × Eff) (k : Known × Eff → R) : altK x k = k x := by obtain ⟨a, e⟩ := x; simp only [altK, Known.whK_eq, Eff.deepK_eq]
def bareEff (nx : Nat) (e : Eff) : Eff := ⟨e.res, [], nx⟩
def wrapLit (callF : CallF) (f : FuncId) (args : List V1) (heap : T Ent) (nx : Nat) (k : Known) : Option EAlts :=
  match callF f args .leaf 0 Known.nil with
  | some l => listK altK l fun l => match l with
    | [] => callF f args heap nx k
    | (_, e) :: r => match r with
      | [] => (match e.res.flat with | true => some [(k, bareEff nx e)] | false => callF f args heap nx k)
      | _ => callF f args heap nx k
  | none => callF f args heap nx k
def wrapFlat (callF : CallF) (f : FuncId) (args : List V1) (heap : T Ent) (nx : Nat) (k : Known) : Option EAlts :=
  match callF f args .leaf 0 k with
  | some l => listK altK l fun l => match l.all (fun x => x.2.res.flat) with
    | true => some (l.map fun x => (x.1, bareEff nx x.2))
    | false => callF f args heap nx k
  | none => none
def soloF (callF : CallF) : CallF := fun f args heap nx k =>
  match args.all V1.flat with
  | true => (match args.all V1.isLit with | true => wrapLit callF f args heap nx k | false => wrapFlat callF f args heap nx k)
  | false => callF f args heap nx k
/-! ### one operation, calls among them -/
def v1sOf (ev : Ev) : List Operand → Option (List V1)
  | [] => some []
  | x :: r => match asV (ev x), v1sOf ev r with | some v, some vs => some (v :: vs) | _, _ => none
def ptrV (p : Nat × Nat) : V1 := .one (.ptr p.1 p.2)
def opAlts (ty : Tys) (callF : CallF) (ev : Ev) (heap : T Ent) (nx : Nat) (k : Known) (o : Oper) : Option EAlts :=
  match o.op with
  | .call c => match c.callee with
    | .value f => match ev f, v1sOf ev c.args.toList with
      | some (.v (.one (.fn g first caps))), some args => soloF callF g (first.map ptrV ++ (args ++ caps.map ptrV)) heap nx k
      | _, _ => none
    | _ => effAlts ty ev heap.get nx k o
  | _ => effAlts ty ev heap.get nx k o
def putSlot (slots : T SV) (d : Option Tmp) (v : SV) : T SV := match d with | some t => T.put 24 slots t v | none => slots
def putSets (heap : T Ent) : Sets → T Ent
  | [] => heap
  | (l, x) :: r => putSets (T.put 40 heap l x) r
def guardAlts (ops : List Oper) (slots : T SV) (k : Known) (o : Oper) : Option (List (Known × Bool)) :=
  match o.guard with
  | none => some [(k, true)]
  | some (j, want) => match ops[j]? with
    | some g => match g.dst with
      | some d => match slots.get d with
        | some (.v (.one (.bool e))) => some ((fork k e).map fun x => (x.1, x.2 == want))
        | some (.tup []) => some [(k, false)]
        | _ => none
      | none => none
    | none => none
def S.after (s : S) (d : Option Tmp) (e : Eff) : S := ⟨putSlot s.slots d e.res, putSets s.heap e.sets, e.nx, e.sets.labels ++ s.log⟩
section
variable {R : Type}
def putSlotK (slots : T SV) (d : Option Tmp) (v : SV) (k : T SV → R) : R := match d with | some t => T.putK 24 slots t v k | none => k slots
theorem putSlotK_eq (slots : T SV) (d : Option Tmp) (v : SV) (k : T SV → R) : putSlotK slots d v k = k (putSlot slots d v) := by
  cases d <;> simp only [putSlotK, putSlot, T.putK_put]
def putSetsK (heap : T Ent) (s : Sets) (k : T Ent → R) : R := match s with
  | [] => k heap
  | (l, x) :: r => T.putK 40 heap l x fun heap => putSetsK heap r k
theorem putSetsK_eq : ∀ (s : Sets) (heap : T Ent) (k : T Ent → R), putSetsK heap s k = k (putSets heap s)
  | [], heap, k => by simp only [putSetsK, putSets]
  | (l, x) :: r, heap, k => by simp only [putSetsK, putSets, T.putK_put, putSetsK_eq r]
def logK (s : Sets) (log : List Nat) (k : List Nat → R) : R := match s with
  | [] => k log
  | (l, _) :: r => logK r log fun log => k (l :: log)
theorem logK_eq : ∀ (s : Sets) (log : List Nat) (k : List Nat → R), logK s log k = k (s.labels ++ log)
  | [], log, k => by simp only [logK, Sets.labels, List.map_nil, List.nil_append]
  | (l, x) :: r, log, k => by simp only [logK, logK_eq r, Sets.labels, List.map_cons, List.cons_append]
/-- The state behind an operation, handed on. -/
def S.afterK (s : S) (d : Option Tmp) (e : Eff) (k : S → R) : R := match s, e with
  | ⟨slots, heap, _, log⟩, ⟨res, sets, nx⟩ => putSlotK slots d res fun slots => putSetsK heap sets fun heap => logK sets log fun log => k ⟨slots, heap, nx, log⟩
theorem S.afterK_eq (s : S) (d : Option Tmp) (e : Eff) (k : S → R) : s.afterK d e k = k (s.after d e) := by
  obtain ⟨slots, heap, nx, log⟩ := s
  obtain ⟨res, sets, nx'⟩ := e
  simp only [S.afterK, putSlotK_eq, putSetsK_eq, logK_eq]
  rfl
def S.whK (s : S) (k : S → R) : R := match s with | ⟨slots, heap, nx, log⟩ => k ⟨slots, heap, nx, log⟩
theorem S.whK_eq (s : S) (k : S → R) : s.whK k = k s := by cases s; rfl
end
def dstOk (nt : Nat) (o : Oper) : Bool := match o.dst with | some d => Nat.blt d nt | none => true
/-- The operations in the order of the text. -/
def seqOps (ty : Tys) (callF : CallF) (nt : Nat) (all : List Oper) : List Oper → Known → S → Option (List (Known × S))
  | [], k, s => some [(k, s)]
  | o :: r, k, s =>
    match dstOk nt o with
    | true =>
      (match guardAlts all s.slots k o with
      | some gs => bindS (fun k b => k.whK fun k =>
          match b with
          | true =>
            (match opAlts ty callF (evOf s.slots.get) s.heap s.nx k o with
            | some es => bindS (fun k e => k.whK fun k => e.deepK fun e => s.afterK o.dst e fun s => seqOps ty callF nt all r k s) es
            | none => none)
          | false => s.afterK o.dst ⟨undefSV, [], s.nx⟩ fun s => seqOps ty callF nt all r k s) gs
      | none => none)
    | false => none

def resOf (ty : Tys) (s : S) : List ResultVar → Option (List V1)
  | [] => some []
  | .tmp t :: r => match asV (s.slots.get t), resOf ty s r with | some v, some vs => some (v :: vs) | _, _ => none
  | .cell a t :: r => match asP (s.slots.get a), ty t, resOf ty s r with
    | some (l, off), some ti, some vs => match s.heap.get l with
      | some ⟨_, .cells cs _⟩ => match sub1 cs ti.agg off ti.size with | some v => some (v :: vs) | none => none
      | none => none
    | _, _, _ => none
def svOfList : List V1 → SV
  | [x] => .v x
  | xs => .tup xs
def CV.labs : CV → List Nat
  | .ptr l _ => [l]
  | .slc l _ _ _ => [l]
  | .fn _ a b => a.map (·.1) ++ b.map (·.1)
  | _ => []
def V1.labs : V1 → List Nat
  | .one c => c.labs
  | .agg cs => cs.flatMap CV.labs
def SV.labs : SV → List Nat
  | .v x => x.labs
  | .tup xs => xs.flatMap V1.labs
def Blk.labs : Blk → List Nat
  | .cells cs _ => cs.flatMap CV.labs
/-- The new blocks that can be come to. -/
def reachNew (nx0 : Nat) : Nat → T Ent → List Nat → T Ent → T Ent
  | 0, _, _, acc => acc
  | _, _, [], acc => acc
  | n + 1, view, l :: r, acc => match Nat.blt l nx0 with
    | true => reachNew nx0 n view r acc
    | false => match acc.get l with
      | some _ => reachNew nx0 n view r acc
      | none => match view.get l with
        | some x => reachNew nx0 n view (x.blk.labs ++ r) (T.put 40 acc l x)
        | none => reachNew nx0 n view r acc
def setsGo (nx0 : Nat) (R heap : T Ent) : List Nat → T Ent → Sets → Option Sets
  | [], _, acc => some acc
  | l :: r, seen, acc => match seen.get l with
    | some _ => setsGo nx0 R heap r seen acc
    | none => match heap.get l with
      | none => none
      | some x => match Nat.blt l nx0 with
        | true => setsGo nx0 R heap r (T.put 40 seen l x) ((l, x) :: acc)
        | false => match R.get l with
          | some _ => setsGo nx0 R heap r (T.put 40 seen l x) ((l, x) :: acc)
          | none => setsGo nx0 R heap r seen acc
/-- The blocks that were set: the old ones, and of the new ones those that can still be come to. -/
def setsOf (nx0 : Nat) (heap : T Ent) (seeds log : List Nat) : Option Sets :=
  setsGo nx0 (reachNew nx0 100000 heap (seeds ++ log.flatMap fun l => match Nat.blt l nx0 with | true => (match heap.get l with | some x => x.blk.labs | none => []) | false => []) .leaf) heap log .leaf []
def argSlots : List V1 → Nat → T SV → T SV
  | [], _, t => t
  | v :: r, i, t => argSlots r (i + 1) (T.put 24 t i (.v v))
def argSlotsK {R : Type} (l : List V1) (i : Nat) (t : T SV) (k : T SV → R) : R := match l with
  | [] => k t
  | v :: r => v.deepK fun v => T.putK 24 t i (.v v) fun t => natK (Nat.succ i) fun i => argSlotsK r i t k
theorem argSlotsK_eq {R : Type} : ∀ (l : List V1) (i : Nat) (t : T SV) (k : T SV → R), argSlotsK l i t k = k (argSlots l i t)
  | [], i, t, k => by simp only [argSlotsK, argSlots]
  | v :: r, i, t, k => by simp only [argSlotsK, argSlots, V1.deepK_eq, T.putK_put, natK_eq, argSlotsK_eq r]
def finish (ty : Tys) (fn : Func) (nx0 : Nat) (o : XK × S) : Option Eff :=
  match o.1 with
  | .ext _ => none
  | _ => match resOf ty o.2 fn.results.toList with
    | some vs => match setsOf nx0 o.2.heap (vs.flatMap V1.labs) o.2.log with
      | some sets => some ⟨svOfList vs, sets, o.2.nx⟩
      | none => none
    | none => none

structure Cfg where
  ty : Tys
  fn : FuncId → Option Func
  draw : CallF → Nat → List Oper → Known → S → Option (List (Known × S))

def exec (cf : Cfg) : Nat → Nat → Code → Known → S → Option Outs
  | 0, _, _, _, _ => none
  | n + 1, nt, c, k, s =>
    let callF : CallF := fun f args heap nx k =>
      match cf.fn f with
      | none => none
      | some fn => match fn.body with
        | none => none
        | some body =>
          if Nat.ble args.length fn.ntmps then
            argSlotsK args 0 .leaf fun sl => match exec cf n fn.ntmps body k ⟨sl, heap, nx, []⟩ with
            | some outs => mapO (finish cf.ty fn nx) outs
            | none => none
          else none
    match c with
    | .skip => some [(k, .nrm, s)]
    | .region _ ops false => match seqOps cf.ty callF nt ops.toList ops.toList k s with
      | some l => some (l.map fun x => (x.1, .nrm, x.2))
      | none => none
    | .region _ ops true => match cf.draw callF nt ops.toList k s with
      | some l => some (l.map fun x => (x.1, .nrm, x.2))
      | none => none
    | .seq a b => match exec cf n nt a k s with
      | some outs => bindS (fun k x => k.whK fun k => match x with | (e, s) => s.whK fun s => match e with | .nrm => exec cf n nt b k s | e => some [(k, e, s)]) outs
      | none => none
    | .cond c a b => match asB (evOf s.slots.get c) with
      | some e => bindS (fun k t => k.whK fun k => match t with | true => exec cf n nt a k s | false => exec cf n nt b k s) (fork k e)
      | none => none
    | .block id body => match exec cf n nt body k s with
      | some outs => some (outs.map fun x => (x.1, (match x.2.1 with | .ext i => if Nat.beq i id then .nrm else .ext i | e => e), x.2.2))
      | none => none
    | .loop body => match exec cf n nt body k s with
      | some outs => bindS (fun k x => k.whK fun k => match x with | (e, s) => s.whK fun s => match e with | .nrm => exec cf n nt (.loop body) k s | e => some [(k, e, s)]) outs
      | none => none
    | .exit id => some [(k, .ext id, s)]
    | .ret => some [(k, .ret, s)]
    | _ => none
def callF (cf : Cfg) (n : Nat) : CallF := fun f args heap nx k =>
  match cf.fn f with
  | none => none
  | some fn => match fn.body with
    | none => none
    | some body =>
      if Nat.ble args.length fn.ntmps then
        argSlotsK args 0 .leaf fun sl => match exec cf n fn.ntmps body k ⟨sl, heap, nx, []⟩ with
        | some outs => mapO (finish cf.ty fn nx) outs
        | none => none
      else none
end
end Go.Sx
