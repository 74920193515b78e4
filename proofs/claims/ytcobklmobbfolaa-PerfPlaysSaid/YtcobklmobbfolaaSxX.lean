/-
  SX, PART 11: CODE. The executor.
-/
import Derived.Test.YtcobklmobbfolaaSxF
namespace Go.Sx
noncomputable section

inductive XK where
  | nrm | ext (id : Nat) | ret
def XK.toExit : XK → Exit
  | .nrm => .normal | .ext id => .exit id | .ret => .ret
/-- What the slots hold: the last write stands first. -/
inductive Sl where
  | nil | cons (n : Nat) (v : SV) (r : Sl)
deriving Inhabited
namespace Sl
def getI : Sl → Nat → Option SV
  | nil, _ => none
  | cons n v r, m => match Nat.beq m n with | true => some v | false => r.getI m
def get (t : Sl) : Nat → Option SV :=
  Sl.rec (motive := fun _ => Nat → Option SV) (fun _ => none) (fun n v _ ih m => Bool.rec (motive := fun _ => Option SV) (ih m) (some v) (Nat.beq m n)) t
def put (t : Sl) (n : Nat) (v : SV) : Sl := cons n v t
theorem get_nil (n : Nat) : nil.get n = none := rfl
theorem get_put (t : Sl) (n m : Nat) (x y : SV) (h : (put t n x).get m = some y) : (m = n ∧ y = x) ∨ (m ≠ n ∧ t.get m = some y) := by
  have e : (put t n x).get m = Bool.rec (motive := fun _ => Option SV) (t.get m) (some x) (Nat.beq m n) := rfl
  rw [e] at h
  cases hb : Nat.beq m n
  · rw [hb] at h; exact .inr ⟨Nat.ne_of_beq_eq_false hb, h⟩
  · rw [hb] at h; cases h; exact .inl ⟨Nat.eq_of_beq_eq_true hb, rfl⟩
end Sl
/-- A symbolic state: slots, memory, the next free label, the labels that were set. -/
structure S where
  slots : Sl
  heap : T Ent
  nx : Nat
  log : List Nat
abbrev Outs := List (Known × (XK × S))
abbrev CallF := FuncId → List V1 → T Ent → Nat → Known → Option EAlts

def bindO {α α' : Type} (f : Known → α → Option (List (Known × α'))) : List (Known × α) → Option (List (Known × α'))
  | [] => some []
  | (k, x) :: r => match f k x with
    | some ys => match bindO f r with | some zs => some (ys ++ zs) | none => none
    | none => none
theorem bindO_mem {α α' : Type} {f : Known → α → Option (List (Known × α'))} : ∀ {l : List (Known × α)} {l' : List (Known × α')}, bindO f l = some l' →
    (∀ x ∈ l, ∃ ys, f x.1 x.2 = some ys ∧ ∀ y ∈ ys, y ∈ l') ∧ ∀ y ∈ l', ∃ x ∈ l, ∃ ys, f x.1 x.2 = some ys ∧ y ∈ ys
  | [], l', h => by cases h; exact ⟨fun x hx => (by cases hx), fun y hy => (by cases hy)⟩
  | (k, x) :: r, l', h => by
    simp only [bindO] at h
    split at h
    · rename_i ys hys
      split at h
      · rename_i zs hzs
        cases h
        have ih := bindO_mem hzs
        refine ⟨fun z hz => ?_, fun z hz => ?_⟩
        · rcases List.mem_cons.1 hz with rfl | hz
          · exact ⟨ys, hys, fun y hy => List.mem_append_left _ hy⟩
          · obtain ⟨ws, h1, h2⟩ := ih.1 z hz
            exact ⟨ws, h1, fun y hy => List.mem_append_right _ (h2 y hy)⟩
        · rcases List.mem_append.1 hz with hz | hz
          · exact ⟨_, List.mem_cons_self .., ys, hys, hz⟩
          · obtain ⟨u, hu, ws, h1, h2⟩ := ih.2 z hz
            exact ⟨u, List.mem_cons_of_mem _ hu, ws, h1, h2⟩
      · cases h
    · cases h
/-- As 'bindO'; of one alternative, that one's. -/
def bindS {α α' : Type} (f : Known → α → Option (List (Known × α'))) (l : List (Known × α)) : Option (List (Known × α')) :=
  match l with
  | [] => some []
  | (k, x) :: r => match r with
    | [] => f k x
    | _ => bindO f l
theorem bindS_eq {α α' : Type} (f : Known → α → Option (List (Known × α'))) (l : List (Known × α)) : bindS f l = bindO f l := by
  unfold bindS
  split
  · rfl
  · split
    · simp only [bindO]
      split
      · rename_i ys hys; rw [hys, List.append_nil]
      · rename_i hn; rw [hn]
    · rfl
theorem AltsOk.bind {α α' : Type} {ρ : Env} {k : Known} {l : List (Known × α)} {l' : List (Known × α')} {Good : α → Prop} {Good' : α' → Prop} {f : Known → α → Option (List (Known × α'))} (h : AltsOk ρ k l Good) (hb : bindO f l = some l')
    (hf : ∀ k' x ys, f k' x = some ys → AltsOk ρ k' ys fun y => Good x → Good' y) : AltsOk ρ k l' Good' := by
  have hm := bindO_mem hb
  refine ⟨fun hk => ?_, fun y hy hk => ?_⟩
  · obtain ⟨x, hx, hxk⟩ := h.1 hk
    obtain ⟨ys, hys, hsub⟩ := hm.1 x hx
    obtain ⟨y, hy, hyk⟩ := (hf _ _ _ hys).1 hxk
    exact ⟨y, hsub y hy, hyk⟩
  · obtain ⟨x, hx, ys, hys, hyy⟩ := hm.2 y hy
    have h1 := (hf _ _ _ hys).2 y hyy hk
    have h2 := h.2 x hx h1.1
    exact ⟨h2.1, h1.2 h2.2⟩
theorem AltsOk.weaken {α : Type} {ρ : Env} {k : Known} {l : List (Known × α)} {Good Good' : α → Prop} (h : AltsOk ρ k l Good) (hg : ∀ x, Good x → Good' x) : AltsOk ρ k l Good' :=
  ⟨h.1, fun x hx hk => ⟨(h.2 x hx hk).1, hg _ (h.2 x hx hk).2⟩⟩

/-! ### calls that bear no labels: by themselves, in no memory -/
def CV.flat : CV → Bool
  | .int _ _ => true
  | .bool _ => true
  | .nilp => true
  | .nils => true
  | .nilf => true
  | .raw _ => true
  | _ => false
def V1.flat : V1 → Bool
  | .one c => c.flat
  | .agg cs => cs.all CV.flat
def SV.flat : SV → Bool
  | .v x => x.flat
  | .tup xs => xs.all V1.flat
def E.isLit : E → Bool
  | .lit _ => true
  | _ => false
def CV.isLit : CV → Bool
  | .int _ e => e.isLit
  | .bool e => e.isLit
  | .nilp => true
  | .nils => true
  | .nilf => true
  | .raw _ => true
  | _ => false
def V1.isLit : V1 → Bool
  | .one c => c.isLit
  | .agg cs => cs.all CV.isLit
theorem CV.flat_below {c : CV} (h : c.flat = true) (n : Nat) : c.below n := by cases c <;> simp [CV.flat] at h <;> trivial
theorem V1.flat_below {x : V1} (h : x.flat = true) (n : Nat) : x.below n := by
  cases x with
  | one c => exact CV.flat_below h n
  | agg cs => exact fun c hc => CV.flat_below (List.all_eq_true.1 h c hc) n
theorem SV.flat_below {x : SV} (h : x.flat = true) (n : Nat) : x.below n := by
  cases x with
  | v x => exact V1.flat_below h n
  | tup xs => exact fun c hc => V1.flat_below (List.all_eq_true.1 h c hc) n
def altK {R : Type} (x : Known × Eff) (k : Known × Eff → R) : R := match x with | (a, e) => a.whK fun a => e.deepK fun e => k (a, e)
theorem altK_eq {R : Type} (x : Known × Eff) (k : Known × Eff → R) : altK x k = k x := by obtain ⟨a, e⟩ := x; simp only [altK, Known.whK_eq, Eff.deepK_eq]
def bareEff (nx : Nat) (e : Eff) : Eff := ⟨e.res, [], nx⟩
def wrapLit (callF : CallF) (f : FuncId) (args : List V1) (heap : T Ent) (nx : Nat) (k : Known) : Option EAlts :=
  match callF f args .leaf 0 Known.nil with
  | some l => listK altK l fun l => match l with
    | [] => callF f args heap nx k
    | (_, e) :: r => match r with
      | [] => (match e.res.flat with | true => some [(k, bareEff nx e)] | false => callF f args heap nx k)
      | _ => callF f args heap nx k
  | none => callF f args heap nx k
def wrapFlat (callF : CallF) (f : FuncId) (args : List V1) (heap : T Ent) (nx : Nat) (k : Known) : Option EAlts :=
  match callF f args .leaf 0 k with
  | some l => listK altK l fun l => match l.all (fun x => x.2.res.flat) with
    | true => some (l.map fun x => (x.1, bareEff nx x.2))
    | false => callF f args heap nx k
  | none => none
def soloF (callF : CallF) : CallF := fun f args heap nx k =>
  match args.all V1.flat with
  | true => (match args.all V1.isLit with | true => wrapLit callF f args heap nx k | false => wrapFlat callF f args heap nx k)
  | false => callF f args heap nx k
/-! ### one operation, calls among them -/
def v1sOf (ev : Ev) : List Operand → Option (List V1)
  | [] => some []
  | x :: r => match asV (ev x), v1sOf ev r with | some v, some vs => some (v :: vs) | _, _ => none
def ptrV (p : Nat × Nat) : V1 := .one (.ptr p.1 p.2)
def opAlts (ty : Tys) (callF : CallF) (ev : Ev) (heap : T Ent) (nx : Nat) (k : Known) (o : Oper) : Option EAlts :=
  match o.op with
  | .call c => match c.callee with
    | .value f => match ev f, v1sOf ev c.args.toList with
      | some (.v (.one (.fn g first caps))), some args => soloF callF g (first.map ptrV ++ (args ++ caps.map ptrV)) heap nx k
      | _, _ => none
    | _ => effAlts ty ev heap.get nx k o
  | _ => effAlts ty ev heap.get nx k o
def putSlot (slots : Sl) (d : Option Tmp) (v : SV) : Sl := match d with | some t => slots.put t v | none => slots
def putSets (heap : T Ent) : Sets → T Ent
  | [] => heap
  | (l, x) :: r => putSets (T.put 40 heap l x) r
def guardAlts (ops : List Oper) (slots : Sl) (k : Known) (o : Oper) : Option (List (Known × Bool)) :=
  match o.guard with
  | none => some [(k, true)]
  | some (j, want) => match ops[j]? with
    | some g => match g.dst with
      | some d => match slots.get d with
        | some (.v (.one (.bool e))) => some ((fork k e).map fun x => (x.1, x.2 == want))
        | some (.tup []) => some [(k, false)]
        | _ => none
      | none => none
    | none => none
def S.after (s : S) (d : Option Tmp) (e : Eff) : S := ⟨putSlot s.slots d e.res, putSets s.heap e.sets, e.nx, e.sets.labels ++ s.log⟩
section
variable {R : Type}
def putSlotK (slots : Sl) (d : Option Tmp) (v : SV) (k : Sl → R) : R := match d with | some t => k (slots.put t v) | none => k slots
theorem putSlotK_eq (slots : Sl) (d : Option Tmp) (v : SV) (k : Sl → R) : putSlotK slots d v k = k (putSlot slots d v) := by
  cases d <;> simp only [putSlotK, putSlot]
def putSetsK (heap : T Ent) (s : Sets) (k : T Ent → R) : R := match s with
  | [] => k heap
  | (l, x) :: r => T.putK 40 heap l x fun heap => putSetsK heap r k
theorem putSetsK_eq : ∀ (s : Sets) (heap : T Ent) (k : T Ent → R), putSetsK heap s k = k (putSets heap s)
  | [], heap, k => by simp only [putSetsK, putSets]
  | (l, x) :: r, heap, k => by simp only [putSetsK, putSets, T.putK_put, putSetsK_eq r]
def logK (s : Sets) (log : List Nat) (k : List Nat → R) : R := match s with
  | [] => k log
  | (l, _) :: r => logK r log fun log => k (l :: log)
theorem logK_eq : ∀ (s : Sets) (log : List Nat) (k : List Nat → R), logK s log k = k (s.labels ++ log)
  | [], log, k => by simp only [logK, Sets.labels, List.map_nil, List.nil_append]
  | (l, x) :: r, log, k => by simp only [logK, logK_eq r, Sets.labels, List.map_cons, List.cons_append]
/-- The state behind an operation, handed on. -/
def S.afterK (s : S) (d : Option Tmp) (e : Eff) (k : S → R) : R := match s, e with
  | ⟨slots, heap, _, log⟩, ⟨res, sets, nx⟩ => putSlotK slots d res fun slots => putSetsK heap sets fun heap => logK sets log fun log => k ⟨slots, heap, nx, log⟩
theorem S.afterK_eq (s : S) (d : Option Tmp) (e : Eff) (k : S → R) : s.afterK d e k = k (s.after d e) := by
  obtain ⟨slots, heap, nx, log⟩ := s
  obtain ⟨res, sets, nx'⟩ := e
  simp only [S.afterK, putSlotK_eq, putSetsK_eq, logK_eq]
  rfl
def S.whK (s : S) (k : S → R) : R := match s with | ⟨slots, heap, nx, log⟩ => k ⟨slots, heap, nx, log⟩
theorem S.whK_eq (s : S) (k : S → R) : s.whK k = k s := by cases s; rfl
end
def dstOk (nt : Nat) (o : Oper) : Bool := match o.dst with | some d => Nat.blt d nt | none => true
/-- The operations in the order of the text. -/
def seqOps (ty : Tys) (callF : CallF) (nt : Nat) (all : List Oper) : List Oper → Known → S → Option (List (Known × S))
  | [], k, s => some [(k, s)]
  | o :: r, k, s =>
    match dstOk nt o with
    | true =>
      (match guardAlts all s.slots k o with
      | some gs => bindS (fun k b => k.whK fun k =>
          match b with
          | true =>
            (match opAlts ty callF (evOf s.slots.get) s.heap s.nx k o with
            | some es => bindS (fun k e => k.whK fun k => e.deepK fun e => s.afterK o.dst e fun s => seqOps ty callF nt all r k s) es
            | none => none)
          | false => s.afterK o.dst ⟨undefSV, [], s.nx⟩ fun s => seqOps ty callF nt all r k s) gs
      | none => none)
    | false => none

/-! ### the same, quicker to run -/
/-- Does it look at numbers alone? -/
def pureOp : Op → Bool
  | .call c => (match c.callee with | .value _ => false | _ => true)
  | .alloc _ => false
  | .box _ _ => false
  | .buildSlice _ _ _ => false
  | .store _ _ _ => false
  | _ => true
inductive FK where
  | slow | quick | mv (x : Tmp)
def mvOp : Op → FK
  | .move (.tmp x) => .mv x
  | .assign (.tmp x) => .mv x
  | _ => .quick
def fastOp (nt : Nat) (o : Oper) : FK := match o.guard with
  | none => (match pureOp o.op with | true => (match dstOk nt o with | true => mvOp o.op | false => .slow) | false => .slow)
  | some _ => .slow
section
variable {R : Type}
def goOn (rec : Known → S → R) (heap : T Ent) (nx : Nat) (log : List Nat) (k : Known) (slots : Sl) : R := rec k ⟨slots, heap, nx, log⟩
def putOn (rec : Known → S → R) (d : Option Tmp) (s : S) (k : Known) (v : SV) : R := match s with
  | ⟨slots, heap, nx, log⟩ => putSlotK slots d v (goOn rec heap nx log k)
def pureOn2 (rec : Known → S → R) (d : Option Tmp) (s : S) (v : SV) (k : Known) : R := v.deepK (putOn rec d s k)
def pureOn (rec : Known → S → R) (d : Option Tmp) (s : S) (k : Known) (v : SV) : R := k.whK (pureOn2 rec d s v)
theorem pureOn_eq (rec : Known → S → R) (d : Option Tmp) (s : S) (k : Known) (v : SV) : pureOn rec d s k v = rec k (s.after d ⟨v, [], s.nx⟩) := by
  obtain ⟨slots, heap, nx, log⟩ := s
  simp only [pureOn, pureOn2, putOn, goOn, Known.whK_eq, SV.deepK_eq, putSlotK_eq, S.after, putSets, Sets.labels, List.map_nil, List.nil_append]
def effOn (rec : Known → S → R) (d : Option Tmp) (s : S) (k : Known) (e : Eff) : R := s.afterK d e (rec k)
def effOn2 (rec : Known → S → R) (d : Option Tmp) (s : S) (e : Eff) (k : Known) : R := e.deepK (effOn rec d s k)
def effOn1 (rec : Known → S → R) (d : Option Tmp) (s : S) (k : Known) (e : Eff) : R := k.whK (effOn2 rec d s e)
theorem effOn1_eq (rec : Known → S → R) (d : Option Tmp) (s : S) (k : Known) (e : Eff) : effOn1 rec d s k e = rec k (s.after d e) := by
  simp only [effOn1, effOn2, effOn, Known.whK_eq, Eff.deepK_eq, S.afterK_eq]
end
def seqOp (ty : Tys) (callF : CallF) (rec : Known → S → Option (List (Known × S))) (o : Oper) (s : S) (b : Bool) (k : Known) : Option (List (Known × S)) :=
  match b with
  | true => (match opAlts ty callF (evOf s.slots.get) s.heap s.nx k o with
    | some es => bindS (effOn1 rec o.dst s) es
    | none => none)
  | false => s.afterK o.dst ⟨undefSV, [], s.nx⟩ (rec k)
def seqOp1 (ty : Tys) (callF : CallF) (rec : Known → S → Option (List (Known × S))) (o : Oper) (s : S) (k : Known) (b : Bool) : Option (List (Known × S)) := k.whK (seqOp ty callF rec o s b)
def seqSlow (ty : Tys) (callF : CallF) (nt : Nat) (all : List Oper) (rec : Known → S → Option (List (Known × S))) (o : Oper) (k : Known) (s : S) : Option (List (Known × S)) :=
  match dstOk nt o with
  | true => (match guardAlts all s.slots k o with
    | some gs => bindS (seqOp1 ty callF rec o s) gs
    | none => none)
  | false => none
def seqQuick (ty : Tys) (rec : Known → S → Option (List (Known × S))) (o : Oper) (k : Known) (s : S) : Option (List (Known × S)) :=
  match pureAlts ty (evOf s.slots.get) s.heap.get k o with
  | some l => bindS (pureOn rec o.dst s) l
  | none => none
def seqMove (rec : Known → S → Option (List (Known × S))) (o : Oper) (x : Tmp) (k : Known) (s : S) : Option (List (Known × S)) :=
  match s.slots.get x with
  | some v => putOn rec o.dst s k v
  | none => none
def seqRun (ty : Tys) (callF : CallF) (nt : Nat) (all : List Oper) : List Oper → Known → S → Option (List (Known × S))
  | [] => fun k s => some [(k, s)]
  | o :: r => match fastOp nt o with
    | .mv x => seqMove (seqRun ty callF nt all r) o x
    | .quick => seqQuick ty (seqRun ty callF nt all r) o
    | .slow => seqSlow ty callF nt all (seqRun ty callF nt all r) o
theorem putOn_eq {R : Type} (rec : Known → S → R) (d : Option Tmp) (s : S) (k : Known) (v : SV) : putOn rec d s k v = rec k (s.after d ⟨v, [], s.nx⟩) := by
  obtain ⟨slots, heap, nx, log⟩ := s
  simp only [putOn, goOn, putSlotK_eq, S.after, putSets, Sets.labels, List.map_nil, List.nil_append]
theorem seqMove_eq (ty : Tys) (rec : Known → S → Option (List (Known × S))) (o : Oper) (x : Tmp) (k : Known) (s : S) (h : mvOp o.op = .mv x) : seqMove rec o x k s = seqQuick ty rec o k s := by
  have hp : pureAlts ty (evOf s.slots.get) s.heap.get k o = match s.slots.get x with | some v => some [(k, v)] | none => none := by
    unfold mvOp at h
    split at h
    · rename_i hop; cases h; simp only [pureAlts, hop, evOf]; cases s.slots.get x <;> rfl
    · rename_i hop; cases h; simp only [pureAlts, hop, evOf]; cases s.slots.get x <;> rfl
    · cases h
  simp only [seqMove, seqQuick, hp]
  cases s.slots.get x with
  | none => rfl
  | some v => simp only [bindS, pureOn_eq, putOn_eq]
theorem bindO_map {α β γ : Type} (f : Known → β → Option (List (Known × γ))) (g : α → β) : ∀ l : List (Known × α), bindO f (l.map fun x => (x.1, g x.2)) = bindO (fun k x => f k (g x)) l
  | [] => rfl
  | (k, x) :: r => by simp only [List.map_cons, bindO, bindO_map f g r]
theorem seqRun_eq (ty : Tys) (callF : CallF) (nt : Nat) (all : List Oper) : ∀ (ops : List Oper), seqRun ty callF nt all ops = seqOps ty callF nt all ops
  | [] => by funext k s; simp only [seqRun, seqOps]
  | o :: r => by
    funext k s
    simp only [seqRun, seqRun_eq ty callF nt all r]
    have quick : pureOp o.op = true → dstOk nt o = true → o.guard = none → seqQuick ty (seqOps ty callF nt all r) o k s = seqOps ty callF nt all (o :: r) k s := by
      intro hp hd hg
      have ho : opAlts ty callF (evOf s.slots.get) s.heap s.nx k o = ePure ty (evOf s.slots.get) s.heap.get s.nx k o := by
        obtain ⟨d0, op, type, pos, after, guard⟩ := o
        cases op <;> simp only [pureOp, Bool.false_eq_true] at hp <;> first | rfl | skip
        rename_i c
        obtain ⟨callee, args, tys⟩ := c
        cases callee <;> first | rfl | (simp only [Bool.false_eq_true] at hp)
      have hgd : guardAlts all s.slots k o = some [(k, true)] := by unfold guardAlts; rw [hg]
      simp only [seqOps, seqQuick, hd, hgd, bindS_eq, bindO, Known.whK_eq, Eff.deepK_eq, S.afterK_eq, ho, ePure]
      cases hpa : pureAlts ty (evOf s.slots.get) s.heap.get k o with
      | none => rfl
      | some l =>
        simp only [List.append_nil]
        rw [bindO_map (fun k e => seqOps ty callF nt all r k (s.after o.dst e)) (fun v => (⟨v, [], s.nx⟩ : Eff))]
        have hfun : (fun k v => seqOps ty callF nt all r k (s.after o.dst ⟨v, [], s.nx⟩)) = pureOn (seqOps ty callF nt all r) o.dst s := by
          funext k v; rw [pureOn_eq]
        rw [hfun]
        cases bindO (pureOn (seqOps ty callF nt all r) o.dst s) l <;> rfl
    have facts : ∀ q, fastOp nt o = q → q ≠ .slow → o.guard = none ∧ pureOp o.op = true ∧ dstOk nt o = true ∧ mvOp o.op = q := by
      intro q hq hne
      unfold fastOp at hq
      split at hq
      · rename_i hg
        split at hq
        · rename_i hp
          split at hq
          · rename_i hd
            exact ⟨hg, hp, hd, hq⟩
          · exact absurd hq.symm hne
        · exact absurd hq.symm hne
      · exact absurd hq.symm hne
    cases hf : fastOp nt o with
    | mv x =>
      obtain ⟨hg, hp, hd, hm⟩ := facts _ hf (by simp)
      simp only
      rw [seqMove_eq ty _ o x k s hm]
      exact quick hp hd hg
    | quick =>
      obtain ⟨hg, hp, hd, hm⟩ := facts _ hf (by simp)
      exact quick hp hd hg
    | slow =>
      have h1 : effOn1 (seqOps ty callF nt all r) o.dst s = fun k e => seqOps ty callF nt all r k (s.after o.dst e) := by funext k e; rw [effOn1_eq]
      have h2 : seqOp1 ty callF (seqOps ty callF nt all r) o s = fun k b => match b with
          | true => (match opAlts ty callF (evOf s.slots.get) s.heap s.nx k o with
            | some es => bindO (fun k e => seqOps ty callF nt all r k (s.after o.dst e)) es
            | none => none)
          | false => seqOps ty callF nt all r k (s.after o.dst ⟨undefSV, [], s.nx⟩) := by
        funext k b
        simp only [seqOp1, seqOp, Known.whK_eq, bindS_eq, h1, S.afterK_eq]
      simp only [seqSlow, seqOps, bindS_eq, Known.whK_eq, Eff.deepK_eq, S.afterK_eq, h2]

def resOf (ty : Tys) (s : S) : List ResultVar → Option (List V1)
  | [] => some []
  | .tmp t :: r => match asV (s.slots.get t), resOf ty s r with | some v, some vs => some (v :: vs) | _, _ => none
  | .cell a t :: r => match asP (s.slots.get a), ty t, resOf ty s r with
    | some (l, off), some ti, some vs => match s.heap.get l with
      | some ⟨_, .cells cs _⟩ => match sub1 cs ti.agg off ti.size with | some v => some (v :: vs) | none => none
      | _ => none
    | _, _, _ => none
def svOfList : List V1 → SV
  | [x] => .v x
  | xs => .tup xs
def CV.labs : CV → List Nat
  | .ptr l _ => [l]
  | .slc l _ _ _ => [l]
  | .fn _ a b => a.map (·.1) ++ b.map (·.1)
  | .tslc l _ _ _ _ => [l]
  | .tptr l _ _ _ => [l]
  | _ => []
def V1.labs : V1 → List Nat
  | .one c => c.labs
  | .agg cs => cs.flatMap CV.labs
def SV.labs : SV → List Nat
  | .v x => x.labs
  | .tup xs => xs.flatMap V1.labs
def Blk.labs : Blk → List Nat
  | .cells cs _ => cs.flatMap CV.labs
  | .tab q _ _ _ => [q]
/-- The new blocks that can be come to. -/
def reachNew (nx0 : Nat) : Nat → T Ent → List Nat → T Ent → T Ent
  | 0, _, _, acc => acc
  | _, _, [], acc => acc
  | n + 1, view, l :: r, acc => match Nat.blt l nx0 with
    | true => reachNew nx0 n view r acc
    | false => match acc.get l with
      | some _ => reachNew nx0 n view r acc
      | none => match view.get l with
        | some x => reachNew nx0 n view (x.blk.labs ++ r) (T.put 40 acc l x)
        | none => reachNew nx0 n view r acc
def setsGo (nx0 : Nat) (R heap : T Ent) : List Nat → T Ent → Sets → Option Sets
  | [], _, acc => some acc
  | l :: r, seen, acc => match seen.get l with
    | some _ => setsGo nx0 R heap r seen acc
    | none => match heap.get l with
      | none => none
      | some x => match Nat.blt l nx0 with
        | true => setsGo nx0 R heap r (T.put 40 seen l x) ((l, x) :: acc)
        | false => match R.get l with
          | some _ => setsGo nx0 R heap r (T.put 40 seen l x) ((l, x) :: acc)
          | none => setsGo nx0 R heap r seen acc
/-- The blocks that were set: the old ones, and of the new ones those that can still be come to. -/
def setsOf (nx0 : Nat) (heap : T Ent) (seeds log : List Nat) : Option Sets :=
  setsGo nx0 (reachNew nx0 100000 heap (seeds ++ log.flatMap fun l => match Nat.blt l nx0 with | true => (match heap.get l with | some x => x.blk.labs | none => []) | false => []) .leaf) heap log .leaf []
def argSlots : List V1 → Nat → Sl → Sl
  | [], _, t => t
  | v :: r, i, t => argSlots r (i + 1) (t.put i (.v v))
def V1.headK {R : Type} (x : V1) (k : V1 → R) : R := match x with
  | .one c => c.plainK fun c => k (.one c)
  | .agg cs => k (.agg cs)
theorem V1.headK_eq {R : Type} (x : V1) (k : V1 → R) : x.headK k = k x := by cases x <;> simp only [V1.headK, CV.plainK_eq]
def argSlotsK {R : Type} (l : List V1) (i : Nat) (t : Sl) (k : Sl → R) : R := match l with
  | [] => k t
  | v :: r => v.headK fun v => natK (Nat.succ i) fun j => argSlotsK r j (t.put i (.v v)) k
theorem argSlotsK_eq {R : Type} : ∀ (l : List V1) (i : Nat) (t : Sl) (k : Sl → R), argSlotsK l i t k = k (argSlots l i t)
  | [], i, t, k => by simp only [argSlotsK, argSlots]
  | v :: r, i, t, k => by simp only [argSlotsK, argSlots, V1.headK_eq, natK_eq, argSlotsK_eq r]
def finish (ty : Tys) (fn : Func) (nx0 : Nat) (o : XK × S) : Option Eff :=
  match o.1 with
  | .ext _ => none
  | _ => match resOf ty o.2 fn.results.toList with
    | some vs => match setsOf nx0 o.2.heap (vs.flatMap V1.labs) o.2.log with
      | some sets => some ⟨svOfList vs, sets, o.2.nx⟩
      | none => none
    | none => none

/-! ### states of several ways made one -/
def cvIte (t : E) : CV → CV → Option CV
  | .int k a, .int k' b => match keq k k' with | true => some (.int k (mkIte t a b)) | false => none
  | .bool a, .bool b => some (.bool (mkIte t a b))
  | .ptr l o, .ptr l' o' => match Nat.beq l l' && Nat.beq o o' with | true => some (.ptr l o) | false => none
  | .nilp, .nilp => some .nilp
  | .nils, .nils => some .nils
  | .nilf, .nilf => some .nilf
  | .slc l o n c, .slc l' o' n' c' => match Nat.beq l l' && Nat.beq o o' with | true => some (.slc l o (mkIte t n n') (mkIte t c c')) | false => none
  | .tslc l z r n c, .tslc l' z' r' n' c' => match Nat.beq l l' && Nat.beq z z' with | true => some (.tslc l z (mkIte t r r') (mkIte t n n') (mkIte t c c')) | false => none
  | .tptr l z r j, .tptr l' z' r' j' => match Nat.beq l l' && (Nat.beq z z' && Nat.beq j j') with | true => some (.tptr l z (mkIte t r r') j) | false => none
  | _, _ => none
def cvsIte (t : E) : List CV → List CV → Option (List CV)
  | [], [] => some []
  | a :: r, b :: r' => match cvIte t a b, cvsIte t r r' with | some c, some cs => some (c :: cs) | _, _ => none
  | _, _ => none
def v1Ite (t : E) : V1 → V1 → Option V1
  | .one a, .one b => match cvIte t a b with | some c => some (.one c) | none => none
  | .agg a, .agg b => match cvsIte t a b with | some c => some (.agg c) | none => none
  | _, _ => none
def svIte (t : E) : SV → SV → Option SV
  | .v a, .v b => match v1Ite t a b with | some c => some (.v c) | none => none
  | _, _ => none
def entIte (t : E) : Ent → Ent → Option Ent
  | ⟨wr, .cells a ty⟩, ⟨wr', .cells b ty'⟩ => match Nat.beq ty ty' && eqvB wr wr' with | true => (match cvsIte t a b with | some c => some ⟨wr, .cells c ty⟩ | none => none) | false => none
  | _, _ => none
section
variable {R : Type}
/-- Of the slots that are asked for, those that both have. -/
def slIte1 (t : E) (s1 s2 : Sl) (n : Nat) (K : Sl → R) (q : Sl) : R := match s1.get n, s2.get n with
    | some v1, some v2 => (match svIte t v1 v2 with
      | some x => x.deepK fun x => K (.cons n x q)
      | none => K q)
    | _, _ => K q
def slIteK (t : E) (s1 s2 : Sl) : List Nat → (Sl → R) → R
  | [] => fun K => K .nil
  | n :: r => fun K => slIteK t s1 s2 r (slIte1 t s1 s2 n K)
def memN (l : Nat) : List Nat → Bool
  | [] => false
  | x :: r => match Nat.beq x l with | true => true | false => memN l r
/-- The blocks that were set on one of the ways: old ones must be there on both; new ones that both have go on. -/
def setsIteK (t : E) (nx0 : Nat) (h0 h1 h2 : T Ent) (g1 g2 : List Nat) : List Nat → Sets → R → (Sets → R) → R
  | [], acc => fun _ K => K acc
  | l :: r, acc => match memN l acc.labels with
    | true => setsIteK t nx0 h0 h1 h2 g1 g2 r acc
    | false => match Nat.blt l nx0 with
      | true => fun fail K => (match h0.get l with
        | some ⟨true, _⟩ => (match h1.get l, h2.get l with
          | some a, some b => (match entIte t a b with
            | some x => entK (l, x) fun p => setsIteK t nx0 h0 h1 h2 g1 g2 r (p :: acc) fail K
            | none => fail)
          | _, _ => fail)
        | _ => fail)
      | false => fun fail K => (match h1.get l, h2.get l with
          | some a, some b => (match entIte t a b with
            | some x => entK (l, x) fun p => setsIteK t nx0 h0 h1 h2 g1 g2 r (p :: acc) fail K
            | none => setsIteK t nx0 h0 h1 h2 g1 g2 r acc fail K)
          | _, _ => setsIteK t nx0 h0 h1 h2 g1 g2 r acc fail K)
def maxK (a b : Nat) (K : Nat → R) : R := match Nat.ble a b with | true => natK b K | false => natK a K
def stIteK (lv : List Nat) (s0 : S) (t : E) (a b : S) (fail : R) (K : S → R) : R :=
  setsIteK t s0.nx s0.heap a.heap b.heap a.log b.log (a.log ++ b.log) [] fail fun sets =>
    slIteK t a.slots b.slots lv fun sl => putSetsK s0.heap sets fun heap => logK sets s0.log fun log => maxK a.nx b.nx fun nx => K ⟨sl, heap, nx, log⟩
end
abbrev Way := List (E × Bool) × S
/-- Two tests of which at most one holds. -/
def exclE (t x : E) : Bool := match t with
  | .bin .eq a (.lit n) => (match x with
    | .bin .eq b (.lit m) => (match ieq n m with | true => false | false => a.same b)
    | _ => false)
  | _ => false
/-- The ways on which a test holds, and those on which it does not. -/
def splitW (t : E) : List Way → Option (List Way × List Way)
  | [] => some ([], [])
  | ([], _) :: _ => none
  | ((x, b) :: ts, s) :: r => match x.same t, splitW t r with
    | true, some (p, q) => (match b with | true => some ((ts, s) :: p, q) | false => some (p, (ts, s) :: q))
    | false, some (p, q) => (match b with
      | true => (match exclE t x with | true => some (p, ((x, b) :: ts, s) :: q) | false => none)
      | false => none)
    | _, _ => none
def mergeK {R : Type} (lv : List Nat) (s0 : S) : Nat → List Way → R → (S → R) → R
  | 0, _, fail, _ => fail
  | n + 1, l, fail, K => match l with
    | [] => fail
    | [(_, s)] => K s
    | ([], _) :: _ :: _ => fail
    | ((t, b) :: ts, s) :: y :: r => match splitW t (((t, b) :: ts, s) :: y :: r) with
      | none => fail
      | some ([], q) => mergeK lv s0 n q fail K
      | some (p, []) => mergeK lv s0 n p fail K
      | some (p, q) => mergeK lv s0 n p fail fun a => mergeK lv s0 n q fail fun c => stIteK lv s0 t a c fail K
/-- The tests that came in on a way, the oldest first. -/
def newTs (k0 k : Known) : List (E × Bool) := (k.tr.take (Nat.sub k.tr.length k0.tr.length)).reverse
def xkEq : XK → XK → Bool
  | .nrm, .nrm => true
  | .ret, .ret => true
  | .ext i, .ext j => Nat.beq i j
  | _, _ => false
/-- All ways out by one door: their ways, and the door. -/
def waysOf (k0 : Known) (x : XK) : Outs → Option (List Way)
  | [] => some []
  | (k, y, s) :: r => match xkEq x y, waysOf k0 x r with
    | true, some l => some ((newTs k0 k, s) :: l)
    | _, _ => none
def mergeOuts (lv : List Nat) (k0 : Known) (s0 : S) (outs : Outs) : Option Outs := match outs with
  | (k, x, s) :: y :: r => (match waysOf k0 x ((k, x, s) :: y :: r) with
    | some ws => mergeK lv s0 40 ws (some ((k, x, s) :: y :: r)) fun m => some [(k0, x, m)]
    | none => some ((k, x, s) :: y :: r))
  | o => some o

structure Cfg where
  ty : Tys
  fn : FuncId → Option Func
  draw : CallF → Nat → List Oper → Known → S → Option (List (Known × S))
  mb : Nat → Option (List Nat)

abbrev RecX := Nat → Code → Known → S → Option Outs
def callBody (cf : Cfg) (rec : RecX) (fn : Func) (body : Code) (heap : T Ent) (nx : Nat) (k : Known) (sl : Sl) : Option EAlts :=
  match rec fn.ntmps body k ⟨sl, heap, nx, []⟩ with
  | some outs => mapO (finish cf.ty fn nx) outs
  | none => none
def callWith (cf : Cfg) (rec : RecX) : CallF := fun f args heap nx k =>
  match cf.fn f with
  | none => none
  | some fn => match fn.body with
    | none => none
    | some body => match Nat.ble args.length fn.ntmps with
      | true => argSlotsK args 0 .nil (callBody cf rec fn body heap nx k)
      | false => none
def nrmOut (x : Known × S) : Known × (XK × S) := (x.1, .nrm, x.2)
def xSeqR (cf : Cfg) (rec : RecX) (nt : Nat) (ops : Array Oper) (k : Known) (s : S) : Option Outs :=
  match seqRun cf.ty (callWith cf rec) nt ops.toList ops.toList k s with
  | some l => some (l.map nrmOut)
  | none => none
def xDraw (cf : Cfg) (rec : RecX) (nt : Nat) (ops : Array Oper) (k : Known) (s : S) : Option Outs :=
  match cf.draw (callWith cf rec) nt ops.toList k s with
  | some l => some (l.map nrmOut)
  | none => none
def thenGo2 (rec : RecX) (nt : Nat) (b : Code) (e : XK) (k : Known) (s : S) : Option Outs :=
  match e with
  | .nrm => rec nt b k s
  | e => some [(k, e, s)]
def thenGo1 (rec : RecX) (nt : Nat) (b : Code) (x : XK × S) (k : Known) : Option Outs := match x with | (e, s) => s.whK (thenGo2 rec nt b e k)
def thenGo (rec : RecX) (nt : Nat) (b : Code) (k : Known) (x : XK × S) : Option Outs := k.whK (thenGo1 rec nt b x)
theorem thenGo_eq (rec : RecX) (nt : Nat) (b : Code) (k : Known) (x : XK × S) : thenGo rec nt b k x = thenGo2 rec nt b x.1 k x.2 := by
  obtain ⟨e, s⟩ := x
  simp only [thenGo, thenGo1, Known.whK_eq, S.whK_eq]
def xSeq (rec : RecX) (nt : Nat) (a b : Code) (k : Known) (s : S) : Option Outs :=
  match rec nt a k s with
  | some outs => bindS (thenGo rec nt b) outs
  | none => none
def condGo1 (rec : RecX) (nt : Nat) (a b : Code) (s : S) (t : Bool) (k : Known) : Option Outs := match t with | true => rec nt a k s | false => rec nt b k s
def condGo (rec : RecX) (nt : Nat) (a b : Code) (s : S) (k : Known) (t : Bool) : Option Outs := k.whK (condGo1 rec nt a b s t)
def xCond (rec : RecX) (nt : Nat) (c : Operand) (a b : Code) (k : Known) (s : S) : Option Outs :=
  match asB (evOf s.slots.get c) with
  | some e => bindS (condGo rec nt a b s) (fork k e)
  | none => none
def leave (id : Nat) (x : Known × (XK × S)) : Known × (XK × S) := (x.1, (match x.2.1 with | .ext i => if Nat.beq i id then .nrm else .ext i | e => e), x.2.2)
def xBlock (cf : Cfg) (rec : RecX) (nt : Nat) (id : Nat) (body : Code) (k : Known) (s : S) : Option Outs :=
  match rec nt body k s with
  | some outs => (match cf.mb id with
    | some lv => mergeOuts lv k s (outs.map (leave id))
    | none => some (outs.map (leave id)))
  | none => none
def xLoop (rec : RecX) (nt : Nat) (body : Code) (k : Known) (s : S) : Option Outs :=
  match rec nt body k s with
  | some outs => bindS (thenGo rec nt (.loop body)) outs
  | none => none
def execStep (cf : Cfg) (rec : RecX) (nt : Nat) (c : Code) (k : Known) (s : S) : Option Outs :=
  match c with
  | .skip => some [(k, .nrm, s)]
  | .region _ ops draw => (match draw with | false => xSeqR cf rec nt ops k s | true => xDraw cf rec nt ops k s)
  | .seq a b => xSeq rec nt a b k s
  | .cond c a b => xCond rec nt c a b k s
  | .block id body => xBlock cf rec nt id body k s
  | .loop body => xLoop rec nt body k s
  | .exit id => some [(k, .ext id, s)]
  | .ret => some [(k, .ret, s)]
  | _ => none
def exec (cf : Cfg) : Nat → RecX
  | 0 => fun _ _ _ _ => none
  | n + 1 => execStep cf (exec cf n)
def callF (cf : Cfg) (n : Nat) : CallF := callWith cf (exec cf n)
end
end Go.Sx
