/-
  SX, PART 8: THE STEP OF AN OPERATION THAT LEAVES THE WORLD AS IT IS.
-/
import Derived.Test.YtcobklmobbfolaaSxR
namespace Go.Sx
noncomputable section
set_option linter.unusedVariables false

def subL (k : Known) (e : E) (lo : Nat) : Option E :=
  if Nat.beq lo 0 then some e else if fits .i64 (plusB (bnd k e) (-(lo : Int))) then some (mkBin (.sub .i64) e (.lit (lo : Int))) else none
def isF : Option Bool → Bool
  | some false => true | _ => false
def mxOk (k : Known) (cap : E) : Option E → Bool
  | none => true
  | some m => isF (dec k (.bin .lt cap m))
/-- 0 ≤ lo ≤ hi ≤ mx ≤ cap, and the address does not stay behind. -/
def sliceC (k : Known) (len cap : E) (lo : Nat) (hi mx : Option E) : Bool :=
  isF (dec k (.bin .lt (hi.getD len) (.lit (lo : Int)))) && (isF (dec k (.bin .lt (mx.getD cap) (hi.getD len))) &&
    (mxOk k cap mx && ((hi.isSome || mx.isNone) &&
     (Nat.beq lo 0 || isF (dec k (.bin .eq (mx.getD cap) (.lit (lo : Int))))))))
def sliceOf (k : Known) (l o size : Nat) (len cap : E) (lo : Nat) (hi mx : Option E) : Option CV :=
  if sliceC k len cap lo hi mx then
    match subL k (hi.getD len) lo, subL k (mx.getD cap) lo with
    | some h', some m' => some (.slc l (o + lo * size) h' m')
    | _, _ => none
  else none

def oneB (k : Known) (e : E) : Alts := [(k, cbool e)]
def ints (ev : Ev) : List Operand → Option (List (IntKind × E))
  | [] => some []
  | x :: r => match asI (ev x), ints ev r with | some y, some ys => some (y :: ys) | _, _ => none
def ptrs (ev : Ev) : List Operand → Option (List (Nat × Nat))
  | [] => some []
  | x :: r => match asP (ev x), ptrs ev r with | some y, some ys => some (y :: ys) | _, _ => none
def isNeg (op : BinOp) : Option Bool := match op with | .eql => some false | .neq => some true | _ => none

def lenSV (ty : Tys) (cap : Bool) (k : Known) (t : TypeId) (x : Option SV) : Option SV :=
  match ty t with
  | none => none
  | some ti => match ti.d, x with
    | .slc _, some (.v (.one .nils)) => some (cint .i64 (.lit 0))
    | .slc _, some (.v (.one (.slc _ _ n c))) =>
      let e := if cap then c else n
      match (bnd k e).1 with
      | some lo => if ile 0 lo then some (cint .i64 e) else none
      | none => none
    | .slc _, some (.v (.one (.tslc _ _ _ n c))) =>
      let e := if cap then c else n
      match (bnd k e).1 with
      | some lo => if ile 0 lo then some (cint .i64 e) else none
      | none => none
    | .arr n _, some _ => some (cint .i64 (.lit n))
    | _, _ => none

/-- Does it fit one cell? -/
def CV.okc : CV → Bool
  | .raw v => v.oneCell'
  | .opq _ => false
  | _ => true
def v1cells : V1 → Option (List CV)
  | .agg cs => some cs
  | .one c => if c.okc then some [c] else none
def fillS (place : Nat → Option (Nat × Nat)) (cells : List CV) : List (Nat × V1) → Option (List CV)
  | [] => some cells
  | (i, v) :: r => match place i, v1cells v with
    | some (off, size), some vs => if Nat.beq vs.length size && Nat.ble (off + size) cells.length then fillS place (cells.take off ++ (vs ++ cells.drop (off + size))) r else none
    | _, _ => none
def partsOf (ev : Ev) : List (Nat × Operand) → Option (List (Nat × V1))
  | [] => some []
  | (i, x) :: r => match asV (ev x), partsOf ev r with | some v, some vs => some ((i, v) :: vs) | _, _ => none
def placesOf (ty : Tys) : List (Nat × TypeId) → Option (List (Nat × Nat))
  | [] => some []
  | (o, t) :: r => match ty t, placesOf ty r with | some ti, some ps => some ((o, ti.size) :: ps) | _, _ => none
def zeroCells1 (ti : TI) : Option (List CV) := match ti.zero with | some z => v1cells z | none => none

def loOf (ev : Ev) (k : Known) : Option Operand → Option Nat
  | none => some 0
  | some x => match asI (ev x) with
    | some (_, e) => match norm k e with | .lit n => if ile 0 n then some n.toNat else none | _ => none
    | none => none
def optI (ev : Ev) : Option Operand → Option (Option E)
  | none => some none
  | some x => match asI (ev x) with | some (_, e) => some (some e) | none => none
def callAlts (ty : Tys) (ev : Ev) (k : Known) (c : Call) : Option Alts :=
  match c.callee, c.args.toList, c.argTypes.toList with
  | .builtin .len, [x], [t] => match ev x with | some v => (match lenSV ty false k t (some v) with | some r => some [(k, r)] | none => none) | none => none
  | .builtin .cap, [x], [t] => match ev x with | some v => (match lenSV ty true k t (some v) with | some r => some [(k, r)] | none => none) | none => none
  | .builtin .min, [x, y], _ => match asI (ev x), asI (ev y) with
    | some (q, a), some (_, b) => some [(k, cint q (mkBin .min a b))]
    | _, _ => none
  | .builtin .max, [x, y], _ => match asI (ev x), asI (ev y) with
    | some (q, a), some (_, b) => some [(k, cint q (mkBin .max a b))]
    | _, _ => none
  | _, _, _ => none

/-! ### tables -/
def ckCV (t r : E) (j : Nat) : CK → CV
  | .int k => .int k (.un (.wrap k) (.get t r j))
  | .bool => .bool (.un .not (.un .not (.get t r j)))
def tabRow (t r : E) : List CK → Nat → List CV
  | [], _ => []
  | c :: ks, j => ckCV t r j c :: tabRow t r ks (j + 1)
def isTr : Option Bool → Bool
  | some true => true | _ => false
def geZ (k : Known) (e : E) : Bool := match (bnd k e).1 with
  | some lo => ile 0 lo
  | none => false
def rowAdd (k : Known) (r i : E) : Option E := match r with
  | .lit n => (match ieq n 0 with | true => some i | false => match fits .i64 (oadd (bnd k r).1 (bnd k i).1, oadd (bnd k r).2 (bnd k i).2) with | true => some (mkBin (.add .i64) r i) | false => none)
  | r => match fits .i64 (oadd (bnd k r).1 (bnd k i).1, oadd (bnd k r).2 (bnd k i).2) with | true => some (mkBin (.add .i64) r i) | false => none
def pLoadT (ty : Tys) (ev : Ev) (h : Heap) (k : Known) (t : TypeId) (a : Operand) : Option Alts :=
  match ev a, ty t with
  | some (.v (.one (.tptr l sz r j))), some ti => (match h l with
    | some ⟨_, .tab q T n ks⟩ => (match Nat.beq q l && (Nat.beq ks.length sz && (isTr (dec k (.bin .lt r n)) && geZ k r)) with
      | true => (match sub1 (tabRow T r ks 0) ti.agg j ti.size with | some v => some [(k, .v v)] | none => none)
      | false => none)
    | _ => none)
  | _, _ => none
def pFieldT (ty : Tys) (ev : Ev) (k : Known) (s : TypeId) (x : Operand) (f : Nat) : Option Alts :=
  match ev x, ty s with
  | some (.v (.one (.tptr l sz r j))), some ti => (match ti.d with
    | .strct fs => (match fs[f]? with
      | some (fo, ft) => (match ty ft with
        | some tf => if Nat.beq tf.size 0 then none else some [(k, .v (.one (.tptr l sz r (j + fo))))]
        | none => none)
      | none => none)
    | _ => none)
  | _, _ => none
def pIndexT (ty : Tys) (ev : Ev) (k : Known) (ti : TI) (i : E) (x : Operand) : Option Alts :=
  match ti.d, ev x with
  | .slc e, some (.v (.one (.tslc l sz r n _))) => (match ty e with
    | some te => (match Nat.beq te.size sz && (isTr (dec k (.bin .lt i n)) && (geZ k i && geZ k r)) with
      | true => (match rowAdd k r i with | some r' => some [(k, .v (.one (.tptr l sz r' 0)))] | none => none)
      | false => none)
    | none => none)
  | _, _ => none
def pPick (ty : Tys) (ev : Ev) (h : Heap) (k : Known) (c a b : Operand) : Option Alts :=
  match asB (ev c) with
  | some e => mapO (fun t => if t then ev a else ev b) (fork k e)
  | none => none
def pLoad (ty : Tys) (ev : Ev) (h : Heap) (k : Known) (t : TypeId) (a : Operand) : Option Alts :=
  match asP (ev a), ty t with
  | some (l, off), some ti => match h l with
    | some ⟨_, .cells cs _⟩ => match sub1 cs ti.agg off ti.size with | some v => some [(k, .v v)] | none => none
    | _ => none
  | _, _ => pLoadT ty ev h k t a
def pNilCheck (ty : Tys) (ev : Ev) (h : Heap) (k : Known) (x : Operand) : Option Alts :=
  match ev x with
  | some (.v (.one (.ptr l off))) => some [(k, .v (.one (.ptr l off)))]
  | some (.v (.one (.fn f a b))) => some [(k, .v (.one (.fn f a b)))]
  | _ => none
def pBinOp (ty : Tys) (ev : Ev) (h : Heap) (k : Known) (op : BinOp) (t : TypeId) (x y : Operand) : Option Alts :=
  match ev x, ev y with
  | some (.v (.one (.int ka a))), some (.v (.one (.int kb b))) => match binSV k op ka kb a b with | some r => some [(k, r)] | none => none
  | some (.v a), some (.v b) => match isNeg op, eqAny ty t a b with
    | some false, some e => some [(k, cbool e)]
    | some true, some e => some [(k, cbool (mkUn .not e))]
    | _, _ => none
  | _, _ => none
def pUnOp (ty : Tys) (ev : Ev) (h : Heap) (k : Known) (op : UnOp) (x : Operand) : Option Alts :=
  match op, ev x with
  | .not, some (.v (.one (.bool e))) => some [(k, cbool (mkUn .not e))]
  | .neg, some (.v (.one (.int q e))) => some [(k, cint q (mkUn (.neg q) e))]
  | .xor, some (.v (.one (.int q e))) => some [(k, cint q (mkUn (.compl q) e))]
  | _, _ => none
def pConvert (ty : Tys) (ev : Ev) (h : Heap) (k : Known) (src dst : TypeId) (x : Operand) : Option Alts :=
  match asI (ev x), ty src, ty dst with
  | some (_, e), some _, some td => match td.d with
    | .int q => if fits q (bnd k e) then some [(k, cint q e)] else some [(k, cint q (mkUn (.wrap q) e))]
    | _ => none
  | _, _, _ => none
def pFieldAddr (ty : Tys) (ev : Ev) (h : Heap) (k : Known) (s : TypeId) (x : Operand) (f : Nat) : Option Alts :=
  match asP (ev x), ty s with
  | some (l, off), some ti => match ti.d with
    | .strct fs => match fs[f]? with
      | some (fo, ft) => match ty ft with
        | some tf => if Nat.beq tf.size 0 then none else some [(k, .v (.one (.ptr l (off + fo))))]
        | none => none
      | none => none
    | _ => none
  | _, _ => pFieldT ty ev k s x f
def pField (ty : Tys) (ev : Ev) (h : Heap) (k : Known) (t : TypeId) (x : Operand) (f : Nat) : Option Alts :=
  match ev x, ty t with
  | some (.v (.agg cs)), some ti => match ti.d with
    | .strct fs => match fs[f]? with
      | some (fo, ft) => match ty ft with
        | some tf => match sub1 cs tf.agg fo tf.size with | some v => some [(k, .v v)] | none => none
        | none => none
      | none => none
    | _ => none
  | _, _ => none
def pIndexAddr (ty : Tys) (ev : Ev) (h : Heap) (k : Known) (t : TypeId) (x ix : Operand) : Option Alts :=
  match asI (ev ix), ty t with
  | some (_, i), some ti => match ti.d, ev x with
    | .arr n e, some (.v (.one (.ptr l off))) => match ty e, idxAlts k i (.lit n) with
      | some te, some js => some (js.map fun x => (x.1, .v (.one (.ptr l (off + x.2 * te.size)))))
      | _, _ => none
    | .slc e, some (.v (.one (.slc l off n _))) => match ty e, idxAlts k i n with
      | some te, some js => some (js.map fun x => (x.1, .v (.one (.ptr l (off + x.2 * te.size)))))
      | _, _ => none
    | _, _ => pIndexT ty ev k ti i x
  | _, _ => none
def pIndex (ty : Tys) (ev : Ev) (h : Heap) (k : Known) (t : TypeId) (x ix : Operand) : Option Alts :=
  match asI (ev ix), ty t with
  | some (_, i), some ti => match ti.d, ev x with
    | .arr n e, some (.v (.agg cs)) => match ty e, idxAlts k i (.lit n) with
      | some te, some js => mapO (fun j => (sub1 cs te.agg (j * te.size) te.size).map .v) js
      | _, _ => none
    | _, _ => none
  | _, _ => none
def pBuild (ty : Tys) (ev : Ev) (h : Heap) (k : Known) (t : TypeId) (parts : Array (Nat × Operand)) : Option Alts :=
  match ty t, partsOf ev parts.toList with
  | some ti, some ps => match zeroCells1 ti, ti.d with
    | some z, .strct fs => match placesOf ty fs with
      | some pl => match fillS (fun i => pl[i]?) z ps with | some cs => some [(k, .v (.agg cs))] | none => none
      | none => none
    | some z, .arr _ e => match ty e with
      | some te => match fillS (fun i => some (i * te.size, te.size)) z ps with | some cs => some [(k, .v (.agg cs))] | none => none
      | none => none
    | _, _ => none
  | _, _ => none
def pExtract (ty : Tys) (ev : Ev) (h : Heap) (k : Known) (x : Operand) (i : Nat) : Option Alts :=
  match ev x with
  | some (.tup xs) => match xs[i]? with | some v => some [(k, .v v)] | none => none
  | _ => none
def pMakeFunc (ty : Tys) (ev : Ev) (h : Heap) (k : Known) (fn : Fn) (first captured : Array Operand) : Option Alts :=
  match fn with
  | .func f => match ptrs ev first.toList, ptrs ev captured.toList with
    | some a, some b => some [(k, .v (.one (.fn f a b)))]
    | _, _ => none
  | _ => none
def pSlice (ty : Tys) (ev : Ev) (h : Heap) (k : Known) (t : TypeId) (x : Operand) (lo hi mx : Option Operand) : Option Alts :=
  match ty t, loOf ev k lo, optI ev hi, optI ev mx with
  | some ti, some lo, some hi, some mx => match ti.d, ev x with
    | .arr n e, some (.v (.one (.ptr l off))) => match ty e with
      | some te => match sliceOf k l off te.size (.lit n) (.lit n) lo hi mx with | some c => some [(k, .v (.one c))] | none => none
      | none => none
    | .slc e, some (.v (.one (.slc l off n c))) => match ty e with
      | some te => match sliceOf k l off te.size n c lo hi mx with | some c => some [(k, .v (.one c))] | none => none
      | none => none
    | _, _ => none
  | _, _, _, _ => none
def pureAlts (ty : Tys) (ev : Ev) (h : Heap) (k : Known) (o : Oper) : Option Alts :=
  match o.op with
  | .move x => match ev x with | some v => some [(k, v)] | none => none
  | .assign x => match ev x with | some v => some [(k, v)] | none => none
  | .pick c a b => pPick ty ev h k c a b
  | .load t a => pLoad ty ev h k t a
  | .nilCheck x => pNilCheck ty ev h k x
  | .binOp op t x y _ => pBinOp ty ev h k op t x y
  | .unOp op _ x => pUnOp ty ev h k op x
  | .convert src dst x => pConvert ty ev h k src dst x
  | .fieldAddr s x f => pFieldAddr ty ev h k s x f
  | .field t x f => pField ty ev h k t x f
  | .indexAddr t x ix => pIndexAddr ty ev h k t x ix
  | .index t x ix => pIndex ty ev h k t x ix
  | .build t parts => pBuild ty ev h k t parts
  | .extract x i => pExtract ty ev h k x i
  | .makeFunc fn first captured => pMakeFunc ty ev h k fn first captured
  | .slice t x lo hi mx => pSlice ty ev h k t x lo hi mx
  | .call c => callAlts ty ev k c
  | _ => none
end
end Go.Sx
