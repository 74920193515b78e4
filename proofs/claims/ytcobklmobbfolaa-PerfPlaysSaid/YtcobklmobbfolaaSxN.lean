/-
  SX, PART 16: FROM A WALK THAT ENDS TRUE AND KEEPS WHAT STOOD BEFORE TO A LAW's ROW.
-/
import Derived.Test.YtcobklmobbfolaaSxM
import Derived.ProofKit
import Derived.OpenShut
import Derived.ReadAgain
namespace Go.Sx
noncomputable section
open Go.ChangeShapes Go.WideShapes Go.ChangeAt Go.RowKit
section
variable {H : Type} {enc : TypeId × Value → H} {P : Program} {w w' : World} {base : Nat} {spare : Nat → Bool} {held : Bool}
theorem trodAll_carry : ∀ {ts : List TypeId} {vs : List Value} {ds : List (DataW H)} {ps : List MemPlace}, DataW.TrodAll enc P w base spare held ts vs ds ps → (∀ p ∈ ps, w.sameAt w' p) →
    DataW.TrodAll enc P w' base spare held ts vs ds ps
  | [], [], [], _, h, _ => h
  | _ :: _, _ :: _, _ :: _, _, ⟨p, q, ⟨n, h1⟩, h2, e⟩, hs =>
    ⟨p, q, ⟨n, DataW.trod_carry n _ _ _ h1 (fun x hx => hs x (by rw [e]; exact List.mem_append_left _ hx))⟩, trodAll_carry h2 (fun x hx => hs x (by rw [e]; exact List.mem_append_right _ hx)), e⟩
theorem trodAll_length : ∀ {ts : List TypeId} {vs : List Value} {ds : List (DataW H)} {ps : List MemPlace}, DataW.TrodAll enc P w base spare held ts vs ds ps → vs.length = ts.length ∧ ds.length = ts.length
  | [], [], [], _, _ => ⟨rfl, rfl⟩
  | _ :: _, _ :: _, _ :: _, _, ⟨_, _, _, h2, _⟩ => by
    have := trodAll_length h2
    simp [this.1, this.2]
theorem same_of_old {p : MemPlace} (h : ∀ k, k < w.heap.size → w'.heap[k]? = w.heap[k]?) (hp : p.block < w.heap.size) : w.sameAt w' p := by
  cases p with
  | cell b off =>
    have e : w'.heap[b]? = w.heap[b]? := h b hp
    simp only [World.sameAt, World.cell?, e]
  | map b => exact h b hp
/-- The arguments read behind the call as before. -/
theorem args_again {T : TypeId → Prop} (K : Kids P T) (hz : ∀ t e, T t → P.underlying t = some (.slice e) → 0 < P.cellsOf e) {ts : List TypeId} (hT : ∀ t ∈ ts, T t) {vs : List Value} {ds : List (DataW H)} {ps : List MemPlace}
    (h : DataW.TrodAll enc P w 0 (fun _ => true) true ts vs ds ps) (hk : ∀ k, k < w.heap.size → w'.heap[k]? = w.heap[k]?) (hlt : ∀ p ∈ ps, p.block < w.heap.size) (sp : Nat → Bool) (hsp : ∀ p ∈ ps, sp p.block = true) :
    DataW.TrodAll enc P w' 0 sp true ts vs ds ps :=
  trodAll_carry (DataW.TrodAll.respare K hz hT h hsp) fun p hp => same_of_old hk (hlt p hp)
end
/-- Zeros of the types. -/
noncomputable def zeros (P : Program) (ts : List TypeId) : Array Value := (ts.map fun t => ((P.info? t).bind (·.zero)).getD (.bool false)).toArray
def fnOf (P : Program) : FuncId → Option Func := fun f => P.funcs[f]?
theorem fnOf_ok {P : Program} (h : (P.funcs.all fun g => !(g.name == "runtime.NumGoroutine")) = true) : FnOk P (fnOf P) := by
  intro f g hg
  have hg' : P.funcs[f]? = some g := hg
  refine ⟨hg', ?_⟩
  rw [Array.all_eq_true_iff_forall_mem] at h
  have := h g (Array.mem_of_getElem? hg')
  simpa using this
theorem tysOf (P : Program) : TysOk P (TI.of P) := fun _ _ h => TI.of_ok h
end
end Go.Sx
