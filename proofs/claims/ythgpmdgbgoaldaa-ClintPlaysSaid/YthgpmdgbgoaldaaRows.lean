/-
  No cell of these rows narrows 'for every input' (looked for: loops, veiled, ifaces, maps, wideKeys, modest, calm, conditions, laid).
  DERIVED. THE GIVEN ROWS OF THIS SEAT. 4 by the template 'for every input the law returns true; each argument reads behind the call as it read before'; 0 by the template 'total and deterministic' (their statements: YthgpmdgbgoaldaaTotals.lean).
  GIVEN WITH THE SEED: the statements are not yours to turn. If you find one false, say at which input.
  Laid BY PROGRAM, IN A SANDBOX (cutbox-rows.mjs): the forced cells as the released guide's own fill.sh prints them over the translation 98d6932fc2f6f919… (all of the seat's roots in one cut). By AI agents, Wed Nov 11 2026. No macro, syntax, notation, axiom, sorry.
-/
import Derived.Test.YthgpmdgbgoaldaaChecked
import GoSem.Claim
import GoSem.ClaimJoined
import GoSem.ClaimMapViews
import Derived.JoinedTies
import Derived.KernelRfl
namespace Go.Proofs.Ythgpmdgbgoaldaa
/- THE CELL 'sum', in the pinned program and in every row, IS THE sha256 OF THE DUMP (.gsa) THAT YthgpmdgbgoaldaaProg.lean LOADS. Nothing in Lean hashes anything: it is a label: what it is worth is what the hold of that sum in a sandbox is worth. -/
noncomputable def Try.pinned : Pinned := { name := "ythgpmdgbgoaldaa", sum := "98d6932fc2f6f91905a53a9baec306558ee70e72d6e1b6b9c6e02bf4ce79a015", checked := Try.checked }
namespace Rows
def none {H : Type} : Left H := { results := [], args := [] }

/-- 'tappetlaw11.ClintRises': WHATEVER THE INPUT: true; the input reads as it did. -/
def clintRisesSpec : ChangeSpec := { name := "clintRises", fn := fun _ => fun
  | [d1, d2] => { results := [.lit (.bool true)], args := [d1, d2] }
  | _ => none }
def clintRisesRow : OpenClaim := { program := "ythgpmdgbgoaldaa", sum := "98d6932fc2f6f91905a53a9baec306558ee70e72d6e1b6b9c6e02bf4ce79a015", func := "tappet/tappetlaw11.ClintRises", spec := "clintRises", apart := false }
def ClintRisesSaid : Prop := clintRisesRow.holds Try.pinned (OpenSpec.ofChange clintRisesSpec)

/-- ITS FALSE NEIGHBOUR: 'it returns false'. Refute it at one input. -/
def clintRisesWrong : ChangeSpec := { name := "clintRises", fn := fun _ => fun
  | [d1, d2] => { results := [.lit (.bool false)], args := [d1, d2] }
  | _ => none }
def ClintRisesWrongFalsely : Prop := clintRisesRow.holds Try.pinned (OpenSpec.ofChange clintRisesWrong)

/-- 'tappetlaw11.ClintTime': WHATEVER THE INPUT: true; the input reads as it did. -/
def clintTimeSpec : ChangeSpec := { name := "clintTime", fn := fun _ => fun
  | [d1, d2, d3] => { results := [.lit (.bool true)], args := [d1, d2, d3] }
  | _ => none }
def clintTimeRow : OpenClaim := { program := "ythgpmdgbgoaldaa", sum := "98d6932fc2f6f91905a53a9baec306558ee70e72d6e1b6b9c6e02bf4ce79a015", func := "tappet/tappetlaw11.ClintTime", spec := "clintTime", apart := false }
def ClintTimeSaid : Prop := clintTimeRow.holds Try.pinned (OpenSpec.ofChange clintTimeSpec)

/-- ITS FALSE NEIGHBOUR: 'it returns false'. Refute it at one input. -/
def clintTimeWrong : ChangeSpec := { name := "clintTime", fn := fun _ => fun
  | [d1, d2, d3] => { results := [.lit (.bool false)], args := [d1, d2, d3] }
  | _ => none }
def ClintTimeWrongFalsely : Prop := clintTimeRow.holds Try.pinned (OpenSpec.ofChange clintTimeWrong)

/-- 'tappetlaw11.ClintPlays': WHATEVER THE INPUT: true; the input reads as it did. -/
def clintPlaysSpec : ChangeSpec := { name := "clintPlays", fn := fun _ => fun
  | [d] => { results := [.lit (.bool true)], args := [d] }
  | _ => none }
def clintPlaysRow : OpenClaim := { program := "ythgpmdgbgoaldaa", sum := "98d6932fc2f6f91905a53a9baec306558ee70e72d6e1b6b9c6e02bf4ce79a015", func := "tappet/tappetlaw11.ClintPlays", spec := "clintPlays", apart := false }
def ClintPlaysSaid : Prop := clintPlaysRow.holds Try.pinned (OpenSpec.ofChange clintPlaysSpec)

/-- ITS FALSE NEIGHBOUR: 'it returns false'. Refute it at one input. -/
def clintPlaysWrong : ChangeSpec := { name := "clintPlays", fn := fun _ => fun
  | [d] => { results := [.lit (.bool false)], args := [d] }
  | _ => none }
def ClintPlaysWrongFalsely : Prop := clintPlaysRow.holds Try.pinned (OpenSpec.ofChange clintPlaysWrong)

/-- 'tappetlaw11.ClintNil': WHATEVER THE INPUT: true; the input reads as it did. -/
def clintNilSpec : ChangeSpec := { name := "clintNil", fn := fun _ => fun
  | [d1, d2, d3] => { results := [.lit (.bool true)], args := [d1, d2, d3] }
  | _ => none }
def clintNilRow : OpenClaim := { program := "ythgpmdgbgoaldaa", sum := "98d6932fc2f6f91905a53a9baec306558ee70e72d6e1b6b9c6e02bf4ce79a015", func := "tappet/tappetlaw11.ClintNil", spec := "clintNil", apart := false }
def ClintNilSaid : Prop := clintNilRow.holds Try.pinned (OpenSpec.ofChange clintNilSpec)

/-- ITS FALSE NEIGHBOUR: 'it returns false'. Refute it at one input. -/
def clintNilWrong : ChangeSpec := { name := "clintNil", fn := fun _ => fun
  | [d1, d2, d3] => { results := [.lit (.bool false)], args := [d1, d2, d3] }
  | _ => none }
def ClintNilWrongFalsely : Prop := clintNilRow.holds Try.pinned (OpenSpec.ofChange clintNilWrong)

/- THE SECOND FORM. 'bulk': how many values and letters a reading holds, each counted each time it is reached (what is shared counts as often as it is met; a slice's spare places count too). A statement '..UptoSaid' is the law's where the arguments, and the package variables that the reading takes, are together of bulk at most 1048576: NARROWER than '..Said'. Prove '..Said' where nothing that the law and all that it calls make is longer than what came in: it says more and counts as full. Else prove '..UptoSaid'. A law counts once. -/
mutual
def uptoBulk {H : Type} : DataW H → Nat
  | .lit (.string bytes) => bytes.length + 1
  | .lit _ => 1
  | .nil => 1
  | .ptr d => uptoBulk d + 1
  | .slice elems spare => uptoBulkAll elems + uptoBulkAll spare + 1
  | .agg parts => uptoBulkAll parts + 1
  | .iface _ d => uptoBulk d + 1
  | .map entries => uptoBulkEntries entries + 1
  | .held _ => 1
def uptoBulkAll {H : Type} : List (DataW H) → Nat
  | [] => 0
  | d :: r => uptoBulk d + uptoBulkAll r
def uptoBulkEntries {H : Type} : List (Lit × DataW H) → Nat
  | [] => 0
  | x :: r => uptoBulkEntry x + uptoBulkEntries r
def uptoBulkEntry {H : Type} : Lit × DataW H → Nat
  | (.string bytes, d) => bytes.length + uptoBulk d + 1
  | (_, d) => uptoBulk d + 1
 end
def uptoSmall : (H : Type) → List (DataW H) → Bool := fun _ ds => decide (uptoBulkAll ds ≤ 1048576)
def OpenSpec.upto (s : _root_.Go.ChangeSpec) : _root_.Go.OpenSpec := { _root_.Go.OpenSpec.ofChange s with cond := some uptoSmall }

/-- 'tappetlaw11.ClintRises', WHERE WHAT IT READS IS OF BULK AT MOST 1048576: true; the input reads as it did. -/
def clintRisesUptoRow : OpenClaim := { program := "ythgpmdgbgoaldaa", sum := "98d6932fc2f6f91905a53a9baec306558ee70e72d6e1b6b9c6e02bf4ce79a015", func := "tappet/tappetlaw11.ClintRises", spec := "clintRises", apart := false, narrowed := true }
def ClintRisesUptoSaid : Prop := clintRisesUptoRow.holds Try.pinned (OpenSpec.upto clintRisesSpec)

/-- 'tappetlaw11.ClintTime', WHERE WHAT IT READS IS OF BULK AT MOST 1048576: true; the input reads as it did. -/
def clintTimeUptoRow : OpenClaim := { program := "ythgpmdgbgoaldaa", sum := "98d6932fc2f6f91905a53a9baec306558ee70e72d6e1b6b9c6e02bf4ce79a015", func := "tappet/tappetlaw11.ClintTime", spec := "clintTime", apart := false, narrowed := true }
def ClintTimeUptoSaid : Prop := clintTimeUptoRow.holds Try.pinned (OpenSpec.upto clintTimeSpec)

/-- 'tappetlaw11.ClintPlays', WHERE WHAT IT READS IS OF BULK AT MOST 1048576: true; the input reads as it did. -/
def clintPlaysUptoRow : OpenClaim := { program := "ythgpmdgbgoaldaa", sum := "98d6932fc2f6f91905a53a9baec306558ee70e72d6e1b6b9c6e02bf4ce79a015", func := "tappet/tappetlaw11.ClintPlays", spec := "clintPlays", apart := false, narrowed := true }
def ClintPlaysUptoSaid : Prop := clintPlaysUptoRow.holds Try.pinned (OpenSpec.upto clintPlaysSpec)

/-- 'tappetlaw11.ClintNil', WHERE WHAT IT READS IS OF BULK AT MOST 1048576: true; the input reads as it did. -/
def clintNilUptoRow : OpenClaim := { program := "ythgpmdgbgoaldaa", sum := "98d6932fc2f6f91905a53a9baec306558ee70e72d6e1b6b9c6e02bf4ce79a015", func := "tappet/tappetlaw11.ClintNil", spec := "clintNil", apart := false, narrowed := true }
def ClintNilUptoSaid : Prop := clintNilUptoRow.holds Try.pinned (OpenSpec.upto clintNilSpec)

end Rows
end Go.Proofs.Ythgpmdgbgoaldaa
