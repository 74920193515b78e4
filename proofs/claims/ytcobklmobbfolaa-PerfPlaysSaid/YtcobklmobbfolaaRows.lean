/-
  No cell of these rows narrows 'for every input' (looked for: loops, veiled, ifaces, maps, wideKeys, modest, calm, conditions, laid).
  DERIVED. THE GIVEN ROWS OF THIS SEAT. 3 by the template 'for every input the law returns true; each argument reads behind the call as it read before'; 0 by the template 'total and deterministic' (their statements: YtcobklmobbfolaaTotals.lean).
  GIVEN WITH THE SEED: the statements are not yours to turn. If you find one false, say at which input.
  Laid BY PROGRAM, IN A SANDBOX (cutbox-rows.mjs): the forced cells as the released guide's own fill.sh prints them over the translation 44d45a99b45b6284… (all of the seat's roots in one cut). By AI agents, Wed Nov 11 2026. No macro, syntax, notation, axiom, sorry.
-/
import Derived.Test.YtcobklmobbfolaaChecked
import GoSem.Claim
import GoSem.ClaimJoined
import GoSem.ClaimMapViews
import Derived.JoinedTies
import Derived.KernelRfl
namespace Go.Proofs.Ytcobklmobbfolaa
/- THE CELL 'sum', in the pinned program and in every row, IS THE sha256 OF THE DUMP (.gsa) THAT YtcobklmobbfolaaProg.lean LOADS. Nothing in Lean hashes anything: it is a label: what it is worth is what the hold of that sum in a sandbox is worth. -/
noncomputable def Try.pinned : Pinned := { name := "ytcobklmobbfolaa", sum := "44d45a99b45b6284c4824a84f2aa1f6d135bacbcc9d2ad688accd64a317ede8b", checked := Try.checked }
namespace Rows
def none {H : Type} : Left H := { results := [], args := [] }

/-- 'tappetlaw29.PerfPlays': WHATEVER THE INPUT: true; the input reads as it did. -/
def perfPlaysSpec : ChangeSpec := { name := "perfPlays", fn := fun _ => fun
  | [d] => { results := [.lit (.bool true)], args := [d] }
  | _ => none }
def perfPlaysRow : OpenClaim := { program := "ytcobklmobbfolaa", sum := "44d45a99b45b6284c4824a84f2aa1f6d135bacbcc9d2ad688accd64a317ede8b", func := "tappet/tappetlaw29.PerfPlays", spec := "perfPlays", apart := false }
def PerfPlaysSaid : Prop := perfPlaysRow.holds Try.pinned (OpenSpec.ofChange perfPlaysSpec)

/-- ITS FALSE NEIGHBOUR: 'it returns false'. Refute it at one input. -/
def perfPlaysWrong : ChangeSpec := { name := "perfPlays", fn := fun _ => fun
  | [d] => { results := [.lit (.bool false)], args := [d] }
  | _ => none }
def PerfPlaysWrongFalsely : Prop := perfPlaysRow.holds Try.pinned (OpenSpec.ofChange perfPlaysWrong)

/-- 'tappetlaw29.PerfSums': WHATEVER THE INPUT: true; the input reads as it did. -/
def perfSumsSpec : ChangeSpec := { name := "perfSums", fn := fun _ => fun
  | [d] => { results := [.lit (.bool true)], args := [d] }
  | _ => none }
def perfSumsRow : OpenClaim := { program := "ytcobklmobbfolaa", sum := "44d45a99b45b6284c4824a84f2aa1f6d135bacbcc9d2ad688accd64a317ede8b", func := "tappet/tappetlaw29.PerfSums", spec := "perfSums", apart := false }
def PerfSumsSaid : Prop := perfSumsRow.holds Try.pinned (OpenSpec.ofChange perfSumsSpec)

/-- ITS FALSE NEIGHBOUR: 'it returns false'. Refute it at one input. -/
def perfSumsWrong : ChangeSpec := { name := "perfSums", fn := fun _ => fun
  | [d] => { results := [.lit (.bool false)], args := [d] }
  | _ => none }
def PerfSumsWrongFalsely : Prop := perfSumsRow.holds Try.pinned (OpenSpec.ofChange perfSumsWrong)

/-- 'tappetlaw29.PerfNil': WHATEVER THE INPUT: true; the input reads as it did. -/
def perfNilSpec : ChangeSpec := { name := "perfNil", fn := fun _ => fun
  | [d1, d2, d3] => { results := [.lit (.bool true)], args := [d1, d2, d3] }
  | _ => none }
def perfNilRow : OpenClaim := { program := "ytcobklmobbfolaa", sum := "44d45a99b45b6284c4824a84f2aa1f6d135bacbcc9d2ad688accd64a317ede8b", func := "tappet/tappetlaw29.PerfNil", spec := "perfNil", apart := false }
def PerfNilSaid : Prop := perfNilRow.holds Try.pinned (OpenSpec.ofChange perfNilSpec)

/-- ITS FALSE NEIGHBOUR: 'it returns false'. Refute it at one input. -/
def perfNilWrong : ChangeSpec := { name := "perfNil", fn := fun _ => fun
  | [d1, d2, d3] => { results := [.lit (.bool false)], args := [d1, d2, d3] }
  | _ => none }
def PerfNilWrongFalsely : Prop := perfNilRow.holds Try.pinned (OpenSpec.ofChange perfNilWrong)

/- THE SECOND FORM. 'bulk': how many values and letters a reading holds, each counted each time it is reached (what is shared counts as often as it is met; a slice's spare places count too). A statement '..UptoSaid' is the law's where the arguments, and the package variables that the reading takes, are together of bulk at most 1048576: NARROWER than '..Said'. Prove '..Said' where nothing that the law and all that it calls make is longer than what came in: it says more and counts as full. Else prove '..UptoSaid'. A law counts once. -/
mutual
def uptoBulk {H : Type} : DataW H → Nat
  | .lit (.string bytes) => bytes.length + 1
  | .lit _ => 1
  | .nil => 1
  | .ptr d => uptoBulk d + 1
  | .slice elems spare => uptoBulkAll elems + uptoBulkAll spare + 1
  | .agg parts => uptoBulkAll parts + 1
  | .iface _ d => uptoBulk d + 1
  | .map entries => uptoBulkEntries entries + 1
  | .held _ => 1
def uptoBulkAll {H : Type} : List (DataW H) → Nat
  | [] => 0
  | d :: r => uptoBulk d + uptoBulkAll r
def uptoBulkEntries {H : Type} : List (Lit × DataW H) → Nat
  | [] => 0
  | x :: r => uptoBulkEntry x + uptoBulkEntries r
def uptoBulkEntry {H : Type} : Lit × DataW H → Nat
  | (.string bytes, d) => bytes.length + uptoBulk d + 1
  | (_, d) => uptoBulk d + 1
 end
def uptoSmall : (H : Type) → List (DataW H) → Bool := fun _ ds => decide (uptoBulkAll ds ≤ 1048576)
def OpenSpec.upto (s : _root_.Go.ChangeSpec) : _root_.Go.OpenSpec := { _root_.Go.OpenSpec.ofChange s with cond := some uptoSmall }

/-- 'tappetlaw29.PerfPlays', WHERE WHAT IT READS IS OF BULK AT MOST 1048576: true; the input reads as it did. -/
def perfPlaysUptoRow : OpenClaim := { program := "ytcobklmobbfolaa", sum := "44d45a99b45b6284c4824a84f2aa1f6d135bacbcc9d2ad688accd64a317ede8b", func := "tappet/tappetlaw29.PerfPlays", spec := "perfPlays", apart := false, narrowed := true }
def PerfPlaysUptoSaid : Prop := perfPlaysUptoRow.holds Try.pinned (OpenSpec.upto perfPlaysSpec)

/-- 'tappetlaw29.PerfSums', WHERE WHAT IT READS IS OF BULK AT MOST 1048576: true; the input reads as it did. -/
def perfSumsUptoRow : OpenClaim := { program := "ytcobklmobbfolaa", sum := "44d45a99b45b6284c4824a84f2aa1f6d135bacbcc9d2ad688accd64a317ede8b", func := "tappet/tappetlaw29.PerfSums", spec := "perfSums", apart := false, narrowed := true }
def PerfSumsUptoSaid : Prop := perfSumsUptoRow.holds Try.pinned (OpenSpec.upto perfSumsSpec)

/-- 'tappetlaw29.PerfNil', WHERE WHAT IT READS IS OF BULK AT MOST 1048576: true; the input reads as it did. -/
def perfNilUptoRow : OpenClaim := { program := "ytcobklmobbfolaa", sum := "44d45a99b45b6284c4824a84f2aa1f6d135bacbcc9d2ad688accd64a317ede8b", func := "tappet/tappetlaw29.PerfNil", spec := "perfNil", apart := false, narrowed := true }
def PerfNilUptoSaid : Prop := perfNilUptoRow.holds Try.pinned (OpenSpec.upto perfNilSpec)

end Rows
end Go.Proofs.Ytcobklmobbfolaa
