/-
  No cell of these rows narrows 'for every input' (looked for: loops, veiled, ifaces, maps, wideKeys, modest, calm, conditions, laid).
  DERIVED. THE GIVEN ROWS OF THIS SEAT. 11 by the template 'for every input the law returns true; each argument reads behind the call as it read before'; 0 by the template 'total and deterministic' (their statements: YtlagjhnckdaonaaTotals.lean).
  GIVEN WITH THE SEED: the statements are not yours to turn. If you find one false, say at which input.
  Laid BY PROGRAM, IN A SANDBOX (cutbox-rows.mjs): the forced cells as the released guide's own fill.sh prints them over the translation dfdd92b2e62927fb… (all of the seat's roots in one cut). By AI agents, Wed Nov 11 2026. No macro, syntax, notation, axiom, sorry.
-/
import Derived.Test.YtlagjhnckdaonaaChecked
import GoSem.Claim
import GoSem.ClaimJoined
import GoSem.ClaimMapViews
import Derived.JoinedTies
import Derived.KernelRfl
namespace Go.Proofs.Ytlagjhnckdaonaa
/- THE CELL 'sum', in the pinned program and in every row, IS THE sha256 OF THE DUMP (.gsa) THAT YtlagjhnckdaonaaProg.lean LOADS. Nothing in Lean hashes anything: it is a label: what it is worth is what the hold of that sum in a sandbox is worth. -/
noncomputable def Try.pinned : Pinned := { name := "ytlagjhnckdaonaa", sum := "dfdd92b2e62927fbd7279b78439de5b5bba20f5871fa0df11b9fde5c976c15f8", checked := Try.checked }
namespace Rows
def none {H : Type} : Left H := { results := [], args := [] }

/-- 'tappetlaw07.CsrReads': WHATEVER THE INPUT: true; the input reads as it did. -/
def csrReadsSpec : ChangeSpec := { name := "csrReads", fn := fun _ => fun
  | [d1, d2, d3, d4] => { results := [.lit (.bool true)], args := [d1, d2, d3, d4] }
  | _ => none }
def csrReadsRow : OpenClaim := { program := "ytlagjhnckdaonaa", sum := "dfdd92b2e62927fbd7279b78439de5b5bba20f5871fa0df11b9fde5c976c15f8", func := "tappet/tappetlaw07.CsrReads", spec := "csrReads", apart := false }
def CsrReadsSaid : Prop := csrReadsRow.holds Try.pinned (OpenSpec.ofChange csrReadsSpec)

/-- ITS FALSE NEIGHBOUR: 'it returns false'. Refute it at one input. -/
def csrReadsWrong : ChangeSpec := { name := "csrReads", fn := fun _ => fun
  | [d1, d2, d3, d4] => { results := [.lit (.bool false)], args := [d1, d2, d3, d4] }
  | _ => none }
def CsrReadsWrongFalsely : Prop := csrReadsRow.holds Try.pinned (OpenSpec.ofChange csrReadsWrong)

/-- 'tappetlaw07.CsrWrites': WHATEVER THE INPUT: true; the input reads as it did. -/
def csrWritesSpec : ChangeSpec := { name := "csrWrites", fn := fun _ => fun
  | [d1, d2, d3, d4, d5] => { results := [.lit (.bool true)], args := [d1, d2, d3, d4, d5] }
  | _ => none }
def csrWritesRow : OpenClaim := { program := "ytlagjhnckdaonaa", sum := "dfdd92b2e62927fbd7279b78439de5b5bba20f5871fa0df11b9fde5c976c15f8", func := "tappet/tappetlaw07.CsrWrites", spec := "csrWrites", apart := false }
def CsrWritesSaid : Prop := csrWritesRow.holds Try.pinned (OpenSpec.ofChange csrWritesSpec)

/-- ITS FALSE NEIGHBOUR: 'it returns false'. Refute it at one input. -/
def csrWritesWrong : ChangeSpec := { name := "csrWrites", fn := fun _ => fun
  | [d1, d2, d3, d4, d5] => { results := [.lit (.bool false)], args := [d1, d2, d3, d4, d5] }
  | _ => none }
def CsrWritesWrongFalsely : Prop := csrWritesRow.holds Try.pinned (OpenSpec.ofChange csrWritesWrong)

/-- 'tappetlaw07.CsrViews': WHATEVER THE INPUT: true; the input reads as it did. -/
def csrViewsSpec : ChangeSpec := { name := "csrViews", fn := fun _ => fun
  | [d1, d2, d3] => { results := [.lit (.bool true)], args := [d1, d2, d3] }
  | _ => none }
def csrViewsRow : OpenClaim := { program := "ytlagjhnckdaonaa", sum := "dfdd92b2e62927fbd7279b78439de5b5bba20f5871fa0df11b9fde5c976c15f8", func := "tappet/tappetlaw07.CsrViews", spec := "csrViews", apart := false }
def CsrViewsSaid : Prop := csrViewsRow.holds Try.pinned (OpenSpec.ofChange csrViewsSpec)

/-- ITS FALSE NEIGHBOUR: 'it returns false'. Refute it at one input. -/
def csrViewsWrong : ChangeSpec := { name := "csrViews", fn := fun _ => fun
  | [d1, d2, d3] => { results := [.lit (.bool false)], args := [d1, d2, d3] }
  | _ => none }
def CsrViewsWrongFalsely : Prop := csrViewsRow.holds Try.pinned (OpenSpec.ofChange csrViewsWrong)

/-- 'tappetlaw07.CsrHigher': WHATEVER THE INPUT: true; the input reads as it did. -/
def csrHigherSpec : ChangeSpec := { name := "csrHigher", fn := fun _ => fun
  | [d1, d2, d3, d4] => { results := [.lit (.bool true)], args := [d1, d2, d3, d4] }
  | _ => none }
def csrHigherRow : OpenClaim := { program := "ytlagjhnckdaonaa", sum := "dfdd92b2e62927fbd7279b78439de5b5bba20f5871fa0df11b9fde5c976c15f8", func := "tappet/tappetlaw07.CsrHigher", spec := "csrHigher", apart := false }
def CsrHigherSaid : Prop := csrHigherRow.holds Try.pinned (OpenSpec.ofChange csrHigherSpec)

/-- ITS FALSE NEIGHBOUR: 'it returns false'. Refute it at one input. -/
def csrHigherWrong : ChangeSpec := { name := "csrHigher", fn := fun _ => fun
  | [d1, d2, d3, d4] => { results := [.lit (.bool false)], args := [d1, d2, d3, d4] }
  | _ => none }
def CsrHigherWrongFalsely : Prop := csrHigherRow.holds Try.pinned (OpenSpec.ofChange csrHigherWrong)

/-- 'tappetlaw07.CsrTime': WHATEVER THE INPUT: true; the input reads as it did. -/
def csrTimeSpec : ChangeSpec := { name := "csrTime", fn := fun _ => fun
  | [d1, d2, d3, d4, d5] => { results := [.lit (.bool true)], args := [d1, d2, d3, d4, d5] }
  | _ => none }
def csrTimeRow : OpenClaim := { program := "ytlagjhnckdaonaa", sum := "dfdd92b2e62927fbd7279b78439de5b5bba20f5871fa0df11b9fde5c976c15f8", func := "tappet/tappetlaw07.CsrTime", spec := "csrTime", apart := false }
def CsrTimeSaid : Prop := csrTimeRow.holds Try.pinned (OpenSpec.ofChange csrTimeSpec)

/-- ITS FALSE NEIGHBOUR: 'it returns false'. Refute it at one input. -/
def csrTimeWrong : ChangeSpec := { name := "csrTime", fn := fun _ => fun
  | [d1, d2, d3, d4, d5] => { results := [.lit (.bool false)], args := [d1, d2, d3, d4, d5] }
  | _ => none }
def CsrTimeWrongFalsely : Prop := csrTimeRow.holds Try.pinned (OpenSpec.ofChange csrTimeWrong)

/-- 'tappetlaw07.CsrOthers': WHATEVER THE INPUT: true; the input reads as it did. -/
def csrOthersSpec : ChangeSpec := { name := "csrOthers", fn := fun _ => fun
  | [d1, d2, d3, d4, d5] => { results := [.lit (.bool true)], args := [d1, d2, d3, d4, d5] }
  | _ => none }
def csrOthersRow : OpenClaim := { program := "ytlagjhnckdaonaa", sum := "dfdd92b2e62927fbd7279b78439de5b5bba20f5871fa0df11b9fde5c976c15f8", func := "tappet/tappetlaw07.CsrOthers", spec := "csrOthers", unfollowed := true, recurses := true, apart := false }
def CsrOthersSaid : Prop := csrOthersRow.holds Try.pinned (OpenSpec.ofChange csrOthersSpec)

/-- ITS FALSE NEIGHBOUR: 'it returns false'. Refute it at one input. -/
def csrOthersWrong : ChangeSpec := { name := "csrOthers", fn := fun _ => fun
  | [d1, d2, d3, d4, d5] => { results := [.lit (.bool false)], args := [d1, d2, d3, d4, d5] }
  | _ => none }
def CsrOthersWrongFalsely : Prop := csrOthersRow.holds Try.pinned (OpenSpec.ofChange csrOthersWrong)

/-- 'tappetlaw07.CsrCounts': WHATEVER THE INPUT: true; the input reads as it did. -/
def csrCountsSpec : ChangeSpec := { name := "csrCounts", fn := fun _ => fun
  | [d1, d2, d3, d4] => { results := [.lit (.bool true)], args := [d1, d2, d3, d4] }
  | _ => none }
def csrCountsRow : OpenClaim := { program := "ytlagjhnckdaonaa", sum := "dfdd92b2e62927fbd7279b78439de5b5bba20f5871fa0df11b9fde5c976c15f8", func := "tappet/tappetlaw07.CsrCounts", spec := "csrCounts", apart := false }
def CsrCountsSaid : Prop := csrCountsRow.holds Try.pinned (OpenSpec.ofChange csrCountsSpec)

/-- ITS FALSE NEIGHBOUR: 'it returns false'. Refute it at one input. -/
def csrCountsWrong : ChangeSpec := { name := "csrCounts", fn := fun _ => fun
  | [d1, d2, d3, d4] => { results := [.lit (.bool false)], args := [d1, d2, d3, d4] }
  | _ => none }
def CsrCountsWrongFalsely : Prop := csrCountsRow.holds Try.pinned (OpenSpec.ofChange csrCountsWrong)

/-- 'tappetlaw07.CsrModifies': WHATEVER THE INPUT: true; the input reads as it did. -/
def csrModifiesSpec : ChangeSpec := { name := "csrModifies", fn := fun _ => fun
  | [d1, d2] => { results := [.lit (.bool true)], args := [d1, d2] }
  | _ => none }
def csrModifiesRow : OpenClaim := { program := "ytlagjhnckdaonaa", sum := "dfdd92b2e62927fbd7279b78439de5b5bba20f5871fa0df11b9fde5c976c15f8", func := "tappet/tappetlaw07.CsrModifies", spec := "csrModifies", apart := false }
def CsrModifiesSaid : Prop := csrModifiesRow.holds Try.pinned (OpenSpec.ofChange csrModifiesSpec)

/-- ITS FALSE NEIGHBOUR: 'it returns false'. Refute it at one input. -/
def csrModifiesWrong : ChangeSpec := { name := "csrModifies", fn := fun _ => fun
  | [d1, d2] => { results := [.lit (.bool false)], args := [d1, d2] }
  | _ => none }
def CsrModifiesWrongFalsely : Prop := csrModifiesRow.holds Try.pinned (OpenSpec.ofChange csrModifiesWrong)

/-- 'tappetlaw07.CsrKeeps': WHATEVER THE INPUT: true; the input reads as it did. -/
def csrKeepsSpec : ChangeSpec := { name := "csrKeeps", fn := fun _ => fun
  | [d] => { results := [.lit (.bool true)], args := [d] }
  | _ => none }
def csrKeepsRow : OpenClaim := { program := "ytlagjhnckdaonaa", sum := "dfdd92b2e62927fbd7279b78439de5b5bba20f5871fa0df11b9fde5c976c15f8", func := "tappet/tappetlaw07.CsrKeeps", spec := "csrKeeps", apart := false }
def CsrKeepsSaid : Prop := csrKeepsRow.holds Try.pinned (OpenSpec.ofChange csrKeepsSpec)

/-- ITS FALSE NEIGHBOUR: 'it returns false'. Refute it at one input. -/
def csrKeepsWrong : ChangeSpec := { name := "csrKeeps", fn := fun _ => fun
  | [d] => { results := [.lit (.bool false)], args := [d] }
  | _ => none }
def CsrKeepsWrongFalsely : Prop := csrKeepsRow.holds Try.pinned (OpenSpec.ofChange csrKeepsWrong)

/-- 'tappetlaw07.CsrBack': WHATEVER THE INPUT: true; the input reads as it did. -/
def csrBackSpec : ChangeSpec := { name := "csrBack", fn := fun _ => fun
  | [d1, d2, d3, d4] => { results := [.lit (.bool true)], args := [d1, d2, d3, d4] }
  | _ => none }
def csrBackRow : OpenClaim := { program := "ytlagjhnckdaonaa", sum := "dfdd92b2e62927fbd7279b78439de5b5bba20f5871fa0df11b9fde5c976c15f8", func := "tappet/tappetlaw07.CsrBack", spec := "csrBack", apart := false }
def CsrBackSaid : Prop := csrBackRow.holds Try.pinned (OpenSpec.ofChange csrBackSpec)

/-- ITS FALSE NEIGHBOUR: 'it returns false'. Refute it at one input. -/
def csrBackWrong : ChangeSpec := { name := "csrBack", fn := fun _ => fun
  | [d1, d2, d3, d4] => { results := [.lit (.bool false)], args := [d1, d2, d3, d4] }
  | _ => none }
def CsrBackWrongFalsely : Prop := csrBackRow.holds Try.pinned (OpenSpec.ofChange csrBackWrong)

/-- 'tappetlaw07.CsrBits': WHATEVER THE INPUT: true; the input reads as it did. -/
def csrBitsSpec : ChangeSpec := { name := "csrBits", fn := fun _ => fun
  | [d1, d2, d3, d4, d5] => { results := [.lit (.bool true)], args := [d1, d2, d3, d4, d5] }
  | _ => none }
def csrBitsRow : OpenClaim := { program := "ytlagjhnckdaonaa", sum := "dfdd92b2e62927fbd7279b78439de5b5bba20f5871fa0df11b9fde5c976c15f8", func := "tappet/tappetlaw07.CsrBits", spec := "csrBits", apart := false }
def CsrBitsSaid : Prop := csrBitsRow.holds Try.pinned (OpenSpec.ofChange csrBitsSpec)

/-- ITS FALSE NEIGHBOUR: 'it returns false'. Refute it at one input. -/
def csrBitsWrong : ChangeSpec := { name := "csrBits", fn := fun _ => fun
  | [d1, d2, d3, d4, d5] => { results := [.lit (.bool false)], args := [d1, d2, d3, d4, d5] }
  | _ => none }
def CsrBitsWrongFalsely : Prop := csrBitsRow.holds Try.pinned (OpenSpec.ofChange csrBitsWrong)

/- THE SECOND FORM. 'bulk': how many values and letters a reading holds, each counted each time it is reached (what is shared counts as often as it is met; a slice's spare places count too). A statement '..UptoSaid' is the law's where the arguments, and the package variables that the reading takes, are together of bulk at most 1048576: NARROWER than '..Said'. Prove '..Said' where nothing that the law and all that it calls make is longer than what came in: it says more and counts as full. Else prove '..UptoSaid'. A law counts once. -/
mutual
def uptoBulk {H : Type} : DataW H → Nat
  | .lit (.string bytes) => bytes.length + 1
  | .lit _ => 1
  | .nil => 1
  | .ptr d => uptoBulk d + 1
  | .slice elems spare => uptoBulkAll elems + uptoBulkAll spare + 1
  | .agg parts => uptoBulkAll parts + 1
  | .iface _ d => uptoBulk d + 1
  | .map entries => uptoBulkEntries entries + 1
  | .held _ => 1
def uptoBulkAll {H : Type} : List (DataW H) → Nat
  | [] => 0
  | d :: r => uptoBulk d + uptoBulkAll r
def uptoBulkEntries {H : Type} : List (Lit × DataW H) → Nat
  | [] => 0
  | x :: r => uptoBulkEntry x + uptoBulkEntries r
def uptoBulkEntry {H : Type} : Lit × DataW H → Nat
  | (.string bytes, d) => bytes.length + uptoBulk d + 1
  | (_, d) => uptoBulk d + 1
 end
def uptoSmall : (H : Type) → List (DataW H) → Bool := fun _ ds => decide (uptoBulkAll ds ≤ 1048576)
def OpenSpec.upto (s : _root_.Go.ChangeSpec) : _root_.Go.OpenSpec := { _root_.Go.OpenSpec.ofChange s with cond := some uptoSmall }

/-- 'tappetlaw07.CsrReads', WHERE WHAT IT READS IS OF BULK AT MOST 1048576: true; the input reads as it did. -/
def csrReadsUptoRow : OpenClaim := { program := "ytlagjhnckdaonaa", sum := "dfdd92b2e62927fbd7279b78439de5b5bba20f5871fa0df11b9fde5c976c15f8", func := "tappet/tappetlaw07.CsrReads", spec := "csrReads", apart := false, narrowed := true }
def CsrReadsUptoSaid : Prop := csrReadsUptoRow.holds Try.pinned (OpenSpec.upto csrReadsSpec)

/-- 'tappetlaw07.CsrWrites', WHERE WHAT IT READS IS OF BULK AT MOST 1048576: true; the input reads as it did. -/
def csrWritesUptoRow : OpenClaim := { program := "ytlagjhnckdaonaa", sum := "dfdd92b2e62927fbd7279b78439de5b5bba20f5871fa0df11b9fde5c976c15f8", func := "tappet/tappetlaw07.CsrWrites", spec := "csrWrites", apart := false, narrowed := true }
def CsrWritesUptoSaid : Prop := csrWritesUptoRow.holds Try.pinned (OpenSpec.upto csrWritesSpec)

/-- 'tappetlaw07.CsrViews', WHERE WHAT IT READS IS OF BULK AT MOST 1048576: true; the input reads as it did. -/
def csrViewsUptoRow : OpenClaim := { program := "ytlagjhnckdaonaa", sum := "dfdd92b2e62927fbd7279b78439de5b5bba20f5871fa0df11b9fde5c976c15f8", func := "tappet/tappetlaw07.CsrViews", spec := "csrViews", apart := false, narrowed := true }
def CsrViewsUptoSaid : Prop := csrViewsUptoRow.holds Try.pinned (OpenSpec.upto csrViewsSpec)

/-- 'tappetlaw07.CsrHigher', WHERE WHAT IT READS IS OF BULK AT MOST 1048576: true; the input reads as it did. -/
def csrHigherUptoRow : OpenClaim := { program := "ytlagjhnckdaonaa", sum := "dfdd92b2e62927fbd7279b78439de5b5bba20f5871fa0df11b9fde5c976c15f8", func := "tappet/tappetlaw07.CsrHigher", spec := "csrHigher", apart := false, narrowed := true }
def CsrHigherUptoSaid : Prop := csrHigherUptoRow.holds Try.pinned (OpenSpec.upto csrHigherSpec)

/-- 'tappetlaw07.CsrTime', WHERE WHAT IT READS IS OF BULK AT MOST 1048576: true; the input reads as it did. -/
def csrTimeUptoRow : OpenClaim := { program := "ytlagjhnckdaonaa", sum := "dfdd92b2e62927fbd7279b78439de5b5bba20f5871fa0df11b9fde5c976c15f8", func := "tappet/tappetlaw07.CsrTime", spec := "csrTime", apart := false, narrowed := true }
def CsrTimeUptoSaid : Prop := csrTimeUptoRow.holds Try.pinned (OpenSpec.upto csrTimeSpec)

/-- 'tappetlaw07.CsrOthers', WHERE WHAT IT READS IS OF BULK AT MOST 1048576: true; the input reads as it did. -/
def csrOthersUptoRow : OpenClaim := { program := "ytlagjhnckdaonaa", sum := "dfdd92b2e62927fbd7279b78439de5b5bba20f5871fa0df11b9fde5c976c15f8", func := "tappet/tappetlaw07.CsrOthers", spec := "csrOthers", unfollowed := true, recurses := true, apart := false, narrowed := true }
def CsrOthersUptoSaid : Prop := csrOthersUptoRow.holds Try.pinned (OpenSpec.upto csrOthersSpec)

/-- 'tappetlaw07.CsrCounts', WHERE WHAT IT READS IS OF BULK AT MOST 1048576: true; the input reads as it did. -/
def csrCountsUptoRow : OpenClaim := { program := "ytlagjhnckdaonaa", sum := "dfdd92b2e62927fbd7279b78439de5b5bba20f5871fa0df11b9fde5c976c15f8", func := "tappet/tappetlaw07.CsrCounts", spec := "csrCounts", apart := false, narrowed := true }
def CsrCountsUptoSaid : Prop := csrCountsUptoRow.holds Try.pinned (OpenSpec.upto csrCountsSpec)

/-- 'tappetlaw07.CsrModifies', WHERE WHAT IT READS IS OF BULK AT MOST 1048576: true; the input reads as it did. -/
def csrModifiesUptoRow : OpenClaim := { program := "ytlagjhnckdaonaa", sum := "dfdd92b2e62927fbd7279b78439de5b5bba20f5871fa0df11b9fde5c976c15f8", func := "tappet/tappetlaw07.CsrModifies", spec := "csrModifies", apart := false, narrowed := true }
def CsrModifiesUptoSaid : Prop := csrModifiesUptoRow.holds Try.pinned (OpenSpec.upto csrModifiesSpec)

/-- 'tappetlaw07.CsrKeeps', WHERE WHAT IT READS IS OF BULK AT MOST 1048576: true; the input reads as it did. -/
def csrKeepsUptoRow : OpenClaim := { program := "ytlagjhnckdaonaa", sum := "dfdd92b2e62927fbd7279b78439de5b5bba20f5871fa0df11b9fde5c976c15f8", func := "tappet/tappetlaw07.CsrKeeps", spec := "csrKeeps", apart := false, narrowed := true }
def CsrKeepsUptoSaid : Prop := csrKeepsUptoRow.holds Try.pinned (OpenSpec.upto csrKeepsSpec)

/-- 'tappetlaw07.CsrBack', WHERE WHAT IT READS IS OF BULK AT MOST 1048576: true; the input reads as it did. -/
def csrBackUptoRow : OpenClaim := { program := "ytlagjhnckdaonaa", sum := "dfdd92b2e62927fbd7279b78439de5b5bba20f5871fa0df11b9fde5c976c15f8", func := "tappet/tappetlaw07.CsrBack", spec := "csrBack", apart := false, narrowed := true }
def CsrBackUptoSaid : Prop := csrBackUptoRow.holds Try.pinned (OpenSpec.upto csrBackSpec)

/-- 'tappetlaw07.CsrBits', WHERE WHAT IT READS IS OF BULK AT MOST 1048576: true; the input reads as it did. -/
def csrBitsUptoRow : OpenClaim := { program := "ytlagjhnckdaonaa", sum := "dfdd92b2e62927fbd7279b78439de5b5bba20f5871fa0df11b9fde5c976c15f8", func := "tappet/tappetlaw07.CsrBits", spec := "csrBits", apart := false, narrowed := true }
def CsrBitsUptoSaid : Prop := csrBitsUptoRow.holds Try.pinned (OpenSpec.upto csrBitsSpec)

end Rows
end Go.Proofs.Ytlagjhnckdaonaa
