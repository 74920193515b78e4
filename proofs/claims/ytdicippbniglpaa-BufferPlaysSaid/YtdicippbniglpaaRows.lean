/-
  No cell of these rows narrows 'for every input' (looked for: loops, veiled, ifaces, maps, wideKeys, modest, calm, conditions, laid).
  DERIVED. THE GIVEN ROWS OF THIS SEAT. 4 by the template 'for every input the law returns true; each argument reads behind the call as it read before'; 0 by the template 'total and deterministic' (their statements: YtdicippbniglpaaTotals.lean).
  GIVEN WITH THE SEED: the statements are not yours to turn. If you find one false, say at which input.
  Laid BY PROGRAM, IN A SANDBOX (cutbox-rows.mjs): the forced cells as the released guide's own fill.sh prints them over the translation 899bdb34db618bf3… (all of the seat's roots in one cut). By AI agents, Wed Nov 11 2026. No macro, syntax, notation, axiom, sorry.
-/
import Derived.Test.YtdicippbniglpaaChecked
import GoSem.Claim
import GoSem.ClaimJoined
import GoSem.ClaimMapViews
import Derived.JoinedTies
import Derived.KernelRfl
namespace Go.Proofs.Ytdicippbniglpaa
/- THE CELL 'sum', in the pinned program and in every row, IS THE sha256 OF THE DUMP (.gsa) THAT YtdicippbniglpaaProg.lean LOADS. Nothing in Lean hashes anything: it is a label: what it is worth is what the hold of that sum in a sandbox is worth. -/
noncomputable def Try.pinned : Pinned := { name := "ytdicippbniglpaa", sum := "899bdb34db618bf39a540c254d88defa4de51f34bd13fb315596daf42b13887a", checked := Try.checked }
namespace Rows
def none {H : Type} : Left H := { results := [], args := [] }

/-- 'tappetlaw19.MshrPlays': WHATEVER THE INPUT: true; the input reads as it did. -/
def mshrPlaysSpec : ChangeSpec := { name := "mshrPlays", fn := fun _ => fun
  | [d1, d2] => { results := [.lit (.bool true)], args := [d1, d2] }
  | _ => none }
def mshrPlaysRow : OpenClaim := { program := "ytdicippbniglpaa", sum := "899bdb34db618bf39a540c254d88defa4de51f34bd13fb315596daf42b13887a", func := "tappet/tappetlaw19.MshrPlays", spec := "mshrPlays", unfollowed := true, recurses := true, apart := false }
def MshrPlaysSaid : Prop := mshrPlaysRow.holds Try.pinned (OpenSpec.ofChange mshrPlaysSpec)

/-- ITS FALSE NEIGHBOUR: 'it returns false'. Refute it at one input. -/
def mshrPlaysWrong : ChangeSpec := { name := "mshrPlays", fn := fun _ => fun
  | [d1, d2] => { results := [.lit (.bool false)], args := [d1, d2] }
  | _ => none }
def MshrPlaysWrongFalsely : Prop := mshrPlaysRow.holds Try.pinned (OpenSpec.ofChange mshrPlaysWrong)

/-- 'tappetlaw19.MshrWaits': WHATEVER THE INPUT: true; the input reads as it did. -/
def mshrWaitsSpec : ChangeSpec := { name := "mshrWaits", fn := fun _ => fun
  | [d] => { results := [.lit (.bool true)], args := [d] }
  | _ => none }
def mshrWaitsRow : OpenClaim := { program := "ytdicippbniglpaa", sum := "899bdb34db618bf39a540c254d88defa4de51f34bd13fb315596daf42b13887a", func := "tappet/tappetlaw19.MshrWaits", spec := "mshrWaits", unfollowed := true, recurses := true, apart := false }
def MshrWaitsSaid : Prop := mshrWaitsRow.holds Try.pinned (OpenSpec.ofChange mshrWaitsSpec)

/-- ITS FALSE NEIGHBOUR: 'it returns false'. Refute it at one input. -/
def mshrWaitsWrong : ChangeSpec := { name := "mshrWaits", fn := fun _ => fun
  | [d] => { results := [.lit (.bool false)], args := [d] }
  | _ => none }
def MshrWaitsWrongFalsely : Prop := mshrWaitsRow.holds Try.pinned (OpenSpec.ofChange mshrWaitsWrong)

/-- 'tappetlaw19.BufferPlays': WHATEVER THE INPUT: true; the input reads as it did. -/
def bufferPlaysSpec : ChangeSpec := { name := "bufferPlays", fn := fun _ => fun
  | [d1, d2] => { results := [.lit (.bool true)], args := [d1, d2] }
  | _ => none }
def bufferPlaysRow : OpenClaim := { program := "ytdicippbniglpaa", sum := "899bdb34db618bf39a540c254d88defa4de51f34bd13fb315596daf42b13887a", func := "tappet/tappetlaw19.BufferPlays", spec := "bufferPlays", unfollowed := true, recurses := true, apart := false }
def BufferPlaysSaid : Prop := bufferPlaysRow.holds Try.pinned (OpenSpec.ofChange bufferPlaysSpec)

/-- ITS FALSE NEIGHBOUR: 'it returns false'. Refute it at one input. -/
def bufferPlaysWrong : ChangeSpec := { name := "bufferPlays", fn := fun _ => fun
  | [d1, d2] => { results := [.lit (.bool false)], args := [d1, d2] }
  | _ => none }
def BufferPlaysWrongFalsely : Prop := bufferPlaysRow.holds Try.pinned (OpenSpec.ofChange bufferPlaysWrong)

/-- 'tappetlaw19.MshrNil': WHATEVER THE INPUT: true; the input reads as it did. -/
def mshrNilSpec : ChangeSpec := { name := "mshrNil", fn := fun _ => fun
  | [d1, d2, d3] => { results := [.lit (.bool true)], args := [d1, d2, d3] }
  | _ => none }
def mshrNilRow : OpenClaim := { program := "ytdicippbniglpaa", sum := "899bdb34db618bf39a540c254d88defa4de51f34bd13fb315596daf42b13887a", func := "tappet/tappetlaw19.MshrNil", spec := "mshrNil", unfollowed := true, recurses := true, apart := false }
def MshrNilSaid : Prop := mshrNilRow.holds Try.pinned (OpenSpec.ofChange mshrNilSpec)

/-- ITS FALSE NEIGHBOUR: 'it returns false'. Refute it at one input. -/
def mshrNilWrong : ChangeSpec := { name := "mshrNil", fn := fun _ => fun
  | [d1, d2, d3] => { results := [.lit (.bool false)], args := [d1, d2, d3] }
  | _ => none }
def MshrNilWrongFalsely : Prop := mshrNilRow.holds Try.pinned (OpenSpec.ofChange mshrNilWrong)

/- THE SECOND FORM. 'bulk': how many values and letters a reading holds, each counted each time it is reached (what is shared counts as often as it is met; a slice's spare places count too). A statement '..UptoSaid' is the law's where the arguments, and the package variables that the reading takes, are together of bulk at most 1048576: NARROWER than '..Said'. Prove '..Said' where nothing that the law and all that it calls make is longer than what came in: it says more and counts as full. Else prove '..UptoSaid'. A law counts once. -/
mutual
def uptoBulk {H : Type} : DataW H → Nat
  | .lit (.string bytes) => bytes.length + 1
  | .lit _ => 1
  | .nil => 1
  | .ptr d => uptoBulk d + 1
  | .slice elems spare => uptoBulkAll elems + uptoBulkAll spare + 1
  | .agg parts => uptoBulkAll parts + 1
  | .iface _ d => uptoBulk d + 1
  | .map entries => uptoBulkEntries entries + 1
  | .held _ => 1
def uptoBulkAll {H : Type} : List (DataW H) → Nat
  | [] => 0
  | d :: r => uptoBulk d + uptoBulkAll r
def uptoBulkEntries {H : Type} : List (Lit × DataW H) → Nat
  | [] => 0
  | x :: r => uptoBulkEntry x + uptoBulkEntries r
def uptoBulkEntry {H : Type} : Lit × DataW H → Nat
  | (.string bytes, d) => bytes.length + uptoBulk d + 1
  | (_, d) => uptoBulk d + 1
 end
def uptoSmall : (H : Type) → List (DataW H) → Bool := fun _ ds => decide (uptoBulkAll ds ≤ 1048576)
def OpenSpec.upto (s : _root_.Go.ChangeSpec) : _root_.Go.OpenSpec := { _root_.Go.OpenSpec.ofChange s with cond := some uptoSmall }

/-- 'tappetlaw19.MshrPlays', WHERE WHAT IT READS IS OF BULK AT MOST 1048576: true; the input reads as it did. -/
def mshrPlaysUptoRow : OpenClaim := { program := "ytdicippbniglpaa", sum := "899bdb34db618bf39a540c254d88defa4de51f34bd13fb315596daf42b13887a", func := "tappet/tappetlaw19.MshrPlays", spec := "mshrPlays", unfollowed := true, recurses := true, apart := false, narrowed := true }
def MshrPlaysUptoSaid : Prop := mshrPlaysUptoRow.holds Try.pinned (OpenSpec.upto mshrPlaysSpec)

/-- 'tappetlaw19.MshrWaits', WHERE WHAT IT READS IS OF BULK AT MOST 1048576: true; the input reads as it did. -/
def mshrWaitsUptoRow : OpenClaim := { program := "ytdicippbniglpaa", sum := "899bdb34db618bf39a540c254d88defa4de51f34bd13fb315596daf42b13887a", func := "tappet/tappetlaw19.MshrWaits", spec := "mshrWaits", unfollowed := true, recurses := true, apart := false, narrowed := true }
def MshrWaitsUptoSaid : Prop := mshrWaitsUptoRow.holds Try.pinned (OpenSpec.upto mshrWaitsSpec)

/-- 'tappetlaw19.BufferPlays', WHERE WHAT IT READS IS OF BULK AT MOST 1048576: true; the input reads as it did. -/
def bufferPlaysUptoRow : OpenClaim := { program := "ytdicippbniglpaa", sum := "899bdb34db618bf39a540c254d88defa4de51f34bd13fb315596daf42b13887a", func := "tappet/tappetlaw19.BufferPlays", spec := "bufferPlays", unfollowed := true, recurses := true, apart := false, narrowed := true }
def BufferPlaysUptoSaid : Prop := bufferPlaysUptoRow.holds Try.pinned (OpenSpec.upto bufferPlaysSpec)

/-- 'tappetlaw19.MshrNil', WHERE WHAT IT READS IS OF BULK AT MOST 1048576: true; the input reads as it did. -/
def mshrNilUptoRow : OpenClaim := { program := "ytdicippbniglpaa", sum := "899bdb34db618bf39a540c254d88defa4de51f34bd13fb315596daf42b13887a", func := "tappet/tappetlaw19.MshrNil", spec := "mshrNil", unfollowed := true, recurses := true, apart := false, narrowed := true }
def MshrNilUptoSaid : Prop := mshrNilUptoRow.holds Try.pinned (OpenSpec.upto mshrNilSpec)

end Rows
end Go.Proofs.Ytdicippbniglpaa
