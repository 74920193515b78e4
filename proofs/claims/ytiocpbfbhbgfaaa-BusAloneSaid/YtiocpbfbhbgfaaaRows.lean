/-
  No cell of these rows narrows 'for every input' (looked for: loops, veiled, ifaces, maps, wideKeys, modest, calm, conditions, laid).
  DERIVED. THE GIVEN ROWS OF THIS SEAT. 6 by the template 'for every input the law returns true; each argument reads behind the call as it read before'; 0 by the template 'total and deterministic' (their statements: YtiocpbfbhbgfaaaTotals.lean).
  GIVEN WITH THE SEED: the statements are not yours to turn. If you find one false, say at which input.
  Laid BY PROGRAM, IN A SANDBOX (cutbox-rows.mjs): the forced cells as the released guide's own fill.sh prints them over the translation 307b1c301742d086… (all of the seat's roots in one cut). By AI agents, Wed Nov 11 2026. No macro, syntax, notation, axiom, sorry.
-/
import Derived.Test.YtiocpbfbhbgfaaaChecked
import GoSem.Claim
import GoSem.ClaimJoined
import GoSem.ClaimMapViews
import Derived.JoinedTies
import Derived.KernelRfl
namespace Go.Proofs.Ytiocpbfbhbgfaaa
/- THE CELL 'sum', in the pinned program and in every row, IS THE sha256 OF THE DUMP (.gsa) THAT YtiocpbfbhbgfaaaProg.lean LOADS. Nothing in Lean hashes anything: it is a label: what it is worth is what the hold of that sum in a sandbox is worth. -/
noncomputable def Try.pinned : Pinned := { name := "ytiocpbfbhbgfaaa", sum := "307b1c301742d0863f97821714cc17a77a95e1d7b87cd27785e2913f91f36a67", checked := Try.checked }
namespace Rows
def none {H : Type} : Left H := { results := [], args := [] }

/-- 'tappetlaw20.BusTime': WHATEVER THE INPUT: true; the input reads as it did. -/
def busTimeSpec : ChangeSpec := { name := "busTime", fn := fun _ => fun
  | [d1, d2, d3, d4] => { results := [.lit (.bool true)], args := [d1, d2, d3, d4] }
  | _ => none }
def busTimeRow : OpenClaim := { program := "ytiocpbfbhbgfaaa", sum := "307b1c301742d0863f97821714cc17a77a95e1d7b87cd27785e2913f91f36a67", func := "tappet/tappetlaw20.BusTime", spec := "busTime", unfollowed := true, recurses := true, apart := false }
def BusTimeSaid : Prop := busTimeRow.holds Try.pinned (OpenSpec.ofChange busTimeSpec)

/-- ITS FALSE NEIGHBOUR: 'it returns false'. Refute it at one input. -/
def busTimeWrong : ChangeSpec := { name := "busTime", fn := fun _ => fun
  | [d1, d2, d3, d4] => { results := [.lit (.bool false)], args := [d1, d2, d3, d4] }
  | _ => none }
def BusTimeWrongFalsely : Prop := busTimeRow.holds Try.pinned (OpenSpec.ofChange busTimeWrong)

/-- 'tappetlaw20.BusOrder': WHATEVER THE INPUT: true; the input reads as it did. -/
def busOrderSpec : ChangeSpec := { name := "busOrder", fn := fun _ => fun
  | [d1, d2, d3] => { results := [.lit (.bool true)], args := [d1, d2, d3] }
  | _ => none }
def busOrderRow : OpenClaim := { program := "ytiocpbfbhbgfaaa", sum := "307b1c301742d0863f97821714cc17a77a95e1d7b87cd27785e2913f91f36a67", func := "tappet/tappetlaw20.BusOrder", spec := "busOrder", unfollowed := true, recurses := true, apart := false }
def BusOrderSaid : Prop := busOrderRow.holds Try.pinned (OpenSpec.ofChange busOrderSpec)

/-- ITS FALSE NEIGHBOUR: 'it returns false'. Refute it at one input. -/
def busOrderWrong : ChangeSpec := { name := "busOrder", fn := fun _ => fun
  | [d1, d2, d3] => { results := [.lit (.bool false)], args := [d1, d2, d3] }
  | _ => none }
def BusOrderWrongFalsely : Prop := busOrderRow.holds Try.pinned (OpenSpec.ofChange busOrderWrong)

/-- 'tappetlaw20.BusAlone': WHATEVER THE INPUT: true; the input reads as it did. -/
def busAloneSpec : ChangeSpec := { name := "busAlone", fn := fun _ => fun
  | [d1, d2, d3] => { results := [.lit (.bool true)], args := [d1, d2, d3] }
  | _ => none }
def busAloneRow : OpenClaim := { program := "ytiocpbfbhbgfaaa", sum := "307b1c301742d0863f97821714cc17a77a95e1d7b87cd27785e2913f91f36a67", func := "tappet/tappetlaw20.BusAlone", spec := "busAlone", unfollowed := true, recurses := true, apart := false }
def BusAloneSaid : Prop := busAloneRow.holds Try.pinned (OpenSpec.ofChange busAloneSpec)

/-- ITS FALSE NEIGHBOUR: 'it returns false'. Refute it at one input. -/
def busAloneWrong : ChangeSpec := { name := "busAlone", fn := fun _ => fun
  | [d1, d2, d3] => { results := [.lit (.bool false)], args := [d1, d2, d3] }
  | _ => none }
def BusAloneWrongFalsely : Prop := busAloneRow.holds Try.pinned (OpenSpec.ofChange busAloneWrong)

/-- 'tappetlaw20.BusFull': WHATEVER THE INPUT: true; the input reads as it did. -/
def busFullSpec : ChangeSpec := { name := "busFull", fn := fun _ => fun
  | [d1, d2] => { results := [.lit (.bool true)], args := [d1, d2] }
  | _ => none }
def busFullRow : OpenClaim := { program := "ytiocpbfbhbgfaaa", sum := "307b1c301742d0863f97821714cc17a77a95e1d7b87cd27785e2913f91f36a67", func := "tappet/tappetlaw20.BusFull", spec := "busFull", unfollowed := true, recurses := true, apart := false }
def BusFullSaid : Prop := busFullRow.holds Try.pinned (OpenSpec.ofChange busFullSpec)

/-- ITS FALSE NEIGHBOUR: 'it returns false'. Refute it at one input. -/
def busFullWrong : ChangeSpec := { name := "busFull", fn := fun _ => fun
  | [d1, d2] => { results := [.lit (.bool false)], args := [d1, d2] }
  | _ => none }
def BusFullWrongFalsely : Prop := busFullRow.holds Try.pinned (OpenSpec.ofChange busFullWrong)

/-- 'tappetlaw20.BusPlays': WHATEVER THE INPUT: true; the input reads as it did. -/
def busPlaysSpec : ChangeSpec := { name := "busPlays", fn := fun _ => fun
  | [d1, d2] => { results := [.lit (.bool true)], args := [d1, d2] }
  | _ => none }
def busPlaysRow : OpenClaim := { program := "ytiocpbfbhbgfaaa", sum := "307b1c301742d0863f97821714cc17a77a95e1d7b87cd27785e2913f91f36a67", func := "tappet/tappetlaw20.BusPlays", spec := "busPlays", unfollowed := true, recurses := true, apart := false }
def BusPlaysSaid : Prop := busPlaysRow.holds Try.pinned (OpenSpec.ofChange busPlaysSpec)

/-- ITS FALSE NEIGHBOUR: 'it returns false'. Refute it at one input. -/
def busPlaysWrong : ChangeSpec := { name := "busPlays", fn := fun _ => fun
  | [d1, d2] => { results := [.lit (.bool false)], args := [d1, d2] }
  | _ => none }
def BusPlaysWrongFalsely : Prop := busPlaysRow.holds Try.pinned (OpenSpec.ofChange busPlaysWrong)

/-- 'tappetlaw20.BusNil': WHATEVER THE INPUT: true; the input reads as it did. -/
def busNilSpec : ChangeSpec := { name := "busNil", fn := fun _ => fun
  | [d1, d2, d3, d4] => { results := [.lit (.bool true)], args := [d1, d2, d3, d4] }
  | _ => none }
def busNilRow : OpenClaim := { program := "ytiocpbfbhbgfaaa", sum := "307b1c301742d0863f97821714cc17a77a95e1d7b87cd27785e2913f91f36a67", func := "tappet/tappetlaw20.BusNil", spec := "busNil", unfollowed := true, recurses := true, apart := false }
def BusNilSaid : Prop := busNilRow.holds Try.pinned (OpenSpec.ofChange busNilSpec)

/-- ITS FALSE NEIGHBOUR: 'it returns false'. Refute it at one input. -/
def busNilWrong : ChangeSpec := { name := "busNil", fn := fun _ => fun
  | [d1, d2, d3, d4] => { results := [.lit (.bool false)], args := [d1, d2, d3, d4] }
  | _ => none }
def BusNilWrongFalsely : Prop := busNilRow.holds Try.pinned (OpenSpec.ofChange busNilWrong)

/- THE SECOND FORM. 'bulk': how many values and letters a reading holds, each counted each time it is reached (what is shared counts as often as it is met; a slice's spare places count too). A statement '..UptoSaid' is the law's where the arguments, and the package variables that the reading takes, are together of bulk at most 1048576: NARROWER than '..Said'. Prove '..Said' where nothing that the law and all that it calls make is longer than what came in: it says more and counts as full. Else prove '..UptoSaid'. A law counts once. -/
mutual
def uptoBulk {H : Type} : DataW H → Nat
  | .lit (.string bytes) => bytes.length + 1
  | .lit _ => 1
  | .nil => 1
  | .ptr d => uptoBulk d + 1
  | .slice elems spare => uptoBulkAll elems + uptoBulkAll spare + 1
  | .agg parts => uptoBulkAll parts + 1
  | .iface _ d => uptoBulk d + 1
  | .map entries => uptoBulkEntries entries + 1
  | .held _ => 1
def uptoBulkAll {H : Type} : List (DataW H) → Nat
  | [] => 0
  | d :: r => uptoBulk d + uptoBulkAll r
def uptoBulkEntries {H : Type} : List (Lit × DataW H) → Nat
  | [] => 0
  | x :: r => uptoBulkEntry x + uptoBulkEntries r
def uptoBulkEntry {H : Type} : Lit × DataW H → Nat
  | (.string bytes, d) => bytes.length + uptoBulk d + 1
  | (_, d) => uptoBulk d + 1
 end
def uptoSmall : (H : Type) → List (DataW H) → Bool := fun _ ds => decide (uptoBulkAll ds ≤ 1048576)
def OpenSpec.upto (s : _root_.Go.ChangeSpec) : _root_.Go.OpenSpec := { _root_.Go.OpenSpec.ofChange s with cond := some uptoSmall }

/-- 'tappetlaw20.BusTime', WHERE WHAT IT READS IS OF BULK AT MOST 1048576: true; the input reads as it did. -/
def busTimeUptoRow : OpenClaim := { program := "ytiocpbfbhbgfaaa", sum := "307b1c301742d0863f97821714cc17a77a95e1d7b87cd27785e2913f91f36a67", func := "tappet/tappetlaw20.BusTime", spec := "busTime", unfollowed := true, recurses := true, apart := false, narrowed := true }
def BusTimeUptoSaid : Prop := busTimeUptoRow.holds Try.pinned (OpenSpec.upto busTimeSpec)

/-- 'tappetlaw20.BusOrder', WHERE WHAT IT READS IS OF BULK AT MOST 1048576: true; the input reads as it did. -/
def busOrderUptoRow : OpenClaim := { program := "ytiocpbfbhbgfaaa", sum := "307b1c301742d0863f97821714cc17a77a95e1d7b87cd27785e2913f91f36a67", func := "tappet/tappetlaw20.BusOrder", spec := "busOrder", unfollowed := true, recurses := true, apart := false, narrowed := true }
def BusOrderUptoSaid : Prop := busOrderUptoRow.holds Try.pinned (OpenSpec.upto busOrderSpec)

/-- 'tappetlaw20.BusAlone', WHERE WHAT IT READS IS OF BULK AT MOST 1048576: true; the input reads as it did. -/
def busAloneUptoRow : OpenClaim := { program := "ytiocpbfbhbgfaaa", sum := "307b1c301742d0863f97821714cc17a77a95e1d7b87cd27785e2913f91f36a67", func := "tappet/tappetlaw20.BusAlone", spec := "busAlone", unfollowed := true, recurses := true, apart := false, narrowed := true }
def BusAloneUptoSaid : Prop := busAloneUptoRow.holds Try.pinned (OpenSpec.upto busAloneSpec)

/-- 'tappetlaw20.BusFull', WHERE WHAT IT READS IS OF BULK AT MOST 1048576: true; the input reads as it did. -/
def busFullUptoRow : OpenClaim := { program := "ytiocpbfbhbgfaaa", sum := "307b1c301742d0863f97821714cc17a77a95e1d7b87cd27785e2913f91f36a67", func := "tappet/tappetlaw20.BusFull", spec := "busFull", unfollowed := true, recurses := true, apart := false, narrowed := true }
def BusFullUptoSaid : Prop := busFullUptoRow.holds Try.pinned (OpenSpec.upto busFullSpec)

/-- 'tappetlaw20.BusPlays', WHERE WHAT IT READS IS OF BULK AT MOST 1048576: true; the input reads as it did. -/
def busPlaysUptoRow : OpenClaim := { program := "ytiocpbfbhbgfaaa", sum := "307b1c301742d0863f97821714cc17a77a95e1d7b87cd27785e2913f91f36a67", func := "tappet/tappetlaw20.BusPlays", spec := "busPlays", unfollowed := true, recurses := true, apart := false, narrowed := true }
def BusPlaysUptoSaid : Prop := busPlaysUptoRow.holds Try.pinned (OpenSpec.upto busPlaysSpec)

/-- 'tappetlaw20.BusNil', WHERE WHAT IT READS IS OF BULK AT MOST 1048576: true; the input reads as it did. -/
def busNilUptoRow : OpenClaim := { program := "ytiocpbfbhbgfaaa", sum := "307b1c301742d0863f97821714cc17a77a95e1d7b87cd27785e2913f91f36a67", func := "tappet/tappetlaw20.BusNil", spec := "busNil", unfollowed := true, recurses := true, apart := false, narrowed := true }
def BusNilUptoSaid : Prop := busNilUptoRow.holds Try.pinned (OpenSpec.upto busNilSpec)

end Rows
end Go.Proofs.Ytiocpbfbhbgfaaa
