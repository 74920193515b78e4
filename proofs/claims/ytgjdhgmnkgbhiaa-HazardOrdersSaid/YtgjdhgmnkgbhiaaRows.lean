/-
  No cell of these rows narrows 'for every input' (looked for: loops, veiled, ifaces, maps, wideKeys, modest, calm, conditions, laid).
  DERIVED. THE GIVEN ROWS OF THIS SEAT. 4 by the template 'for every input the law returns true; each argument reads behind the call as it read before'; 0 by the template 'total and deterministic' (their statements: YtgjdhgmnkgbhiaaTotals.lean).
  GIVEN WITH THE SEED: the statements are not yours to turn. If you find one false, say at which input.
  Laid BY PROGRAM, IN A SANDBOX (cutbox-rows.mjs): the forced cells as the released guide's own fill.sh prints them over the translation 5100c113bc9ee34e… (all of the seat's roots in one cut). By AI agents, Wed Nov 11 2026. No macro, syntax, notation, axiom, sorry.
-/
import Derived.Test.YtgjdhgmnkgbhiaaChecked
import GoSem.Claim
import GoSem.ClaimJoined
import GoSem.ClaimMapViews
import Derived.JoinedTies
import Derived.KernelRfl
namespace Go.Proofs.Ytgjdhgmnkgbhiaa
/- THE CELL 'sum', in the pinned program and in every row, IS THE sha256 OF THE DUMP (.gsa) THAT YtgjdhgmnkgbhiaaProg.lean LOADS. Nothing in Lean hashes anything: it is a label: what it is worth is what the hold of that sum in a sandbox is worth. -/
noncomputable def Try.pinned : Pinned := { name := "ytgjdhgmnkgbhiaa", sum := "5100c113bc9ee34e8756e836d4da1479b5163d25dcac30ae21ecdd58d8de5096", checked := Try.checked }
namespace Rows
def none {H : Type} : Left H := { results := [], args := [] }

/-- 'tappetlaw23.HazardNone': WHATEVER THE INPUT: true; the input reads as it did. -/
def hazardNoneSpec : ChangeSpec := { name := "hazardNone", fn := fun _ => fun
  | [d1, d2, d3] => { results := [.lit (.bool true)], args := [d1, d2, d3] }
  | _ => none }
def hazardNoneRow : OpenClaim := { program := "ytgjdhgmnkgbhiaa", sum := "5100c113bc9ee34e8756e836d4da1479b5163d25dcac30ae21ecdd58d8de5096", func := "tappet/tappetlaw23.HazardNone", spec := "hazardNone", apart := false }
def HazardNoneSaid : Prop := hazardNoneRow.holds Try.pinned (OpenSpec.ofChange hazardNoneSpec)

/-- ITS FALSE NEIGHBOUR: 'it returns false'. Refute it at one input. -/
def hazardNoneWrong : ChangeSpec := { name := "hazardNone", fn := fun _ => fun
  | [d1, d2, d3] => { results := [.lit (.bool false)], args := [d1, d2, d3] }
  | _ => none }
def HazardNoneWrongFalsely : Prop := hazardNoneRow.holds Try.pinned (OpenSpec.ofChange hazardNoneWrong)

/-- 'tappetlaw23.HazardTells': WHATEVER THE INPUT: true; the input reads as it did. -/
def hazardTellsSpec : ChangeSpec := { name := "hazardTells", fn := fun _ => fun
  | [d1, d2, d3, d4, d5, d6, d7] => { results := [.lit (.bool true)], args := [d1, d2, d3, d4, d5, d6, d7] }
  | _ => none }
def hazardTellsRow : OpenClaim := { program := "ytgjdhgmnkgbhiaa", sum := "5100c113bc9ee34e8756e836d4da1479b5163d25dcac30ae21ecdd58d8de5096", func := "tappet/tappetlaw23.HazardTells", spec := "hazardTells", apart := false }
def HazardTellsSaid : Prop := hazardTellsRow.holds Try.pinned (OpenSpec.ofChange hazardTellsSpec)

/-- ITS FALSE NEIGHBOUR: 'it returns false'. Refute it at one input. -/
def hazardTellsWrong : ChangeSpec := { name := "hazardTells", fn := fun _ => fun
  | [d1, d2, d3, d4, d5, d6, d7] => { results := [.lit (.bool false)], args := [d1, d2, d3, d4, d5, d6, d7] }
  | _ => none }
def HazardTellsWrongFalsely : Prop := hazardTellsRow.holds Try.pinned (OpenSpec.ofChange hazardTellsWrong)

/-- 'tappetlaw23.HazardTrue': WHATEVER THE INPUT: true; the input reads as it did. -/
def hazardTrueSpec : ChangeSpec := { name := "hazardTrue", fn := fun _ => fun
  | [d] => { results := [.lit (.bool true)], args := [d] }
  | _ => none }
def hazardTrueRow : OpenClaim := { program := "ytgjdhgmnkgbhiaa", sum := "5100c113bc9ee34e8756e836d4da1479b5163d25dcac30ae21ecdd58d8de5096", func := "tappet/tappetlaw23.HazardTrue", spec := "hazardTrue", apart := false }
def HazardTrueSaid : Prop := hazardTrueRow.holds Try.pinned (OpenSpec.ofChange hazardTrueSpec)

/-- ITS FALSE NEIGHBOUR: 'it returns false'. Refute it at one input. -/
def hazardTrueWrong : ChangeSpec := { name := "hazardTrue", fn := fun _ => fun
  | [d] => { results := [.lit (.bool false)], args := [d] }
  | _ => none }
def HazardTrueWrongFalsely : Prop := hazardTrueRow.holds Try.pinned (OpenSpec.ofChange hazardTrueWrong)

/-- 'tappetlaw23.HazardOrders': WHATEVER THE INPUT: true; the input reads as it did. -/
def hazardOrdersSpec : ChangeSpec := { name := "hazardOrders", fn := fun _ => fun
  | [d] => { results := [.lit (.bool true)], args := [d] }
  | _ => none }
def hazardOrdersRow : OpenClaim := { program := "ytgjdhgmnkgbhiaa", sum := "5100c113bc9ee34e8756e836d4da1479b5163d25dcac30ae21ecdd58d8de5096", func := "tappet/tappetlaw23.HazardOrders", spec := "hazardOrders", unfollowed := true, recurses := true, apart := false }
def HazardOrdersSaid : Prop := hazardOrdersRow.holds Try.pinned (OpenSpec.ofChange hazardOrdersSpec)

/-- ITS FALSE NEIGHBOUR: 'it returns false'. Refute it at one input. -/
def hazardOrdersWrong : ChangeSpec := { name := "hazardOrders", fn := fun _ => fun
  | [d] => { results := [.lit (.bool false)], args := [d] }
  | _ => none }
def HazardOrdersWrongFalsely : Prop := hazardOrdersRow.holds Try.pinned (OpenSpec.ofChange hazardOrdersWrong)

/- THE SECOND FORM. 'bulk': how many values and letters a reading holds, each counted each time it is reached (what is shared counts as often as it is met; a slice's spare places count too). A statement '..UptoSaid' is the law's where the arguments, and the package variables that the reading takes, are together of bulk at most 1048576: NARROWER than '..Said'. Prove '..Said' where nothing that the law and all that it calls make is longer than what came in: it says more and counts as full. Else prove '..UptoSaid'. A law counts once. -/
mutual
def uptoBulk {H : Type} : DataW H → Nat
  | .lit (.string bytes) => bytes.length + 1
  | .lit _ => 1
  | .nil => 1
  | .ptr d => uptoBulk d + 1
  | .slice elems spare => uptoBulkAll elems + uptoBulkAll spare + 1
  | .agg parts => uptoBulkAll parts + 1
  | .iface _ d => uptoBulk d + 1
  | .map entries => uptoBulkEntries entries + 1
  | .held _ => 1
def uptoBulkAll {H : Type} : List (DataW H) → Nat
  | [] => 0
  | d :: r => uptoBulk d + uptoBulkAll r
def uptoBulkEntries {H : Type} : List (Lit × DataW H) → Nat
  | [] => 0
  | x :: r => uptoBulkEntry x + uptoBulkEntries r
def uptoBulkEntry {H : Type} : Lit × DataW H → Nat
  | (.string bytes, d) => bytes.length + uptoBulk d + 1
  | (_, d) => uptoBulk d + 1
 end
def uptoSmall : (H : Type) → List (DataW H) → Bool := fun _ ds => decide (uptoBulkAll ds ≤ 1048576)
def OpenSpec.upto (s : _root_.Go.ChangeSpec) : _root_.Go.OpenSpec := { _root_.Go.OpenSpec.ofChange s with cond := some uptoSmall }

/-- 'tappetlaw23.HazardNone', WHERE WHAT IT READS IS OF BULK AT MOST 1048576: true; the input reads as it did. -/
def hazardNoneUptoRow : OpenClaim := { program := "ytgjdhgmnkgbhiaa", sum := "5100c113bc9ee34e8756e836d4da1479b5163d25dcac30ae21ecdd58d8de5096", func := "tappet/tappetlaw23.HazardNone", spec := "hazardNone", apart := false, narrowed := true }
def HazardNoneUptoSaid : Prop := hazardNoneUptoRow.holds Try.pinned (OpenSpec.upto hazardNoneSpec)

/-- 'tappetlaw23.HazardTells', WHERE WHAT IT READS IS OF BULK AT MOST 1048576: true; the input reads as it did. -/
def hazardTellsUptoRow : OpenClaim := { program := "ytgjdhgmnkgbhiaa", sum := "5100c113bc9ee34e8756e836d4da1479b5163d25dcac30ae21ecdd58d8de5096", func := "tappet/tappetlaw23.HazardTells", spec := "hazardTells", apart := false, narrowed := true }
def HazardTellsUptoSaid : Prop := hazardTellsUptoRow.holds Try.pinned (OpenSpec.upto hazardTellsSpec)

/-- 'tappetlaw23.HazardTrue', WHERE WHAT IT READS IS OF BULK AT MOST 1048576: true; the input reads as it did. -/
def hazardTrueUptoRow : OpenClaim := { program := "ytgjdhgmnkgbhiaa", sum := "5100c113bc9ee34e8756e836d4da1479b5163d25dcac30ae21ecdd58d8de5096", func := "tappet/tappetlaw23.HazardTrue", spec := "hazardTrue", apart := false, narrowed := true }
def HazardTrueUptoSaid : Prop := hazardTrueUptoRow.holds Try.pinned (OpenSpec.upto hazardTrueSpec)

/-- 'tappetlaw23.HazardOrders', WHERE WHAT IT READS IS OF BULK AT MOST 1048576: true; the input reads as it did. -/
def hazardOrdersUptoRow : OpenClaim := { program := "ytgjdhgmnkgbhiaa", sum := "5100c113bc9ee34e8756e836d4da1479b5163d25dcac30ae21ecdd58d8de5096", func := "tappet/tappetlaw23.HazardOrders", spec := "hazardOrders", unfollowed := true, recurses := true, apart := false, narrowed := true }
def HazardOrdersUptoSaid : Prop := hazardOrdersUptoRow.holds Try.pinned (OpenSpec.upto hazardOrdersSpec)

end Rows
end Go.Proofs.Ytgjdhgmnkgbhiaa
