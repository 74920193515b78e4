/-
  No cell of these rows narrows 'for every input' (looked for: loops, veiled, ifaces, maps, wideKeys, modest, calm, conditions, laid).
  DERIVED. THE GIVEN ROWS OF THIS SEAT. 3 by the template 'for every input the law returns true; each argument reads behind the call as it read before'; 0 by the template 'total and deterministic' (their statements: YtfncnkcjofljmaaTotals.lean).
  GIVEN WITH THE SEED: the statements are not yours to turn. If you find one false, say at which input.
  Laid BY PROGRAM, IN A SANDBOX (cutbox-rows.mjs): the forced cells as the released guide's own fill.sh prints them over the translation 5b0ca8cd0c5778d4… (all of the seat's roots in one cut). By AI agents, Wed Nov 11 2026. No macro, syntax, notation, axiom, sorry.
-/
import Derived.Test.YtfncnkcjofljmaaChecked
import GoSem.Claim
import GoSem.ClaimJoined
import GoSem.ClaimMapViews
import Derived.JoinedTies
import Derived.KernelRfl
namespace Go.Proofs.Ytfncnkcjofljmaa
/- THE CELL 'sum', in the pinned program and in every row, IS THE sha256 OF THE DUMP (.gsa) THAT YtfncnkcjofljmaaProg.lean LOADS. Nothing in Lean hashes anything: it is a label: what it is worth is what the hold of that sum in a sandbox is worth. -/
noncomputable def Try.pinned : Pinned := { name := "ytfncnkcjofljmaa", sum := "5b0ca8cd0c5778d4ae49c5706e996dd1161a19de485448505f5e67b3d15d9964", checked := Try.checked }
namespace Rows
def none {H : Type} : Left H := { results := [], args := [] }

/-- 'tappetlaw09.PmaMay': WHATEVER THE INPUT: true; the input reads as it did. -/
def pmaMaySpec : ChangeSpec := { name := "pmaMay", fn := fun _ => fun
  | [d1, d2, d3, d4, d5] => { results := [.lit (.bool true)], args := [d1, d2, d3, d4, d5] }
  | _ => none }
def pmaMayRow : OpenClaim := { program := "ytfncnkcjofljmaa", sum := "5b0ca8cd0c5778d4ae49c5706e996dd1161a19de485448505f5e67b3d15d9964", func := "tappet/tappetlaw09.PmaMay", spec := "pmaMay", apart := false }
def PmaMaySaid : Prop := pmaMayRow.holds Try.pinned (OpenSpec.ofChange pmaMaySpec)

/-- ITS FALSE NEIGHBOUR: 'it returns false'. Refute it at one input. -/
def pmaMayWrong : ChangeSpec := { name := "pmaMay", fn := fun _ => fun
  | [d1, d2, d3, d4, d5] => { results := [.lit (.bool false)], args := [d1, d2, d3, d4, d5] }
  | _ => none }
def PmaMayWrongFalsely : Prop := pmaMayRow.holds Try.pinned (OpenSpec.ofChange pmaMayWrong)

/-- 'tappetlaw09.PmaWhole': WHATEVER THE INPUT: true; the input reads as it did. -/
def pmaWholeSpec : ChangeSpec := { name := "pmaWhole", fn := fun _ => fun
  | [d1, d2, d3, d4] => { results := [.lit (.bool true)], args := [d1, d2, d3, d4] }
  | _ => none }
def pmaWholeRow : OpenClaim := { program := "ytfncnkcjofljmaa", sum := "5b0ca8cd0c5778d4ae49c5706e996dd1161a19de485448505f5e67b3d15d9964", func := "tappet/tappetlaw09.PmaWhole", spec := "pmaWhole", apart := false }
def PmaWholeSaid : Prop := pmaWholeRow.holds Try.pinned (OpenSpec.ofChange pmaWholeSpec)

/-- ITS FALSE NEIGHBOUR: 'it returns false'. Refute it at one input. -/
def pmaWholeWrong : ChangeSpec := { name := "pmaWhole", fn := fun _ => fun
  | [d1, d2, d3, d4] => { results := [.lit (.bool false)], args := [d1, d2, d3, d4] }
  | _ => none }
def PmaWholeWrongFalsely : Prop := pmaWholeRow.holds Try.pinned (OpenSpec.ofChange pmaWholeWrong)

/-- 'tappetlaw09.PmaRegions': WHATEVER THE INPUT: true; the input reads as it did. -/
def pmaRegionsSpec : ChangeSpec := { name := "pmaRegions", fn := fun _ => fun
  | [d1, d2] => { results := [.lit (.bool true)], args := [d1, d2] }
  | _ => none }
def pmaRegionsRow : OpenClaim := { program := "ytfncnkcjofljmaa", sum := "5b0ca8cd0c5778d4ae49c5706e996dd1161a19de485448505f5e67b3d15d9964", func := "tappet/tappetlaw09.PmaRegions", spec := "pmaRegions", apart := false }
def PmaRegionsSaid : Prop := pmaRegionsRow.holds Try.pinned (OpenSpec.ofChange pmaRegionsSpec)

/-- ITS FALSE NEIGHBOUR: 'it returns false'. Refute it at one input. -/
def pmaRegionsWrong : ChangeSpec := { name := "pmaRegions", fn := fun _ => fun
  | [d1, d2] => { results := [.lit (.bool false)], args := [d1, d2] }
  | _ => none }
def PmaRegionsWrongFalsely : Prop := pmaRegionsRow.holds Try.pinned (OpenSpec.ofChange pmaRegionsWrong)

/- THE SECOND FORM. 'bulk': how many values and letters a reading holds, each counted each time it is reached (what is shared counts as often as it is met; a slice's spare places count too). A statement '..UptoSaid' is the law's where the arguments, and the package variables that the reading takes, are together of bulk at most 1048576: NARROWER than '..Said'. Prove '..Said' where nothing that the law and all that it calls make is longer than what came in: it says more and counts as full. Else prove '..UptoSaid'. A law counts once. -/
mutual
def uptoBulk {H : Type} : DataW H → Nat
  | .lit (.string bytes) => bytes.length + 1
  | .lit _ => 1
  | .nil => 1
  | .ptr d => uptoBulk d + 1
  | .slice elems spare => uptoBulkAll elems + uptoBulkAll spare + 1
  | .agg parts => uptoBulkAll parts + 1
  | .iface _ d => uptoBulk d + 1
  | .map entries => uptoBulkEntries entries + 1
  | .held _ => 1
def uptoBulkAll {H : Type} : List (DataW H) → Nat
  | [] => 0
  | d :: r => uptoBulk d + uptoBulkAll r
def uptoBulkEntries {H : Type} : List (Lit × DataW H) → Nat
  | [] => 0
  | x :: r => uptoBulkEntry x + uptoBulkEntries r
def uptoBulkEntry {H : Type} : Lit × DataW H → Nat
  | (.string bytes, d) => bytes.length + uptoBulk d + 1
  | (_, d) => uptoBulk d + 1
 end
def uptoSmall : (H : Type) → List (DataW H) → Bool := fun _ ds => decide (uptoBulkAll ds ≤ 1048576)
def OpenSpec.upto (s : _root_.Go.ChangeSpec) : _root_.Go.OpenSpec := { _root_.Go.OpenSpec.ofChange s with cond := some uptoSmall }

/-- 'tappetlaw09.PmaMay', WHERE WHAT IT READS IS OF BULK AT MOST 1048576: true; the input reads as it did. -/
def pmaMayUptoRow : OpenClaim := { program := "ytfncnkcjofljmaa", sum := "5b0ca8cd0c5778d4ae49c5706e996dd1161a19de485448505f5e67b3d15d9964", func := "tappet/tappetlaw09.PmaMay", spec := "pmaMay", apart := false, narrowed := true }
def PmaMayUptoSaid : Prop := pmaMayUptoRow.holds Try.pinned (OpenSpec.upto pmaMaySpec)

/-- 'tappetlaw09.PmaWhole', WHERE WHAT IT READS IS OF BULK AT MOST 1048576: true; the input reads as it did. -/
def pmaWholeUptoRow : OpenClaim := { program := "ytfncnkcjofljmaa", sum := "5b0ca8cd0c5778d4ae49c5706e996dd1161a19de485448505f5e67b3d15d9964", func := "tappet/tappetlaw09.PmaWhole", spec := "pmaWhole", apart := false, narrowed := true }
def PmaWholeUptoSaid : Prop := pmaWholeUptoRow.holds Try.pinned (OpenSpec.upto pmaWholeSpec)

/-- 'tappetlaw09.PmaRegions', WHERE WHAT IT READS IS OF BULK AT MOST 1048576: true; the input reads as it did. -/
def pmaRegionsUptoRow : OpenClaim := { program := "ytfncnkcjofljmaa", sum := "5b0ca8cd0c5778d4ae49c5706e996dd1161a19de485448505f5e67b3d15d9964", func := "tappet/tappetlaw09.PmaRegions", spec := "pmaRegions", apart := false, narrowed := true }
def PmaRegionsUptoSaid : Prop := pmaRegionsUptoRow.holds Try.pinned (OpenSpec.upto pmaRegionsSpec)

end Rows
end Go.Proofs.Ytfncnkcjofljmaa
