/-
  'UartLost': the templates of its loop, and what is known there. Printed by program.
-/
import Derived.Test.YtiimccljjdhplaaRows
import Derived.Test.YtiimccljjdhplaaSxC
namespace Go.Proofs.Ytiimccljjdhplaa.uartLost
open Go.ChangeShapes Go.WideShapes Go.ChangeAt Go.RowKit Go.Sx
set_option linter.unusedVariables false
set_option linter.unusedSimpArgs false
def mbl : List (Nat × List Nat) := []

def tabE : Ent := ⟨false, .tab 0 (.tv 0) (.var 0) [.int .u8]⟩
def b (i : Nat) : CV := .int .u8 (.var i)
def T : Tm := ⟨[(0, .v (.one (.tslc 0 1 (.lit (.ofNat 0)) (.var 0) (.var 1)))), (5, .v (.one (.ptr 1 0))), (6, .v (.one (.int .i64 (.var 100)))), (7, .v (.one (.int .i64 (.var 101))))],
  [(0, tabE), (1, ⟨true, .cells [b 110, b 111, b 112, b 113, b 114, b 115, b 116, b 117, .int .i64 (.lit (.ofNat 0)), .int .i64 (.bin .min (.var 101) (.lit (.ofNat 8))), .nils, .int .u32 (.lit (.ofNat 0)), .bool (.bin .lt (.lit (.ofNat 8)) (.var 101))] 58⟩)], 2⟩
def TE : Tm := ⟨[(5, .v (.one (.ptr 1 0)))], [(1, ⟨true, .cells [b 110, b 111, b 112, b 113, b 114, b 115, b 116, b 117, .int .i64 (.lit (.ofNat 0)), .int .i64 (.lit (.ofNat 8)), .nils, .int .u32 (.lit (.ofNat 0)), .bool (.lit (.ofNat 1))] 58⟩)], 2⟩
def r (i : Nat) (a b : Nat) : Fact := .rng (.var i) (some (.ofNat a), some (.ofNat b))
def bytes : List Fact := [r 110 0 255, r 111 0 255, r 112 0 255, r 113 0 255, r 114 0 255, r 115 0 255, r 116 0 255, r 117 0 255]
def factsL : List Fact := r 0 0 9223372036854775807 :: r 1 0 9223372036854775807 :: r 100 9 28 :: r 101 0 28 :: bytes
def factsE : List Fact := bytes


def lemL : List Fact := []
theorem lemL_ok : ∀ ρ, (∀ g ∈ factsL, Fact.holds ρ g) → ∀ g ∈ lemL, Fact.holds ρ g := fun _ _ _ h => absurd h List.not_mem_nil
def lemE : List Fact := []
theorem lemE_ok : ∀ ρ, (∀ g ∈ factsE, Fact.holds ρ g) → ∀ g ∈ lemE, Fact.holds ρ g := fun _ _ _ h => absurd h List.not_mem_nil
def xs0 : List V1 := [(.one .nils), (.one (.int .i64 (.var 2)))]
def hs0 : List (Nat × Ent) := []
def facts0 : List Fact := [(.rng (.var 2) ((some (.negSucc 9223372036854775807)), (some (.ofNat 9223372036854775807))))]
def xs1 : List V1 := [(.one (.tslc 0 1 (.lit (.ofNat 0)) (.var 0) (.var 1))), (.one (.int .i64 (.var 2)))]
def hs1 : List (Nat × Ent) := [(0, ⟨false, .tab 0 (.tv 0) (.var 0) [.int .u8]⟩)]
def facts1 : List Fact := [(.rng (.var 0) ((some (.ofNat 0)), (some (.ofNat 9223372036854775807)))), (.rng (.var 1) ((some (.ofNat 0)), (some (.ofNat 9223372036854775807)))), (.rng (.var 2) ((some (.negSucc 9223372036854775807)), (some (.ofNat 9223372036854775807))))]
end Go.Proofs.Ytiimccljjdhplaa.uartLost
