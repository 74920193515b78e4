/-
  'HazardTrue': the templates of its loop, and what is known there. Printed by program.
-/
import Derived.Test.YtgjdhgmnkgbhiaaRows
import Derived.Test.YtgjdhgmnkgbhiaaSxC
namespace Go.Proofs.Ytgjdhgmnkgbhiaa.hazardTrue
open Go.ChangeShapes Go.WideShapes Go.ChangeAt Go.RowKit Go.Sx
set_option linter.unusedVariables false
set_option linter.unusedSimpArgs false
def mbl : List (Nat × List Nat) := []

def z : E := .lit (.ofNat 0)
def ii (i : Nat) : CV := .int .i64 (.var i)
def plainT : E := (.ite (.bin .lt (.lit (.ofNat 0)) (.var 112)) (.upd (.ite (.bin .lt (.lit (.ofNat 0)) (.var 116)) (.upd (.tv 100) (.var 116) 0 (.var 119)) (.tv 100)) (.var 112) 0 (.var 118)) (.ite (.bin .lt (.lit (.ofNat 0)) (.var 116)) (.upd (.tv 100) (.var 116) 0 (.var 119)) (.tv 100)))
def T : Tm := ⟨[(0, .v (.one (.tslc 0 4 z (.var 0) (.var 1)))), (3, .v (.one (.ptr 1 0))), (4, .v (.one (.ptr 2 0))), (6, .v (.one (.ptr 3 0))), (7, .v (.one (.ptr 4 0))), (8, .v (.one (.int .u64 (.var 118)))), (9, .v (.one (.int .u64 (.var 119)))), (10, .v (.one (.int .i64 (.var 101))))],
  [(0, ⟨false, .tab 0 (.tv 0) (.var 0) [.int .i64, .int .i64, .int .i64, .int .i64]⟩), (1, ⟨true, .arr plainT 32 (.int .u64) 32⟩), (2, ⟨true, .arr (.tv 100) 32 (.int .u64) 32⟩), (3, ⟨true, .cells [ii 110, ii 111, ii 112, ii 113] 23⟩), (4, ⟨true, .cells [ii 114, ii 115, ii 116, ii 117] 23⟩)], 5⟩
def TE : Tm := ⟨[], [], 0⟩
def r (i : Nat) (a b : Nat) : Fact := .rng (.var i) (some (.ofNat a), some (.ofNat b))
def factsL : List Fact := [r 0 0 9223372036854775807, r 1 0 9223372036854775807, r 101 0 100, r 110 0 31, r 111 0 31, r 112 0 31, r 113 0 2, r 114 0 31, r 115 0 31, r 116 0 31, r 117 0 2, r 118 0 18446744073709551615, r 119 0 18446744073709551615]
def factsE : List Fact := []


def lemL : List Fact := []
theorem lemL_ok : ∀ ρ, (∀ g ∈ factsL, Fact.holds ρ g) → ∀ g ∈ lemL, Fact.holds ρ g := fun _ _ _ h => absurd h List.not_mem_nil
def lemE : List Fact := []
theorem lemE_ok : ∀ ρ, (∀ g ∈ factsE, Fact.holds ρ g) → ∀ g ∈ lemE, Fact.holds ρ g := fun _ _ _ h => absurd h List.not_mem_nil
def xs0 : List V1 := [(.one .nils)]
def hs0 : List (Nat × Ent) := []
def facts0 : List Fact := []
def xs1 : List V1 := [(.one (.tslc 0 4 (.lit (.ofNat 0)) (.var 0) (.var 1)))]
def hs1 : List (Nat × Ent) := [(0, ⟨false, .tab 0 (.tv 0) (.var 0) [.int .i64, .int .i64, .int .i64, .int .i64]⟩)]
def facts1 : List Fact := [(.rng (.var 0) ((some (.ofNat 0)), (some (.ofNat 9223372036854775807)))), (.rng (.var 1) ((some (.ofNat 0)), (some (.ofNat 9223372036854775807))))]
end Go.Proofs.Ytgjdhgmnkgbhiaa.hazardTrue
