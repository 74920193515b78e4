/-
  'UartSends': the templates of its loop, and what is known there. Printed by program.
-/
import Derived.Test.YtiimccljjdhplaaRows
import Derived.Test.YtiimccljjdhplaaSxC
namespace Go.Proofs.Ytiimccljjdhplaa.uartSends
open Go.ChangeShapes Go.WideShapes Go.ChangeAt Go.RowKit Go.Sx
set_option linter.unusedVariables false
set_option linter.unusedSimpArgs false
def mbl : List (Nat × List Nat) := []

def b (i : Nat) : CV := .int .u8 (.var i)
def z : E := .lit (.ofNat 0)
def slots1 : List (Nat × SV) := [(0, .v (.one (.tslc 0 1 z (.var 0) (.var 1)))), (5, .v (.one (.ptr 2 0))), (6, .v (.one (.osl 4))), (7, .v (.one (.int .i64 (.var 101))))]
def uc (h n l : E) : Ent := ⟨true, .cells [b 110, b 111, b 112, b 113, b 114, b 115, b 116, b 117, .int .i64 h, .int .i64 n, .osl 3, .int .u32 z, .bool l] 58⟩
def heap1 : List (Nat × Ent) := [(2, uc z (.var 102) (.var 119)), (3, ⟨true, .seq 3 (.tv 100) (.var 101) [.int .u8] 5⟩), (4, ⟨true, .seq 4 (.tv 100) (.var 101) [.int .u8] 5⟩)]
def T : Tm := ⟨(1, .v (.one (.tslc 1 1 z (.var 2) (.var 3)))) :: slots1, [(0, ⟨false, .tab 0 (.tv 0) (.var 0) [.int .u64]⟩), (1, ⟨false, .tab 1 (.tv 1) (.var 2) [.int .u8]⟩)] ++ heap1, 5⟩
def TN : Tm := ⟨(1, .v (.one .nils)) :: slots1, [(0, ⟨false, .tab 0 (.tv 0) (.var 0) [.int .u64]⟩)] ++ heap1, 5⟩
def TE : Tm := ⟨[(5, .v (.one (.ptr 2 0))), (6, .v (.one (.osl 4)))], heap1, 5⟩
def r (i : Nat) (a b : Nat) : Fact := .rng (.var i) (some (.ofNat a), some (.ofNat b))
def bytes : List Fact := [r 110 0 255, r 111 0 255, r 112 0 255, r 113 0 255, r 114 0 255, r 115 0 255, r 116 0 255, r 117 0 255, r 119 0 1, r 102 0 8, r 101 0 200]
def factsL : List Fact := r 0 0 9223372036854775807 :: r 1 0 9223372036854775807 :: r 2 0 9223372036854775807 :: r 3 0 9223372036854775807 :: bytes
def factsTN : List Fact := r 0 0 9223372036854775807 :: r 1 0 9223372036854775807 :: bytes
def factsE : List Fact := bytes


def lemLTN : List Fact := []
theorem lemLTN_ok : ∀ ρ, (∀ g ∈ factsTN, Fact.holds ρ g) → ∀ g ∈ lemLTN, Fact.holds ρ g := fun _ _ _ h => absurd h List.not_mem_nil
def lemL : List Fact := []
theorem lemL_ok : ∀ ρ, (∀ g ∈ factsL, Fact.holds ρ g) → ∀ g ∈ lemL, Fact.holds ρ g := fun _ _ _ h => absurd h List.not_mem_nil
def lemE : List Fact := []
theorem lemE_ok : ∀ ρ, (∀ g ∈ factsE, Fact.holds ρ g) → ∀ g ∈ lemE, Fact.holds ρ g := fun _ _ _ h => absurd h List.not_mem_nil
def xs0 : List V1 := [(.one .nils), (.one .nils)]
def hs0 : List (Nat × Ent) := []
def facts0 : List Fact := []
def xs1 : List V1 := [(.one (.tslc 0 1 (.lit (.ofNat 0)) (.var 0) (.var 1))), (.one .nils)]
def hs1 : List (Nat × Ent) := [(0, ⟨false, .tab 0 (.tv 0) (.var 0) [.int .u64]⟩)]
def facts1 : List Fact := [(.rng (.var 0) ((some (.ofNat 0)), (some (.ofNat 9223372036854775807)))), (.rng (.var 1) ((some (.ofNat 0)), (some (.ofNat 9223372036854775807))))]
def xs2 : List V1 := [(.one .nils), (.one (.tslc 1 1 (.lit (.ofNat 0)) (.var 2) (.var 3)))]
def hs2 : List (Nat × Ent) := [(1, ⟨false, .tab 1 (.tv 1) (.var 2) [.int .u8]⟩)]
def facts2 : List Fact := [(.rng (.var 2) ((some (.ofNat 0)), (some (.ofNat 9223372036854775807)))), (.rng (.var 3) ((some (.ofNat 0)), (some (.ofNat 9223372036854775807))))]
def xs3 : List V1 := [(.one (.tslc 0 1 (.lit (.ofNat 0)) (.var 0) (.var 1))), (.one (.tslc 1 1 (.lit (.ofNat 0)) (.var 2) (.var 3)))]
def hs3 : List (Nat × Ent) := [(0, ⟨false, .tab 0 (.tv 0) (.var 0) [.int .u64]⟩), (1, ⟨false, .tab 1 (.tv 1) (.var 2) [.int .u8]⟩)]
def facts3 : List Fact := [(.rng (.var 0) ((some (.ofNat 0)), (some (.ofNat 9223372036854775807)))), (.rng (.var 1) ((some (.ofNat 0)), (some (.ofNat 9223372036854775807)))), (.rng (.var 2) ((some (.ofNat 0)), (some (.ofNat 9223372036854775807)))), (.rng (.var 3) ((some (.ofNat 0)), (some (.ofNat 9223372036854775807))))]
end Go.Proofs.Ytiimccljjdhplaa.uartSends
