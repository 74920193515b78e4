/-
  'UartOrder': the templates of its loop, and what is known there. Printed by program.
-/
import Derived.Test.YtiimccljjdhplaaRows
import Derived.Test.YtiimccljjdhplaaSxC
namespace Go.Proofs.Ytiimccljjdhplaa.uartOrder
open Go.ChangeShapes Go.WideShapes Go.ChangeAt Go.RowKit Go.Sx
set_option linter.unusedVariables false
set_option linter.unusedSimpArgs false
def mbl : List (Nat × List Nat) := []

def z : E := .lit (.ofNat 0)
def uc : Ent := ⟨true, .cells [.int .u8 (.ite (.bin .lt (.bin .rem (.bin (.sub .i64) (.lit (.ofNat 8)) (.var 105)) (.lit (.ofNat 8))) (.var 102)) (.un (.wrap .u8) (.get (.tv 100) (.bin (.add .i64) (.var 104) (.bin .rem (.bin (.sub .i64) (.lit (.ofNat 8)) (.var 105)) (.lit (.ofNat 8)))) 0)) (.ite (.bin .lt (.bin (.add .i64) (.var 104) (.bin (.sub .i64) (.bin .rem (.bin (.sub .i64) (.lit (.ofNat 8)) (.var 105)) (.lit (.ofNat 8))) (.lit (.ofNat 8)))) (.lit (.ofNat 0))) (.lit (.ofNat 0)) (.un (.wrap .u8) (.get (.tv 100) (.bin (.add .i64) (.var 104) (.bin (.sub .i64) (.bin .rem (.bin (.sub .i64) (.lit (.ofNat 8)) (.var 105)) (.lit (.ofNat 8))) (.lit (.ofNat 8)))) 0)))), .int .u8 (.ite (.bin .lt (.bin .rem (.bin (.sub .i64) (.lit (.ofNat 9)) (.var 105)) (.lit (.ofNat 8))) (.var 102)) (.un (.wrap .u8) (.get (.tv 100) (.bin (.add .i64) (.var 104) (.bin .rem (.bin (.sub .i64) (.lit (.ofNat 9)) (.var 105)) (.lit (.ofNat 8)))) 0)) (.ite (.bin .lt (.bin (.add .i64) (.var 104) (.bin (.sub .i64) (.bin .rem (.bin (.sub .i64) (.lit (.ofNat 9)) (.var 105)) (.lit (.ofNat 8))) (.lit (.ofNat 8)))) (.lit (.ofNat 0))) (.lit (.ofNat 0)) (.un (.wrap .u8) (.get (.tv 100) (.bin (.add .i64) (.var 104) (.bin (.sub .i64) (.bin .rem (.bin (.sub .i64) (.lit (.ofNat 9)) (.var 105)) (.lit (.ofNat 8))) (.lit (.ofNat 8)))) 0)))), .int .u8 (.ite (.bin .lt (.bin .rem (.bin (.sub .i64) (.lit (.ofNat 10)) (.var 105)) (.lit (.ofNat 8))) (.var 102)) (.un (.wrap .u8) (.get (.tv 100) (.bin (.add .i64) (.var 104) (.bin .rem (.bin (.sub .i64) (.lit (.ofNat 10)) (.var 105)) (.lit (.ofNat 8)))) 0)) (.ite (.bin .lt (.bin (.add .i64) (.var 104) (.bin (.sub .i64) (.bin .rem (.bin (.sub .i64) (.lit (.ofNat 10)) (.var 105)) (.lit (.ofNat 8))) (.lit (.ofNat 8)))) (.lit (.ofNat 0))) (.lit (.ofNat 0)) (.un (.wrap .u8) (.get (.tv 100) (.bin (.add .i64) (.var 104) (.bin (.sub .i64) (.bin .rem (.bin (.sub .i64) (.lit (.ofNat 10)) (.var 105)) (.lit (.ofNat 8))) (.lit (.ofNat 8)))) 0)))), .int .u8 (.ite (.bin .lt (.bin .rem (.bin (.sub .i64) (.lit (.ofNat 11)) (.var 105)) (.lit (.ofNat 8))) (.var 102)) (.un (.wrap .u8) (.get (.tv 100) (.bin (.add .i64) (.var 104) (.bin .rem (.bin (.sub .i64) (.lit (.ofNat 11)) (.var 105)) (.lit (.ofNat 8)))) 0)) (.ite (.bin .lt (.bin (.add .i64) (.var 104) (.bin (.sub .i64) (.bin .rem (.bin (.sub .i64) (.lit (.ofNat 11)) (.var 105)) (.lit (.ofNat 8))) (.lit (.ofNat 8)))) (.lit (.ofNat 0))) (.lit (.ofNat 0)) (.un (.wrap .u8) (.get (.tv 100) (.bin (.add .i64) (.var 104) (.bin (.sub .i64) (.bin .rem (.bin (.sub .i64) (.lit (.ofNat 11)) (.var 105)) (.lit (.ofNat 8))) (.lit (.ofNat 8)))) 0)))), .int .u8 (.ite (.bin .lt (.bin .rem (.bin (.sub .i64) (.lit (.ofNat 12)) (.var 105)) (.lit (.ofNat 8))) (.var 102)) (.un (.wrap .u8) (.get (.tv 100) (.bin (.add .i64) (.var 104) (.bin .rem (.bin (.sub .i64) (.lit (.ofNat 12)) (.var 105)) (.lit (.ofNat 8)))) 0)) (.ite (.bin .lt (.bin (.add .i64) (.var 104) (.bin (.sub .i64) (.bin .rem (.bin (.sub .i64) (.lit (.ofNat 12)) (.var 105)) (.lit (.ofNat 8))) (.lit (.ofNat 8)))) (.lit (.ofNat 0))) (.lit (.ofNat 0)) (.un (.wrap .u8) (.get (.tv 100) (.bin (.add .i64) (.var 104) (.bin (.sub .i64) (.bin .rem (.bin (.sub .i64) (.lit (.ofNat 12)) (.var 105)) (.lit (.ofNat 8))) (.lit (.ofNat 8)))) 0)))), .int .u8 (.ite (.bin .lt (.bin .rem (.bin (.sub .i64) (.lit (.ofNat 13)) (.var 105)) (.lit (.ofNat 8))) (.var 102)) (.un (.wrap .u8) (.get (.tv 100) (.bin (.add .i64) (.var 104) (.bin .rem (.bin (.sub .i64) (.lit (.ofNat 13)) (.var 105)) (.lit (.ofNat 8)))) 0)) (.ite (.bin .lt (.bin (.add .i64) (.var 104) (.bin (.sub .i64) (.bin .rem (.bin (.sub .i64) (.lit (.ofNat 13)) (.var 105)) (.lit (.ofNat 8))) (.lit (.ofNat 8)))) (.lit (.ofNat 0))) (.lit (.ofNat 0)) (.un (.wrap .u8) (.get (.tv 100) (.bin (.add .i64) (.var 104) (.bin (.sub .i64) (.bin .rem (.bin (.sub .i64) (.lit (.ofNat 13)) (.var 105)) (.lit (.ofNat 8))) (.lit (.ofNat 8)))) 0)))), .int .u8 (.ite (.bin .lt (.bin .rem (.bin (.sub .i64) (.lit (.ofNat 14)) (.var 105)) (.lit (.ofNat 8))) (.var 102)) (.un (.wrap .u8) (.get (.tv 100) (.bin (.add .i64) (.var 104) (.bin .rem (.bin (.sub .i64) (.lit (.ofNat 14)) (.var 105)) (.lit (.ofNat 8)))) 0)) (.ite (.bin .lt (.bin (.add .i64) (.var 104) (.bin (.sub .i64) (.bin .rem (.bin (.sub .i64) (.lit (.ofNat 14)) (.var 105)) (.lit (.ofNat 8))) (.lit (.ofNat 8)))) (.lit (.ofNat 0))) (.lit (.ofNat 0)) (.un (.wrap .u8) (.get (.tv 100) (.bin (.add .i64) (.var 104) (.bin (.sub .i64) (.bin .rem (.bin (.sub .i64) (.lit (.ofNat 14)) (.var 105)) (.lit (.ofNat 8))) (.lit (.ofNat 8)))) 0)))), .int .u8 (.ite (.bin .lt (.bin .rem (.bin (.sub .i64) (.lit (.ofNat 15)) (.var 105)) (.lit (.ofNat 8))) (.var 102)) (.un (.wrap .u8) (.get (.tv 100) (.bin (.add .i64) (.var 104) (.bin .rem (.bin (.sub .i64) (.lit (.ofNat 15)) (.var 105)) (.lit (.ofNat 8)))) 0)) (.ite (.bin .lt (.bin (.add .i64) (.var 104) (.bin (.sub .i64) (.bin .rem (.bin (.sub .i64) (.lit (.ofNat 15)) (.var 105)) (.lit (.ofNat 8))) (.lit (.ofNat 8)))) (.lit (.ofNat 0))) (.lit (.ofNat 0)) (.un (.wrap .u8) (.get (.tv 100) (.bin (.add .i64) (.var 104) (.bin (.sub .i64) (.bin .rem (.bin (.sub .i64) (.lit (.ofNat 15)) (.var 105)) (.lit (.ofNat 8))) (.lit (.ofNat 8)))) 0)))), .int .i64 (.var 105), .int .i64 (.var 102), .nils, .int .u32 z, .bool (.var 119)] 58⟩
def heap1 : List (Nat × Ent) := [(2, uc), (3, ⟨true, .seq 3 (.tv 100) (.bin (.add .i64) (.var 104) (.var 102)) [.int .u8] 5⟩), (4, ⟨true, .seq 4 (.tv 100) (.var 104) [.int .u8] 5⟩)]
def slots1 : List (Nat × SV) := [(0, .v (.one (.tslc 0 1 z (.var 0) (.var 1)))), (5, .v (.one (.ptr 2 0))), (6, .v (.one (.osl 3))), (7, .v (.one (.osl 4))), (8, .v (.one (.int .i64 (.var 101))))]
def T : Tm := ⟨(1, .v (.one (.tslc 1 1 z (.var 2) (.var 3)))) :: slots1, [(0, ⟨false, .tab 0 (.tv 0) (.var 0) [.int .u8]⟩), (1, ⟨false, .tab 1 (.tv 1) (.var 2) [.bool]⟩)] ++ heap1, 5⟩
def TN : Tm := ⟨(1, .v (.one .nils)) :: slots1, [(0, ⟨false, .tab 0 (.tv 0) (.var 0) [.int .u8]⟩)] ++ heap1, 5⟩
def TE : Tm := ⟨[(5, .v (.one (.ptr 2 0))), (6, .v (.one (.osl 3))), (7, .v (.one (.osl 4)))], heap1, 5⟩
def r (i : Nat) (a b : Nat) : Fact := .rng (.var i) (some (.ofNat a), some (.ofNat b))
def bytes : List Fact := [r 119 0 1, r 102 0 8, r 105 0 7, r 104 0 300]
def le1 : Fact := .tr (.bin .lt (.var 101) (.bin (.add .i64) (.var 104) (.var 102))) false
def factsL : List Fact := r 0 0 9223372036854775807 :: r 1 0 9223372036854775807 :: r 2 0 9223372036854775807 :: r 3 0 9223372036854775807 :: r 101 0 300 :: le1 :: bytes
def factsTN : List Fact := r 0 0 9223372036854775807 :: r 1 0 9223372036854775807 :: r 101 0 300 :: le1 :: bytes
def factsE : List Fact := bytes


def lemLTN : List Fact := []
theorem lemLTN_ok : ∀ ρ, (∀ g ∈ factsTN, Fact.holds ρ g) → ∀ g ∈ lemLTN, Fact.holds ρ g := fun _ _ _ h => absurd h List.not_mem_nil
def lemL : List Fact := []
theorem lemL_ok : ∀ ρ, (∀ g ∈ factsL, Fact.holds ρ g) → ∀ g ∈ lemL, Fact.holds ρ g := fun _ _ _ h => absurd h List.not_mem_nil
def lemE : List Fact := []
theorem lemE_ok : ∀ ρ, (∀ g ∈ factsE, Fact.holds ρ g) → ∀ g ∈ lemE, Fact.holds ρ g := fun _ _ _ h => absurd h List.not_mem_nil
def xs0 : List V1 := [(.one .nils), (.one .nils)]
def hs0 : List (Nat × Ent) := []
def facts0 : List Fact := []
def xs1 : List V1 := [(.one (.tslc 0 1 (.lit (.ofNat 0)) (.var 0) (.var 1))), (.one .nils)]
def hs1 : List (Nat × Ent) := [(0, ⟨false, .tab 0 (.tv 0) (.var 0) [.int .u8]⟩)]
def facts1 : List Fact := [(.rng (.var 0) ((some (.ofNat 0)), (some (.ofNat 9223372036854775807)))), (.rng (.var 1) ((some (.ofNat 0)), (some (.ofNat 9223372036854775807))))]
def xs2 : List V1 := [(.one .nils), (.one (.tslc 1 1 (.lit (.ofNat 0)) (.var 2) (.var 3)))]
def hs2 : List (Nat × Ent) := [(1, ⟨false, .tab 1 (.tv 1) (.var 2) [.bool]⟩)]
def facts2 : List Fact := [(.rng (.var 2) ((some (.ofNat 0)), (some (.ofNat 9223372036854775807)))), (.rng (.var 3) ((some (.ofNat 0)), (some (.ofNat 9223372036854775807))))]
def xs3 : List V1 := [(.one (.tslc 0 1 (.lit (.ofNat 0)) (.var 0) (.var 1))), (.one (.tslc 1 1 (.lit (.ofNat 0)) (.var 2) (.var 3)))]
def hs3 : List (Nat × Ent) := [(0, ⟨false, .tab 0 (.tv 0) (.var 0) [.int .u8]⟩), (1, ⟨false, .tab 1 (.tv 1) (.var 2) [.bool]⟩)]
def facts3 : List Fact := [(.rng (.var 0) ((some (.ofNat 0)), (some (.ofNat 9223372036854775807)))), (.rng (.var 1) ((some (.ofNat 0)), (some (.ofNat 9223372036854775807)))), (.rng (.var 2) ((some (.ofNat 0)), (some (.ofNat 9223372036854775807)))), (.rng (.var 3) ((some (.ofNat 0)), (some (.ofNat 9223372036854775807))))]
end Go.Proofs.Ytiimccljjdhplaa.uartOrder
