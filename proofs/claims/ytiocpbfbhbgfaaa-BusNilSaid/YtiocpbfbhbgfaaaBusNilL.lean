/-
  'BusNil': the templates of its loops, what is known there, contracts of what it calls. Printed by program.
-/
import Derived.Test.YtiocpbfbhbgfaaaRows
import Derived.Test.YtiocpbfbhbgfaaaSxC
namespace Go.Proofs.Ytiocpbfbhbgfaaa.busNil
open Go.ChangeShapes Go.WideShapes Go.ChangeAt Go.RowKit Go.Sx
set_option linter.unusedVariables false
set_option linter.unusedSimpArgs false
noncomputable section
def z : E := .lit (.ofNat 0)

def ct_awake : Ctr := ⟨11, [], [], 0, [], ⟨[.one (.bool (.lit (.ofNat 1)))], [], 0, 0⟩⟩
def xs0 : List V1 := [(.agg [(.opq 0), (.opq 1), (.opq 2), (.opq 3), (.opq 4), (.opq 5), (.opq 6), (.opq 7)]), (.agg [(.int .i64 (.var 0)), (.int .i64 (.var 1)), (.int .i64 (.var 2)), (.int .i64 (.var 3))]), (.one (.int .i64 (.var 4))), (.one (.int .i64 (.var 5)))]
def hs0 : List (Nat × Ent) := []
def facts0 : List Fact := [(.rng (.var 0) ((some (.negSucc 9223372036854775807)), (some (.ofNat 9223372036854775807)))), (.rng (.var 1) ((some (.negSucc 9223372036854775807)), (some (.ofNat 9223372036854775807)))), (.rng (.var 2) ((some (.negSucc 9223372036854775807)), (some (.ofNat 9223372036854775807)))), (.rng (.var 3) ((some (.negSucc 9223372036854775807)), (some (.ofNat 9223372036854775807)))), (.rng (.var 4) ((some (.negSucc 9223372036854775807)), (some (.ofNat 9223372036854775807)))), (.rng (.var 5) ((some (.negSucc 9223372036854775807)), (some (.ofNat 9223372036854775807))))]
def st0 : S := ⟨argSlots xs0 0 .nil, putSets .leaf hs0, 8, []⟩
def lem_c_awake_0 : List Fact := []
def lem_l0_1 : List Fact := []

theorem lem_c_awake_0_ok : ∀ ρ, (∀ g ∈ ct_awake.facts, Fact.holds ρ g) → ∀ g ∈ lem_c_awake_0, Fact.holds ρ g := fun _ _ _ h => absurd h List.not_mem_nil
theorem lem_l0_1_ok : ∀ ρ, (∀ g ∈ facts0, Fact.holds ρ g) → ∀ g ∈ lem_l0_1, Fact.holds ρ g := fun _ _ _ h => absurd h List.not_mem_nil
end
end Go.Proofs.Ytiocpbfbhbgfaaa.busNil
