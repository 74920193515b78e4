/-
  'MshrNil': the templates of its loops, what is known there, contracts of what it calls. Printed by program.
-/
import Derived.Test.YtdicippbniglpaaRows
import Derived.Test.YtdicippbniglpaaSxC
namespace Go.Proofs.Ytdicippbniglpaa.mshrNil
open Go.ChangeShapes Go.WideShapes Go.ChangeAt Go.RowKit Go.Sx
set_option linter.unusedVariables false
set_option linter.unusedSimpArgs false
noncomputable section
def z : E := .lit (.ofNat 0)
def fT : Tm := ⟨[(4, .v (.one .nils)), (5, .v (.one (.bool z))), (6, .v (.one (.ptr 0 0))), (10, .v (.one (.fn 38 [] [(1, 0)])))], [(0, ⟨true, .cells [.nils] 55⟩), (1, ⟨true, .cells [.nils] 89⟩)], 2, 0⟩
def n_ : SV := .v (.one .nils)
def b_ : SV := .v (.one (.bool z))
def i_ (n : Nat) : SV := .v (.one (.int .i64 (.lit (.ofNat n))))
def u_ : SV := .v (.one (.int .u64 z))
def sl (d : SV) : List (Nat × SV) := [(0, .v (.one (.int .u64 (.var 0)))), (2, d), (6, .v (.one (.ptr 0 0))), (7, .v (.one .nilp)), (8, .v (.one .nilp)), (9, i_ 0), (10, b_), (11, i_ 2), (12, n_), (13, u_), (14, i_ 2), (15, i_ 0), (16, b_), (17, n_), (18, b_), (19, u_), (20, n_), (21, b_), (64, .v (.one (.fn 38 [] [(1, 0)])))]
def hT : List (Nat × Ent) := [(0, ⟨true, .cells [.bool z] 4⟩), (1, ⟨true, .cells [.nils] 89⟩)]
def T0 : Tm := ⟨sl n_, hT, 2, 0⟩
def T1 : Tm := ⟨sl (.v (.one (.tslc 2 1 z (.var 2) (.var 3)))), hT ++ [(2, ⟨false, .tab 2 (.tv 0) (.var 2) [.int .u8]⟩)], 3, 0⟩
def F0 : List Fact := [.rng (.var 0) (some (.ofNat 0), some (.ofNat 18446744073709551615))]
def F1 : List Fact := F0 ++ [.rng (.var 2) (some (.ofNat 0), some (.ofNat 140737488355328)), .rng (.var 3) (some (.ofNat 0), some (.ofNat 9223372036854775807))]
def FE : List Fact := []

def ct_awake : Ctr := ⟨8, [], [], 0, [], ⟨[.one (.bool (.lit (.ofNat 1)))], [], 0, 0⟩⟩
def ct_All : Ctr := ⟨38, [.one (.opq 1), .one (.ptr 0 0)], [(0, ⟨false, .cells [.nils] 89⟩)], 2, [], ⟨[], [], 2, 2⟩⟩
def ct_Find : Ctr := ⟨24, [.one .nilp, .one (.int .u64 (.var 0))], [], 0, [.rng (.var 0) (some (.ofNat 0), some (.ofNat 18446744073709551615))], ⟨[.one .nils, .one (.bool z)], [], 0, 0⟩⟩
def xs0 : List V1 := [(.one (.int .u64 (.var 0))), (.one (.int .i64 (.var 1))), (.one .nils)]
def hs0 : List (Nat × Ent) := []
def facts0 : List Fact := [(.rng (.var 0) ((some (.ofNat 0)), (some (.ofNat 18446744073709551615)))), (.rng (.var 1) ((some (.negSucc 9223372036854775807)), (some (.ofNat 9223372036854775807))))]
def st0 : S := ⟨argSlots xs0 0 .nil, putSets .leaf hs0, 1, []⟩
def xs1 : List V1 := [(.one (.int .u64 (.var 0))), (.one (.int .i64 (.var 1))), (.one (.tslc 0 1 (.lit (.ofNat 0)) (.var 2) (.var 3)))]
def hs1 : List (Nat × Ent) := [(0, ⟨false, .tab 0 (.tv 0) (.var 2) [.int .u8]⟩)]
def facts1 : List Fact := [(.rng (.var 0) ((some (.ofNat 0)), (some (.ofNat 18446744073709551615)))), (.rng (.var 1) ((some (.negSucc 9223372036854775807)), (some (.ofNat 9223372036854775807)))), (.rng (.var 2) ((some (.ofNat 0)), (some (.ofNat 140737488351232)))), (.rng (.var 3) ((some (.ofNat 0)), (some (.ofNat 9223372036854775807))))]
def st1 : S := ⟨argSlots xs1 0 .nil, putSets .leaf hs1, 1, []⟩
def lem_c_awake_0 : List Fact := []
def lem_c_All_1 : List Fact := []
def lem_c_Find_2 : List Fact := []
def lem_c_Find_3 : List Fact := []
def lem_l0_4 : List Fact := []
def lem_l0_5 : List Fact := []
def lem_l1_6 : List Fact := []
def lem_l1_7 : List Fact := []

theorem lem_c_awake_0_ok : ∀ ρ, (∀ g ∈ ct_awake.facts, Fact.holds ρ g) → ∀ g ∈ lem_c_awake_0, Fact.holds ρ g := fun _ _ _ h => absurd h List.not_mem_nil
theorem lem_c_All_1_ok : ∀ ρ, (∀ g ∈ ct_All.facts, Fact.holds ρ g) → ∀ g ∈ lem_c_All_1, Fact.holds ρ g := fun _ _ _ h => absurd h List.not_mem_nil
theorem lem_c_Find_2_ok : ∀ ρ, (∀ g ∈ ct_Find.facts, Fact.holds ρ g) → ∀ g ∈ lem_c_Find_2, Fact.holds ρ g := fun _ _ _ h => absurd h List.not_mem_nil
theorem lem_c_Find_3_ok : ∀ ρ, (∀ g ∈ FE, Fact.holds ρ g) → ∀ g ∈ lem_c_Find_3, Fact.holds ρ g := fun _ _ _ h => absurd h List.not_mem_nil
theorem lem_l0_4_ok : ∀ ρ, (∀ g ∈ facts0, Fact.holds ρ g) → ∀ g ∈ lem_l0_4, Fact.holds ρ g := fun _ _ _ h => absurd h List.not_mem_nil
theorem lem_l0_5_ok : ∀ ρ, (∀ g ∈ F0, Fact.holds ρ g) → ∀ g ∈ lem_l0_5, Fact.holds ρ g := fun _ _ _ h => absurd h List.not_mem_nil
theorem lem_l1_6_ok : ∀ ρ, (∀ g ∈ facts1, Fact.holds ρ g) → ∀ g ∈ lem_l1_6, Fact.holds ρ g := fun _ _ _ h => absurd h List.not_mem_nil
theorem lem_l1_7_ok : ∀ ρ, (∀ g ∈ F1, Fact.holds ρ g) → ∀ g ∈ lem_l1_7, Fact.holds ρ g := fun _ _ _ h => absurd h List.not_mem_nil
end
end Go.Proofs.Ytdicippbniglpaa.mshrNil
