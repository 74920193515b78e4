/-
  'UartPlays': the templates of its loops, what is known there, contracts of what it calls. Printed by program.
-/
import Derived.Test.YtiimccljjdhplaaRows
import Derived.Test.YtiimccljjdhplaaSxC
namespace Go.Proofs.Ytiimccljjdhplaa.uartPlays
open Go.ChangeShapes Go.WideShapes Go.ChangeAt Go.RowKit Go.Sx
set_option linter.unusedVariables false
set_option linter.unusedSimpArgs false
noncomputable section

def z : E := .lit (.ofNat 0)
def r (i : Nat) (a b : Nat) : Fact := .rng (.var i) (some (.ofNat a), some (.ofNat b))
def ring : E := (.upd (.upd (.upd (.upd (.upd (.upd (.upd (.upd (.app 5 (.app 2 (.tv 0) (.tv 0)) (.lit (.ofNat 0))) (.lit (.ofNat 0)) 0 (.var 110)) (.lit (.ofNat 1)) 0 (.var 111)) (.lit (.ofNat 2)) 0 (.var 112)) (.lit (.ofNat 3)) 0 (.var 113)) (.lit (.ofNat 4)) 0 (.var 114)) (.lit (.ofNat 5)) 0 (.var 115)) (.lit (.ofNat 6)) 0 (.var 116)) (.lit (.ofNat 7)) 0 (.var 117))
def uc : Ent := ⟨true, .cells [.int .u8 (.var 110), .int .u8 (.var 111), .int .u8 (.var 112), .int .u8 (.var 113), .int .u8 (.var 114), .int .u8 (.var 115), .int .u8 (.var 116), .int .u8 (.var 117), .int .i64 (.var 105), .int .i64 (.var 102), .osl 3, .int .u32 (.var 106), .bool (.var 119)] 58⟩
def wc : Ent := ⟨true, .cells [.osl 4, .osl 5, .bool (.bin .eq (.var 106) (.lit (.ofNat 1))), .bool (.var 119)] 47⟩
def T : Tm := ⟨[(0, .v (.one (.tslc 0 4 z (.var 0) (.var 1)))), (3, .v (.one (.ptr 1 0))), (4, .v (.one (.ptr 2 0))), (5, .v (.one (.int .i64 (.var 101))))],
  [(0, ⟨false, .tab 0 (.tv 0) (.var 0) [.int .i64, .int .u64, .int .u64, .int .i64]⟩), (1, uc), (2, wc), (3, ⟨true, .seq 3 (.tv 101) (.var 103) [.int .u8] 5⟩), (4, ⟨true, .seq 4 (.app 4 ring (.var 105)) (.var 102) [.int .u8] 5⟩), (5, ⟨true, .seq 5 (.tv 101) (.var 103) [.int .u8] 5⟩)], 6, 0⟩
def TE : Tm := ⟨[], [], 0, 0⟩
def F : List Fact := [r 0 0 9223372036854775807, r 1 0 9223372036854775807, r 101 0 300, r 102 0 8, r 103 0 300, r 105 0 7, r 106 0 1, r 110 0 255, r 111 0 255, r 112 0 255, r 113 0 255, r 114 0 255, r 115 0 255, r 116 0 255, r 117 0 255, r 119 0 1, .tr (.bin .lt (.var 101) (.var 103)) false]
def FE : List Fact := []
def sT : Tm := ⟨[(0, .v (.one (.osl 0))), (2, .v (.one (.int .i64 (.var 101))))], [(0, ⟨true, .seq 0 (.tv 100) (.var 0) [.int .u8] 5⟩)], 1, 1⟩
def sE : Tm := ⟨[], [(0, ⟨true, .seq 0 (.tv 100) (.var 0) [.int .u8] 5⟩)], 1, 1⟩
def sF : List Fact := [r 0 0 140737488355328, r 101 0 140737488355328]
def ring0 : E := (.upd (.upd (.upd (.upd (.upd (.upd (.upd (.upd (.app 5 (.app 2 (.tv 0) (.tv 0)) (.lit (.ofNat 0))) (.lit (.ofNat 0)) 0 (.var 10)) (.lit (.ofNat 1)) 0 (.var 11)) (.lit (.ofNat 2)) 0 (.var 12)) (.lit (.ofNat 3)) 0 (.var 13)) (.lit (.ofNat 4)) 0 (.var 14)) (.lit (.ofNat 5)) 0 (.var 15)) (.lit (.ofNat 6)) 0 (.var 16)) (.lit (.ofNat 7)) 0 (.var 17))
def uc0 : Ent := ⟨false, .cells [.int .u8 (.var 10), .int .u8 (.var 11), .int .u8 (.var 12), .int .u8 (.var 13), .int .u8 (.var 14), .int .u8 (.var 15), .int .u8 (.var 16), .int .u8 (.var 17), .int .i64 (.var 1), .int .i64 (.var 0), .osl 1, .int .u32 (.var 2), .bool (.var 3)] 58⟩
def dT (n : E) : Tm := ⟨[(0, .v (.one (.ptr 0 0))), (2, .v (.one (.ptr 2 0))), (3, .v (.one (.ptr 3 0))), (22, .v (.one (.int .i64 (.var 0)))), (23, .v (.one (.int .i64 (.var 101))))],
  [(0, uc0), (1, ⟨false, .seq 1 (.tv 0) (.var 4) [.int .u8] 5⟩), (2, ⟨true, .cells [.bool z, .int .u64 z, .int .u64 z, .int .u32 z, .int .u32 z, .int .u32 z, .int .u32 z, .int .u32 z, .int .u32 z, .int .u32 z, .int .u32 z, .int .u32 z, .int .u32 z, .int .u32 z, .int .u32 z, .int .u32 z, .int .u32 z, .int .u32 z, .nils, .nils, .int .u32 z, .bool z] 37⟩), (3, ⟨true, .cells [.bool z, .int .u64 z, .int .u64 z, .int .u32 z, .int .u32 z, .int .u32 z, .int .u32 z, .int .u32 z, .int .u32 z, .int .u32 z, .int .u32 z, .int .u32 z, .int .u32 z, .int .u32 z, .int .u32 z, .int .u32 z, .int .u32 z, .int .u32 z, .osl 4, .osl 5, .int .u32 (.var 2), .bool (.var 3)] 37⟩), (4, ⟨true, .seq 4 (.app 4 ring0 (.var 1)) n [.int .u8] 5⟩), (5, ⟨true, .seq 5 (.tv 0) (.var 4) [.int .u8] 5⟩)], 6, 2⟩
def dF : List Fact := [r 0 0 8, r 1 0 7, r 2 0 4294967295, r 3 0 1, r 4 0 1099511627776, r 10 0 255, r 11 0 255, r 12 0 255, r 13 0 255, r 14 0 255, r 15 0 255, r 16 0 255, r 17 0 255]
def dF1 : List Fact := [r 101 0 8, .tr (.bin .lt (.var 0) (.var 101)) false] ++ dF

def ct_spoil : Ctr := ⟨23, [.one (.osl 0)], [(0, ⟨true, .seq 0 (.tv 0) (.var 0) [.int .u8] 5⟩)], 1, [r 0 0 140737488355328], ⟨[], [(0, ⟨true, .dead⟩)], 1, 1⟩⟩
def ct_state : Ctr := ⟨14, [.one (.ptr 0 0)], [(0, uc0), (1, ⟨false, .seq 1 (.tv 0) (.var 4) [.int .u8] 5⟩)], 2, dF, ⟨[.agg [.bool z, .int .u64 z, .int .u64 z, .int .u32 z, .int .u32 z, .int .u32 z, .int .u32 z, .int .u32 z, .int .u32 z, .int .u32 z, .int .u32 z, .int .u32 z, .int .u32 z, .int .u32 z, .int .u32 z, .int .u32 z, .int .u32 z, .int .u32 z, .osl 2, .osl 3, .int .u32 (.var 2), .bool (.var 3)]], [(2, ⟨true, .seq 2 (.app 4 ring0 (.var 1)) (.var 0) [.int .u8] 5⟩), (3, ⟨true, .seq 3 (.tv 0) (.var 4) [.int .u8] 5⟩)], 4, 2⟩⟩
def xs0 : List V1 := [(.one .nils)]
def hs0 : List (Nat × Ent) := []
def facts0 : List Fact := []
def st0 : S := ⟨argSlots xs0 0 .nil, putSets .leaf hs0, 1, []⟩
def xs1 : List V1 := [(.one (.tslc 0 4 (.lit (.ofNat 0)) (.var 0) (.var 1)))]
def hs1 : List (Nat × Ent) := [(0, ⟨false, .tab 0 (.tv 0) (.var 0) [.int .i64, .int .u64, .int .u64, .int .i64]⟩)]
def facts1 : List Fact := [(.rng (.var 0) ((some (.ofNat 0)), (some (.ofNat 4398046510976)))), (.rng (.var 1) ((some (.ofNat 0)), (some (.ofNat 9223372036854775807))))]
def st1 : S := ⟨argSlots xs1 0 .nil, putSets .leaf hs1, 1, []⟩
def lem_c_spoil_0 : List Fact := []
def lem_c_spoil_1 : List Fact := []
def lem_c_spoil_2 : List Fact := []
def lem_c_state_3 : List Fact := []
def lem_c_state_4 : List Fact := []
def lem_c_state_5 : List Fact := []
def lem_l0_6 : List Fact := []
def lem_l1_7 : List Fact := []
def lem_l1_8 : List Fact := []
def lem_l1_9 : List Fact := []

theorem lem_c_spoil_0_ok : ∀ ρ, (∀ g ∈ ct_spoil.facts, Fact.holds ρ g) → ∀ g ∈ lem_c_spoil_0, Fact.holds ρ g := fun _ _ _ h => absurd h List.not_mem_nil
theorem lem_c_spoil_1_ok : ∀ ρ, (∀ g ∈ sF, Fact.holds ρ g) → ∀ g ∈ lem_c_spoil_1, Fact.holds ρ g := fun _ _ _ h => absurd h List.not_mem_nil
theorem lem_c_spoil_2_ok : ∀ ρ, (∀ g ∈ sF, Fact.holds ρ g) → ∀ g ∈ lem_c_spoil_2, Fact.holds ρ g := fun _ _ _ h => absurd h List.not_mem_nil
theorem lem_c_state_3_ok : ∀ ρ, (∀ g ∈ ct_state.facts, Fact.holds ρ g) → ∀ g ∈ lem_c_state_3, Fact.holds ρ g := fun _ _ _ h => absurd h List.not_mem_nil
theorem lem_c_state_4_ok : ∀ ρ, (∀ g ∈ dF1, Fact.holds ρ g) → ∀ g ∈ lem_c_state_4, Fact.holds ρ g := fun _ _ _ h => absurd h List.not_mem_nil
theorem lem_c_state_5_ok : ∀ ρ, (∀ g ∈ dF, Fact.holds ρ g) → ∀ g ∈ lem_c_state_5, Fact.holds ρ g := fun _ _ _ h => absurd h List.not_mem_nil
theorem lem_l0_6_ok : ∀ ρ, (∀ g ∈ facts0, Fact.holds ρ g) → ∀ g ∈ lem_l0_6, Fact.holds ρ g := fun _ _ _ h => absurd h List.not_mem_nil
theorem lem_l1_7_ok : ∀ ρ, (∀ g ∈ facts1, Fact.holds ρ g) → ∀ g ∈ lem_l1_7, Fact.holds ρ g := fun _ _ _ h => absurd h List.not_mem_nil
theorem lem_l1_8_ok : ∀ ρ, (∀ g ∈ F, Fact.holds ρ g) → ∀ g ∈ lem_l1_8, Fact.holds ρ g := fun _ _ _ h => absurd h List.not_mem_nil
theorem lem_l1_9_ok : ∀ ρ, (∀ g ∈ FE, Fact.holds ρ g) → ∀ g ∈ lem_l1_9, Fact.holds ρ g := fun _ _ _ h => absurd h List.not_mem_nil
end
end Go.Proofs.Ytiimccljjdhplaa.uartPlays
