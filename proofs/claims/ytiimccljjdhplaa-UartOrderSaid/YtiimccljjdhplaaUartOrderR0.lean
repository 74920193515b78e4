/-
  'UartOrder': runs of its parts, checked by the kernel. Printed by program.
-/
import Derived.Test.YtiimccljjdhplaaUartOrderL
namespace Go.Proofs.Ytiimccljjdhplaa.uartOrder
open Go.ChangeShapes Go.WideShapes Go.ChangeAt Go.RowKit Go.Sx
set_option linter.unusedVariables false
set_option linter.unusedSimpArgs false
set_option maxRecDepth 100000
theorem good0n0_0 : GoodP (TI.of Try.prog) (fnOf Try.prog) mbl 400 Try.f4 ((flat (bodyOf Try.f4)).take (6 + 1)) (facts0 ++ []) ⟨argSlots xs0 0 .nil, putSets .leaf hs0, 2, []⟩ (some TE) factsE none none [] [] := ⟨[], by kernel_rfl, fun ρ _ ob h => absurd h List.not_mem_nil⟩
theorem good0n1_0 : GoodP (TI.of Try.prog) (fnOf Try.prog) mbl 400 Try.f4 ((flat (bodyOf Try.f4)).take 6) (facts1 ++ []) ⟨argSlots xs1 0 .nil, putSets .leaf hs1, 2, []⟩ (some TN) factsTN none none [] [] := ⟨[], by kernel_rfl, fun ρ _ ob h => absurd h List.not_mem_nil⟩
theorem good0n2_0 : GoodP (TI.of Try.prog) (fnOf Try.prog) mbl 400 Try.f4 ((flat (bodyOf Try.f4)).take (6 + 1)) (facts2 ++ []) ⟨argSlots xs2 0 .nil, putSets .leaf hs2, 2, []⟩ (some TE) factsE none none [] [] := ⟨[], by kernel_rfl, fun ρ _ ob h => absurd h List.not_mem_nil⟩
theorem good0n3_0 : GoodP (TI.of Try.prog) (fnOf Try.prog) mbl 400 Try.f4 ((flat (bodyOf Try.f4)).take 6) (facts3 ++ []) ⟨argSlots xs3 0 .nil, putSets .leaf hs3, 2, []⟩ (some T) factsL none none [] [] := ⟨[], by kernel_rfl, fun ρ _ ob h => absurd h List.not_mem_nil⟩
theorem goodTL_0 : GoodP (TI.of Try.prog) (fnOf Try.prog) mbl 400 Try.f4 (flat (loopBody (flat (bodyOf Try.f4)) 6)) (factsL ++ lemL) T.toS (some T) factsL (some (101, 301)) (some (0, TE)) factsE [((.bin .lt (.var 102) (.lit (.ofNat 1))), true), ((.bin .lt (.var 105) (.lit (.ofNat 1))), true)] := ⟨[], by kernel_rfl, fun ρ _ ob h => absurd h List.not_mem_nil⟩
theorem goodTL_1 : GoodP (TI.of Try.prog) (fnOf Try.prog) mbl 400 Try.f4 (flat (loopBody (flat (bodyOf Try.f4)) 6)) (factsL ++ lemL) T.toS (some T) factsL (some (101, 301)) (some (0, TE)) factsE [((.bin .lt (.var 102) (.lit (.ofNat 1))), true), ((.bin .lt (.var 105) (.lit (.ofNat 1))), false), ((.bin .lt (.var 105) (.lit (.ofNat 2))), true)] := ⟨[], by kernel_rfl, fun ρ _ ob h => absurd h List.not_mem_nil⟩
theorem goodTL_2 : GoodP (TI.of Try.prog) (fnOf Try.prog) mbl 400 Try.f4 (flat (loopBody (flat (bodyOf Try.f4)) 6)) (factsL ++ lemL) T.toS (some T) factsL (some (101, 301)) (some (0, TE)) factsE [((.bin .lt (.var 102) (.lit (.ofNat 1))), true), ((.bin .lt (.var 105) (.lit (.ofNat 1))), false), ((.bin .lt (.var 105) (.lit (.ofNat 2))), false), ((.bin .lt (.var 105) (.lit (.ofNat 3))), true)] := ⟨[], by kernel_rfl, fun ρ _ ob h => absurd h List.not_mem_nil⟩
theorem goodTL_3 : GoodP (TI.of Try.prog) (fnOf Try.prog) mbl 400 Try.f4 (flat (loopBody (flat (bodyOf Try.f4)) 6)) (factsL ++ lemL) T.toS (some T) factsL (some (101, 301)) (some (0, TE)) factsE [((.bin .lt (.var 102) (.lit (.ofNat 1))), true), ((.bin .lt (.var 105) (.lit (.ofNat 1))), false), ((.bin .lt (.var 105) (.lit (.ofNat 2))), false), ((.bin .lt (.var 105) (.lit (.ofNat 3))), false), ((.bin .lt (.var 105) (.lit (.ofNat 4))), true)] := ⟨[], by kernel_rfl, fun ρ _ ob h => absurd h List.not_mem_nil⟩
end Go.Proofs.Ytiimccljjdhplaa.uartOrder
