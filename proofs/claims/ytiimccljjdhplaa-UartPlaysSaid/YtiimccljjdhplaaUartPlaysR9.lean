/-
  'UartPlays': runs of its parts, checked by the kernel. Printed by program.
-/
import Derived.Test.YtiimccljjdhplaaUartPlaysL
namespace Go.Proofs.Ytiimccljjdhplaa.uartPlays
open Go.ChangeShapes Go.WideShapes Go.ChangeAt Go.RowKit Go.Sx
set_option linter.unusedVariables false
set_option linter.unusedSimpArgs false
set_option maxRecDepth 100000
theorem good_l1_8_17 : GoodP ⟨(TI.of Try.prog), (fnOf Try.prog), ⟨[], ctOf [ct_spoil, ct_state]⟩, 400, Try.f5, none⟩ (flat (loopBody (flat (bodyOf Try.f5)) 6)) (F ++ lem_l1_8) T.toS (some ⟨T, F, [(101, some 301)]⟩) [(0, ⟨TE, FE, []⟩)] [((.bin .lt (.var 102) (.lit (.ofNat 1))), false), ((.bin .lt (.var 102) (.lit (.ofNat 2))), false), ((.bin .lt (.var 102) (.lit (.ofNat 3))), true), ((.bin .lt (.var 105) (.lit (.ofNat 1))), false), ((.bin .lt (.var 105) (.lit (.ofNat 2))), true)] := ⟨[], by kernel_rfl, fun ρ _ ob h => absurd h List.not_mem_nil⟩
theorem good_l1_8_18 : GoodP ⟨(TI.of Try.prog), (fnOf Try.prog), ⟨[], ctOf [ct_spoil, ct_state]⟩, 400, Try.f5, none⟩ (flat (loopBody (flat (bodyOf Try.f5)) 6)) (F ++ lem_l1_8) T.toS (some ⟨T, F, [(101, some 301)]⟩) [(0, ⟨TE, FE, []⟩)] [((.bin .lt (.var 102) (.lit (.ofNat 1))), false), ((.bin .lt (.var 102) (.lit (.ofNat 2))), false), ((.bin .lt (.var 102) (.lit (.ofNat 3))), true), ((.bin .lt (.var 105) (.lit (.ofNat 1))), false), ((.bin .lt (.var 105) (.lit (.ofNat 2))), false), ((.bin .lt (.var 105) (.lit (.ofNat 3))), true)] := ⟨[], by kernel_rfl, fun ρ _ ob h => absurd h List.not_mem_nil⟩
theorem good_l1_8_19 : GoodP ⟨(TI.of Try.prog), (fnOf Try.prog), ⟨[], ctOf [ct_spoil, ct_state]⟩, 400, Try.f5, none⟩ (flat (loopBody (flat (bodyOf Try.f5)) 6)) (F ++ lem_l1_8) T.toS (some ⟨T, F, [(101, some 301)]⟩) [(0, ⟨TE, FE, []⟩)] [((.bin .lt (.var 102) (.lit (.ofNat 1))), false), ((.bin .lt (.var 102) (.lit (.ofNat 2))), false), ((.bin .lt (.var 102) (.lit (.ofNat 3))), true), ((.bin .lt (.var 105) (.lit (.ofNat 1))), false), ((.bin .lt (.var 105) (.lit (.ofNat 2))), false), ((.bin .lt (.var 105) (.lit (.ofNat 3))), false), ((.bin .lt (.var 105) (.lit (.ofNat 4))), true)] := ⟨[], by kernel_rfl, fun ρ _ ob h => absurd h List.not_mem_nil⟩
end Go.Proofs.Ytiimccljjdhplaa.uartPlays
