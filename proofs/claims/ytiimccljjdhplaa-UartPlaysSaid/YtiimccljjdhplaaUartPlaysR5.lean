/-
  'UartPlays': runs of its parts, checked by the kernel. Printed by program.
-/
import Derived.Test.YtiimccljjdhplaaUartPlaysL
namespace Go.Proofs.Ytiimccljjdhplaa.uartPlays
open Go.ChangeShapes Go.WideShapes Go.ChangeAt Go.RowKit Go.Sx
set_option linter.unusedVariables false
set_option linter.unusedSimpArgs false
set_option maxRecDepth 100000
theorem good_l1_8_5 : GoodP ⟨(TI.of Try.prog), (fnOf Try.prog), ⟨[], ctOf [ct_spoil, ct_state]⟩, 400, Try.f5, none⟩ (flat (loopBody (flat (bodyOf Try.f5)) 6)) (F ++ lem_l1_8) T.toS (some ⟨T, F, [(101, some 301)]⟩) [(0, ⟨TE, FE, []⟩)] [((.bin .lt (.var 102) (.lit (.ofNat 1))), true), ((.bin .lt (.var 105) (.lit (.ofNat 1))), false), ((.bin .lt (.var 105) (.lit (.ofNat 2))), false), ((.bin .lt (.var 105) (.lit (.ofNat 3))), false), ((.bin .lt (.var 105) (.lit (.ofNat 4))), false), ((.bin .lt (.var 105) (.lit (.ofNat 5))), false), ((.bin .lt (.var 105) (.lit (.ofNat 6))), true)] := ⟨[], by kernel_rfl, fun ρ _ ob h => absurd h List.not_mem_nil⟩
theorem good_l1_8_6 : GoodP ⟨(TI.of Try.prog), (fnOf Try.prog), ⟨[], ctOf [ct_spoil, ct_state]⟩, 400, Try.f5, none⟩ (flat (loopBody (flat (bodyOf Try.f5)) 6)) (F ++ lem_l1_8) T.toS (some ⟨T, F, [(101, some 301)]⟩) [(0, ⟨TE, FE, []⟩)] [((.bin .lt (.var 102) (.lit (.ofNat 1))), true), ((.bin .lt (.var 105) (.lit (.ofNat 1))), false), ((.bin .lt (.var 105) (.lit (.ofNat 2))), false), ((.bin .lt (.var 105) (.lit (.ofNat 3))), false), ((.bin .lt (.var 105) (.lit (.ofNat 4))), false), ((.bin .lt (.var 105) (.lit (.ofNat 5))), false), ((.bin .lt (.var 105) (.lit (.ofNat 6))), false), ((.bin .lt (.var 105) (.lit (.ofNat 7))), true)] := ⟨[], by kernel_rfl, fun ρ _ ob h => absurd h List.not_mem_nil⟩
theorem good_l1_8_7 : GoodP ⟨(TI.of Try.prog), (fnOf Try.prog), ⟨[], ctOf [ct_spoil, ct_state]⟩, 400, Try.f5, none⟩ (flat (loopBody (flat (bodyOf Try.f5)) 6)) (F ++ lem_l1_8) T.toS (some ⟨T, F, [(101, some 301)]⟩) [(0, ⟨TE, FE, []⟩)] [((.bin .lt (.var 102) (.lit (.ofNat 1))), true), ((.bin .lt (.var 105) (.lit (.ofNat 1))), false), ((.bin .lt (.var 105) (.lit (.ofNat 2))), false), ((.bin .lt (.var 105) (.lit (.ofNat 3))), false), ((.bin .lt (.var 105) (.lit (.ofNat 4))), false), ((.bin .lt (.var 105) (.lit (.ofNat 5))), false), ((.bin .lt (.var 105) (.lit (.ofNat 6))), false), ((.bin .lt (.var 105) (.lit (.ofNat 7))), false)] := ⟨[], by kernel_rfl, fun ρ _ ob h => absurd h List.not_mem_nil⟩
end Go.Proofs.Ytiimccljjdhplaa.uartPlays
