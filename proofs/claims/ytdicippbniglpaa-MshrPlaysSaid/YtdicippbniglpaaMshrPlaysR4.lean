/-
  'MshrPlays': runs of its parts, checked by the kernel. Printed by program.
-/
import Derived.Test.YtdicippbniglpaaMshrPlaysL
namespace Go.Proofs.Ytdicippbniglpaa.mshrPlays
open Go.ChangeShapes Go.WideShapes Go.ChangeAt Go.RowKit Go.Sx
set_option linter.unusedVariables false
set_option linter.unusedSimpArgs false
set_option maxRecDepth 100000
set_option maxHeartbeats 1600000
theorem good_l1_28_3 : GoodP ⟨(TI.of Try.prog), (fnOf Try.prog), ⟨[(28500004, [0, 1, 4, 5, 26]), (13500001, [0, 1, 2, 3]), (21000001, [0, 2, 3, 5, 7, 11, 12, 13, 16]), (258000007, [0, 1, 4, 5, 6, 7, 8, 9, 10, 11, 12, 13, 14, 15, 16, 17, 18, 19, 20, 21, 22, 47, 49, 61, 73, 87, 95, 107, 118, 130, 144, 155, 156, 183, 194, 217, 223, 241, 244, 251, 257]), (258000004, [0, 1, 4, 5, 6, 7, 8, 9, 10, 11, 12, 13, 14, 15, 16, 17, 18, 19, 20, 21, 22, 47, 49, 61, 73, 87, 95, 107, 118, 130, 144, 155, 156, 183, 194, 217, 223, 241, 244, 251, 257])], ctOf [ct_awake, ct_samei]⟩, 400, Try.f3, none⟩ (flat (loopBody (flat (bodyOf Try.f3)) 8)) (F5 ++ lem_l1_28) T5.toS (some ⟨T5, F5, [(101, some 201)]⟩) [(0, ⟨TE, FE, []⟩)] [((.bin .eq (.un (.wrap .i64) (.get (.tv 0) (.var 101) 0)) (.lit (.ofNat 1))), true), ((.ite (.var 110) (.bin .eq (.var 120) (.bin (.and .u64) (.un (.wrap .u64) (.get (.tv 0) (.var 101) 2)) (.lit (.ofNat 18446744073709551552)))) (.lit (.ofNat 0))), false), ((.ite (.var 111) (.bin .eq (.var 121) (.bin (.and .u64) (.un (.wrap .u64) (.get (.tv 0) (.var 101) 2)) (.lit (.ofNat 18446744073709551552)))) (.lit (.ofNat 0))), false), ((.ite (.var 112) (.bin .eq (.var 122) (.bin (.and .u64) (.un (.wrap .u64) (.get (.tv 0) (.var 101) 2)) (.lit (.ofNat 18446744073709551552)))) (.lit (.ofNat 0))), false)] := ⟨[], by kernel_rfl, fun ρ _ ob h => absurd h List.not_mem_nil⟩
end Go.Proofs.Ytdicippbniglpaa.mshrPlays
