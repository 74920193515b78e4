/-
  'BusFull': runs of its parts, checked by the kernel. Printed by program.
-/
import Derived.Test.YtiocpbfbhbgfaaaBusFullL
namespace Go.Proofs.Ytiocpbfbhbgfaaa.busFull
open Go.ChangeShapes Go.WideShapes Go.ChangeAt Go.RowKit Go.Sx
set_option linter.unusedVariables false
set_option linter.unusedSimpArgs false
set_option maxRecDepth 100000
set_option maxHeartbeats 1600000
theorem good_c_awake_0_0 : GoodP ⟨(TI.of Try.prog), (fnOf Try.prog), ⟨[], ctOf []⟩, 400, Try.f11, (some ct_awake.R)⟩ (flat (bodyOf Try.f11)) (ct_awake.facts ++ lem_c_awake_0) ct_awake.s0 none [] [] := ⟨[], by kernel_rfl, fun ρ _ ob h => absurd h List.not_mem_nil⟩
theorem good_l0_1_0 : GoodP ⟨(TI.of Try.prog), (fnOf Try.prog), ⟨[], ctOf [ct_awake]⟩, 400, Try.f6, none⟩ (flat (bodyOf Try.f6)) (facts0 ++ lem_l0_1) st0 none [] [] := ⟨[], by kernel_rfl, fun ρ _ ob h => absurd h List.not_mem_nil⟩
theorem good_l1_2_0 : GoodP ⟨(TI.of Try.prog), (fnOf Try.prog), ⟨[], ctOf [ct_awake]⟩, 400, Try.f6, none⟩ ((flat (bodyOf Try.f6)).take 8) (facts1 ++ lem_l1_2) st1 (some ⟨T000, F000, [], fam⟩) [] [((.bin .lt (.bin .rem (.un (.wrap .u64) (.var 2)) (.lit (.ofNat 3))) (.lit (.ofNat 1))), true)] := ⟨[], by kernel_rfl, fun ρ _ ob h => absurd h List.not_mem_nil⟩
theorem good_l1_2_1 : GoodP ⟨(TI.of Try.prog), (fnOf Try.prog), ⟨[], ctOf [ct_awake]⟩, 400, Try.f6, none⟩ ((flat (bodyOf Try.f6)).take 8) (facts1 ++ lem_l1_2) st1 (some ⟨T000, F000, [], fam⟩) [] [((.bin .lt (.bin .rem (.un (.wrap .u64) (.var 2)) (.lit (.ofNat 3))) (.lit (.ofNat 1))), false), ((.bin .lt (.bin .rem (.un (.wrap .u64) (.var 2)) (.lit (.ofNat 3))) (.lit (.ofNat 2))), true)] := ⟨[], by kernel_rfl, fun ρ _ ob h => absurd h List.not_mem_nil⟩
theorem good_l1_2_2 : GoodP ⟨(TI.of Try.prog), (fnOf Try.prog), ⟨[], ctOf [ct_awake]⟩, 400, Try.f6, none⟩ ((flat (bodyOf Try.f6)).take 8) (facts1 ++ lem_l1_2) st1 (some ⟨T000, F000, [], fam⟩) [] [((.bin .lt (.bin .rem (.un (.wrap .u64) (.var 2)) (.lit (.ofNat 3))) (.lit (.ofNat 1))), false), ((.bin .lt (.bin .rem (.un (.wrap .u64) (.var 2)) (.lit (.ofNat 3))) (.lit (.ofNat 2))), false)] := ⟨[], by kernel_rfl, fun ρ _ ob h => absurd h List.not_mem_nil⟩
theorem good_l1_3_0 : GoodP ⟨(TI.of Try.prog), (fnOf Try.prog), ⟨[], ctOf [ct_awake]⟩, 400, Try.f6, none⟩ (flat (loopBody (flat (bodyOf Try.f6)) 8)) (F000 ++ lem_l1_3) T000.toS (some ⟨T000, F000, [(110, some 41)], fam⟩) [(0, ⟨TE, FE, [], []⟩)] [] := ⟨[], by kernel_rfl, fun ρ _ ob h => absurd h List.not_mem_nil⟩
theorem good_l1_4_0 : GoodP ⟨(TI.of Try.prog), (fnOf Try.prog), ⟨[], ctOf [ct_awake]⟩, 400, Try.f6, none⟩ (flat (loopBody (flat (bodyOf Try.f6)) 8)) (F001 ++ lem_l1_4) T001.toS (some ⟨T000, F000, [(110, some 41)], fam⟩) [(0, ⟨TE, FE, [], []⟩)] [((.bin .eq (.var 101) idE), true)] := ⟨[], by kernel_rfl, fun ρ _ ob h => absurd h List.not_mem_nil⟩
theorem good_l1_4_1 : GoodP ⟨(TI.of Try.prog), (fnOf Try.prog), ⟨[], ctOf [ct_awake]⟩, 400, Try.f6, none⟩ (flat (loopBody (flat (bodyOf Try.f6)) 8)) (F001 ++ lem_l1_4) T001.toS (some ⟨T000, F000, [(110, some 41)], fam⟩) [(0, ⟨TE, FE, [], []⟩)] [((.bin .eq (.var 101) idE), false)] := ⟨[], by kernel_rfl, fun ρ _ ob h => absurd h List.not_mem_nil⟩
theorem good_l1_5_0 : GoodP ⟨(TI.of Try.prog), (fnOf Try.prog), ⟨[], ctOf [ct_awake]⟩, 400, Try.f6, none⟩ (flat (loopBody (flat (bodyOf Try.f6)) 8)) (F002 ++ lem_l1_5) T002.toS (some ⟨T000, F000, [(110, some 41)], fam⟩) [(0, ⟨TE, FE, [], []⟩)] [((.bin .eq (.var 102) idE), true)] := ⟨[], by kernel_rfl, fun ρ _ ob h => absurd h List.not_mem_nil⟩
theorem good_l1_5_1 : GoodP ⟨(TI.of Try.prog), (fnOf Try.prog), ⟨[], ctOf [ct_awake]⟩, 400, Try.f6, none⟩ (flat (loopBody (flat (bodyOf Try.f6)) 8)) (F002 ++ lem_l1_5) T002.toS (some ⟨T000, F000, [(110, some 41)], fam⟩) [(0, ⟨TE, FE, [], []⟩)] [((.bin .eq (.var 102) idE), false), ((.bin .eq (.var 101) idE), true)] := ⟨[], by kernel_rfl, fun ρ _ ob h => absurd h List.not_mem_nil⟩
theorem good_l1_5_2 : GoodP ⟨(TI.of Try.prog), (fnOf Try.prog), ⟨[], ctOf [ct_awake]⟩, 400, Try.f6, none⟩ (flat (loopBody (flat (bodyOf Try.f6)) 8)) (F002 ++ lem_l1_5) T002.toS (some ⟨T000, F000, [(110, some 41)], fam⟩) [(0, ⟨TE, FE, [], []⟩)] [((.bin .eq (.var 102) idE), false), ((.bin .eq (.var 101) idE), false)] := ⟨[], by kernel_rfl, fun ρ _ ob h => absurd h List.not_mem_nil⟩
end Go.Proofs.Ytiocpbfbhbgfaaa.busFull
