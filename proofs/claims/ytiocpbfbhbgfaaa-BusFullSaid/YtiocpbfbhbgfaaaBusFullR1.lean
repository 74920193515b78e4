/-
  'BusFull': runs of its parts, checked by the kernel. Printed by program.
-/
import Derived.Test.YtiocpbfbhbgfaaaBusFullL
namespace Go.Proofs.Ytiocpbfbhbgfaaa.busFull
open Go.ChangeShapes Go.WideShapes Go.ChangeAt Go.RowKit Go.Sx
set_option linter.unusedVariables false
set_option linter.unusedSimpArgs false
set_option maxRecDepth 100000
set_option maxHeartbeats 1600000
theorem good_l1_6_0 : GoodP ⟨(TI.of Try.prog), (fnOf Try.prog), ⟨[], ctOf [ct_awake]⟩, 400, Try.f6, none⟩ (flat (loopBody (flat (bodyOf Try.f6)) 8)) (F003 ++ lem_l1_6) T003.toS (some ⟨T000, F000, [(110, some 41)], fam⟩) [(0, ⟨TE, FE, [], []⟩)] [((.bin .eq (.var 103) idE), true)] := ⟨[], by kernel_rfl, fun ρ _ ob h => absurd h List.not_mem_nil⟩
theorem good_l1_6_1 : GoodP ⟨(TI.of Try.prog), (fnOf Try.prog), ⟨[], ctOf [ct_awake]⟩, 400, Try.f6, none⟩ (flat (loopBody (flat (bodyOf Try.f6)) 8)) (F003 ++ lem_l1_6) T003.toS (some ⟨T000, F000, [(110, some 41)], fam⟩) [(0, ⟨TE, FE, [], []⟩)] [((.bin .eq (.var 103) idE), false), ((.bin .eq (.var 102) idE), true)] := ⟨[], by kernel_rfl, fun ρ _ ob h => absurd h List.not_mem_nil⟩
theorem good_l1_6_2 : GoodP ⟨(TI.of Try.prog), (fnOf Try.prog), ⟨[], ctOf [ct_awake]⟩, 400, Try.f6, none⟩ (flat (loopBody (flat (bodyOf Try.f6)) 8)) (F003 ++ lem_l1_6) T003.toS (some ⟨T000, F000, [(110, some 41)], fam⟩) [(0, ⟨TE, FE, [], []⟩)] [((.bin .eq (.var 103) idE), false), ((.bin .eq (.var 102) idE), false), ((.bin .eq (.var 101) idE), true)] := ⟨[], by kernel_rfl, fun ρ _ ob h => absurd h List.not_mem_nil⟩
theorem good_l1_6_3 : GoodP ⟨(TI.of Try.prog), (fnOf Try.prog), ⟨[], ctOf [ct_awake]⟩, 400, Try.f6, none⟩ (flat (loopBody (flat (bodyOf Try.f6)) 8)) (F003 ++ lem_l1_6) T003.toS (some ⟨T000, F000, [(110, some 41)], fam⟩) [(0, ⟨TE, FE, [], []⟩)] [((.bin .eq (.var 103) idE), false), ((.bin .eq (.var 102) idE), false), ((.bin .eq (.var 101) idE), false)] := ⟨[], by kernel_rfl, fun ρ _ ob h => absurd h List.not_mem_nil⟩
theorem good_l1_7_0 : GoodP ⟨(TI.of Try.prog), (fnOf Try.prog), ⟨[], ctOf [ct_awake]⟩, 400, Try.f6, none⟩ (flat (loopBody (flat (bodyOf Try.f6)) 8)) (F004 ++ lem_l1_7) T004.toS (some ⟨T000, F000, [(110, some 41)], fam⟩) [(0, ⟨TE, FE, [], []⟩)] [] := ⟨[], by kernel_rfl, fun ρ _ ob h => absurd h List.not_mem_nil⟩
theorem good_l1_8_0 : GoodP ⟨(TI.of Try.prog), (fnOf Try.prog), ⟨[], ctOf [ct_awake]⟩, 400, Try.f6, none⟩ (flat (loopBody (flat (bodyOf Try.f6)) 8)) (F010 ++ lem_l1_8) T010.toS (some ⟨T000, F000, [(110, some 41)], fam⟩) [(0, ⟨TE, FE, [], []⟩)] [((.bin .eq (.var 101) idE), true)] := ⟨[], by kernel_rfl, fun ρ _ ob h => absurd h List.not_mem_nil⟩
theorem good_l1_8_1 : GoodP ⟨(TI.of Try.prog), (fnOf Try.prog), ⟨[], ctOf [ct_awake]⟩, 400, Try.f6, none⟩ (flat (loopBody (flat (bodyOf Try.f6)) 8)) (F010 ++ lem_l1_8) T010.toS (some ⟨T000, F000, [(110, some 41)], fam⟩) [(0, ⟨TE, FE, [], []⟩)] [((.bin .eq (.var 101) idE), false)] := ⟨[], by kernel_rfl, fun ρ _ ob h => absurd h List.not_mem_nil⟩
theorem good_l1_9_0 : GoodP ⟨(TI.of Try.prog), (fnOf Try.prog), ⟨[], ctOf [ct_awake]⟩, 400, Try.f6, none⟩ (flat (loopBody (flat (bodyOf Try.f6)) 8)) (F011 ++ lem_l1_9) T011.toS (some ⟨T000, F000, [(110, some 41)], fam⟩) [(0, ⟨TE, FE, [], []⟩)] [((.bin .eq (.var 102) idE), true)] := ⟨[], by kernel_rfl, fun ρ _ ob h => absurd h List.not_mem_nil⟩
theorem good_l1_9_1 : GoodP ⟨(TI.of Try.prog), (fnOf Try.prog), ⟨[], ctOf [ct_awake]⟩, 400, Try.f6, none⟩ (flat (loopBody (flat (bodyOf Try.f6)) 8)) (F011 ++ lem_l1_9) T011.toS (some ⟨T000, F000, [(110, some 41)], fam⟩) [(0, ⟨TE, FE, [], []⟩)] [((.bin .eq (.var 102) idE), false), ((.bin .eq (.var 101) idE), true)] := ⟨[], by kernel_rfl, fun ρ _ ob h => absurd h List.not_mem_nil⟩
theorem good_l1_9_2 : GoodP ⟨(TI.of Try.prog), (fnOf Try.prog), ⟨[], ctOf [ct_awake]⟩, 400, Try.f6, none⟩ (flat (loopBody (flat (bodyOf Try.f6)) 8)) (F011 ++ lem_l1_9) T011.toS (some ⟨T000, F000, [(110, some 41)], fam⟩) [(0, ⟨TE, FE, [], []⟩)] [((.bin .eq (.var 102) idE), false), ((.bin .eq (.var 101) idE), false)] := ⟨[], by kernel_rfl, fun ρ _ ob h => absurd h List.not_mem_nil⟩
end Go.Proofs.Ytiocpbfbhbgfaaa.busFull
