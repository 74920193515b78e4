/-
  'BusFull': runs of its parts, checked by the kernel. Printed by program.
-/
import Derived.Test.YtiocpbfbhbgfaaaBusFullL
namespace Go.Proofs.Ytiocpbfbhbgfaaa.busFull
open Go.ChangeShapes Go.WideShapes Go.ChangeAt Go.RowKit Go.Sx
set_option linter.unusedVariables false
set_option linter.unusedSimpArgs false
set_option maxRecDepth 100000
set_option maxHeartbeats 1600000
theorem good_l1_31_0 : GoodP ⟨(TI.of Try.prog), (fnOf Try.prog), ⟨[], ctOf [ct_awake]⟩, 400, Try.f6, none⟩ (flat (loopBody (flat (bodyOf Try.f6)) 8)) (F103 ++ lem_l1_31) T103.toS (some ⟨T000, F000, [(110, some 41)], fam⟩) [(0, ⟨TE, FE, [], []⟩)] [((.bin .eq (.var 103) idE), true)] := ⟨[], by kernel_rfl, fun ρ _ ob h => absurd h List.not_mem_nil⟩
theorem good_l1_31_1 : GoodP ⟨(TI.of Try.prog), (fnOf Try.prog), ⟨[], ctOf [ct_awake]⟩, 400, Try.f6, none⟩ (flat (loopBody (flat (bodyOf Try.f6)) 8)) (F103 ++ lem_l1_31) T103.toS (some ⟨T000, F000, [(110, some 41)], fam⟩) [(0, ⟨TE, FE, [], []⟩)] [((.bin .eq (.var 103) idE), false), ((.bin .eq (.var 102) idE), true)] := ⟨[], by kernel_rfl, fun ρ _ ob h => absurd h List.not_mem_nil⟩
theorem good_l1_31_2 : GoodP ⟨(TI.of Try.prog), (fnOf Try.prog), ⟨[], ctOf [ct_awake]⟩, 400, Try.f6, none⟩ (flat (loopBody (flat (bodyOf Try.f6)) 8)) (F103 ++ lem_l1_31) T103.toS (some ⟨T000, F000, [(110, some 41)], fam⟩) [(0, ⟨TE, FE, [], []⟩)] [((.bin .eq (.var 103) idE), false), ((.bin .eq (.var 102) idE), false), ((.bin .eq (.var 101) idE), true)] := ⟨[], by kernel_rfl, fun ρ _ ob h => absurd h List.not_mem_nil⟩
theorem good_l1_31_3 : GoodP ⟨(TI.of Try.prog), (fnOf Try.prog), ⟨[], ctOf [ct_awake]⟩, 400, Try.f6, none⟩ (flat (loopBody (flat (bodyOf Try.f6)) 8)) (F103 ++ lem_l1_31) T103.toS (some ⟨T000, F000, [(110, some 41)], fam⟩) [(0, ⟨TE, FE, [], []⟩)] [((.bin .eq (.var 103) idE), false), ((.bin .eq (.var 102) idE), false), ((.bin .eq (.var 101) idE), false)] := ⟨[], by kernel_rfl, fun ρ _ ob h => absurd h List.not_mem_nil⟩
theorem good_l1_32_0 : GoodP ⟨(TI.of Try.prog), (fnOf Try.prog), ⟨[], ctOf [ct_awake]⟩, 400, Try.f6, none⟩ (flat (loopBody (flat (bodyOf Try.f6)) 8)) (F104 ++ lem_l1_32) T104.toS (some ⟨T000, F000, [(110, some 41)], fam⟩) [(0, ⟨TE, FE, [], []⟩)] [] := ⟨[], by kernel_rfl, fun ρ _ ob h => absurd h List.not_mem_nil⟩
theorem good_l1_33_0 : GoodP ⟨(TI.of Try.prog), (fnOf Try.prog), ⟨[], ctOf [ct_awake]⟩, 400, Try.f6, none⟩ (flat (loopBody (flat (bodyOf Try.f6)) 8)) (F110 ++ lem_l1_33) T110.toS (some ⟨T000, F000, [(110, some 41)], fam⟩) [(0, ⟨TE, FE, [], []⟩)] [((.bin .eq (.var 101) idE), true)] := ⟨[], by kernel_rfl, fun ρ _ ob h => absurd h List.not_mem_nil⟩
theorem good_l1_33_1 : GoodP ⟨(TI.of Try.prog), (fnOf Try.prog), ⟨[], ctOf [ct_awake]⟩, 400, Try.f6, none⟩ (flat (loopBody (flat (bodyOf Try.f6)) 8)) (F110 ++ lem_l1_33) T110.toS (some ⟨T000, F000, [(110, some 41)], fam⟩) [(0, ⟨TE, FE, [], []⟩)] [((.bin .eq (.var 101) idE), false)] := ⟨[], by kernel_rfl, fun ρ _ ob h => absurd h List.not_mem_nil⟩
theorem good_l1_34_0 : GoodP ⟨(TI.of Try.prog), (fnOf Try.prog), ⟨[], ctOf [ct_awake]⟩, 400, Try.f6, none⟩ (flat (loopBody (flat (bodyOf Try.f6)) 8)) (F111 ++ lem_l1_34) T111.toS (some ⟨T000, F000, [(110, some 41)], fam⟩) [(0, ⟨TE, FE, [], []⟩)] [((.bin .eq (.var 102) idE), true)] := ⟨[], by kernel_rfl, fun ρ _ ob h => absurd h List.not_mem_nil⟩
theorem good_l1_34_1 : GoodP ⟨(TI.of Try.prog), (fnOf Try.prog), ⟨[], ctOf [ct_awake]⟩, 400, Try.f6, none⟩ (flat (loopBody (flat (bodyOf Try.f6)) 8)) (F111 ++ lem_l1_34) T111.toS (some ⟨T000, F000, [(110, some 41)], fam⟩) [(0, ⟨TE, FE, [], []⟩)] [((.bin .eq (.var 102) idE), false), ((.bin .eq (.var 101) idE), true)] := ⟨[], by kernel_rfl, fun ρ _ ob h => absurd h List.not_mem_nil⟩
theorem good_l1_34_2 : GoodP ⟨(TI.of Try.prog), (fnOf Try.prog), ⟨[], ctOf [ct_awake]⟩, 400, Try.f6, none⟩ (flat (loopBody (flat (bodyOf Try.f6)) 8)) (F111 ++ lem_l1_34) T111.toS (some ⟨T000, F000, [(110, some 41)], fam⟩) [(0, ⟨TE, FE, [], []⟩)] [((.bin .eq (.var 102) idE), false), ((.bin .eq (.var 101) idE), false)] := ⟨[], by kernel_rfl, fun ρ _ ob h => absurd h List.not_mem_nil⟩
end Go.Proofs.Ytiocpbfbhbgfaaa.busFull
