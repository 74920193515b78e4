/-
  'BusFull': runs of its parts, checked by the kernel. Printed by program.
-/
import Derived.Test.YtiocpbfbhbgfaaaBusFullL
namespace Go.Proofs.Ytiocpbfbhbgfaaa.busFull
open Go.ChangeShapes Go.WideShapes Go.ChangeAt Go.RowKit Go.Sx
set_option linter.unusedVariables false
set_option linter.unusedSimpArgs false
set_option maxRecDepth 100000
set_option maxHeartbeats 1600000
theorem good_l1_60_3 : GoodP ⟨(TI.of Try.prog), (fnOf Try.prog), ⟨[], ctOf [ct_awake]⟩, 400, Try.f6, none⟩ (flat (loopBody (flat (bodyOf Try.f6)) 8)) (F212 ++ lem_l1_60) T212.toS (some ⟨T000, F000, [(110, some 41)], fam⟩) [(0, ⟨TE, FE, [], []⟩)] [((.bin .eq (.var 103) idE), false), ((.bin .eq (.var 102) idE), false), ((.bin .eq (.var 101) idE), false)] := ⟨[], by kernel_rfl, fun ρ _ ob h => absurd h List.not_mem_nil⟩
theorem good_l1_61_0 : GoodP ⟨(TI.of Try.prog), (fnOf Try.prog), ⟨[], ctOf [ct_awake]⟩, 400, Try.f6, none⟩ (flat (loopBody (flat (bodyOf Try.f6)) 8)) (F213 ++ lem_l1_61) T213.toS (some ⟨T000, F000, [(110, some 41)], fam⟩) [(0, ⟨TE, FE, [], []⟩)] [((.bin .eq (.var 104) idE), true)] := ⟨[], by kernel_rfl, fun ρ _ ob h => absurd h List.not_mem_nil⟩
theorem good_l1_61_1 : GoodP ⟨(TI.of Try.prog), (fnOf Try.prog), ⟨[], ctOf [ct_awake]⟩, 400, Try.f6, none⟩ (flat (loopBody (flat (bodyOf Try.f6)) 8)) (F213 ++ lem_l1_61) T213.toS (some ⟨T000, F000, [(110, some 41)], fam⟩) [(0, ⟨TE, FE, [], []⟩)] [((.bin .eq (.var 104) idE), false), ((.bin .eq (.var 103) idE), true)] := ⟨[], by kernel_rfl, fun ρ _ ob h => absurd h List.not_mem_nil⟩
theorem good_l1_61_2 : GoodP ⟨(TI.of Try.prog), (fnOf Try.prog), ⟨[], ctOf [ct_awake]⟩, 400, Try.f6, none⟩ (flat (loopBody (flat (bodyOf Try.f6)) 8)) (F213 ++ lem_l1_61) T213.toS (some ⟨T000, F000, [(110, some 41)], fam⟩) [(0, ⟨TE, FE, [], []⟩)] [((.bin .eq (.var 104) idE), false), ((.bin .eq (.var 103) idE), false), ((.bin .eq (.var 102) idE), true)] := ⟨[], by kernel_rfl, fun ρ _ ob h => absurd h List.not_mem_nil⟩
theorem good_l1_61_3 : GoodP ⟨(TI.of Try.prog), (fnOf Try.prog), ⟨[], ctOf [ct_awake]⟩, 400, Try.f6, none⟩ (flat (loopBody (flat (bodyOf Try.f6)) 8)) (F213 ++ lem_l1_61) T213.toS (some ⟨T000, F000, [(110, some 41)], fam⟩) [(0, ⟨TE, FE, [], []⟩)] [((.bin .eq (.var 104) idE), false), ((.bin .eq (.var 103) idE), false), ((.bin .eq (.var 102) idE), false), ((.bin .eq (.var 101) idE), true)] := ⟨[], by kernel_rfl, fun ρ _ ob h => absurd h List.not_mem_nil⟩
theorem good_l1_61_4 : GoodP ⟨(TI.of Try.prog), (fnOf Try.prog), ⟨[], ctOf [ct_awake]⟩, 400, Try.f6, none⟩ (flat (loopBody (flat (bodyOf Try.f6)) 8)) (F213 ++ lem_l1_61) T213.toS (some ⟨T000, F000, [(110, some 41)], fam⟩) [(0, ⟨TE, FE, [], []⟩)] [((.bin .eq (.var 104) idE), false), ((.bin .eq (.var 103) idE), false), ((.bin .eq (.var 102) idE), false), ((.bin .eq (.var 101) idE), false)] := ⟨[], by kernel_rfl, fun ρ _ ob h => absurd h List.not_mem_nil⟩
theorem good_l1_62_0 : GoodP ⟨(TI.of Try.prog), (fnOf Try.prog), ⟨[], ctOf [ct_awake]⟩, 400, Try.f6, none⟩ (flat (loopBody (flat (bodyOf Try.f6)) 8)) (F214 ++ lem_l1_62) T214.toS (some ⟨T000, F000, [(110, some 41)], fam⟩) [(0, ⟨TE, FE, [], []⟩)] [] := ⟨[], by kernel_rfl, fun ρ _ ob h => absurd h List.not_mem_nil⟩
theorem good_l1_63_0 : GoodP ⟨(TI.of Try.prog), (fnOf Try.prog), ⟨[], ctOf [ct_awake]⟩, 400, Try.f6, none⟩ (flat (loopBody (flat (bodyOf Try.f6)) 8)) (F220 ++ lem_l1_63) T220.toS (some ⟨T000, F000, [(110, some 41)], fam⟩) [(0, ⟨TE, FE, [], []⟩)] [((.bin .eq (.var 102) idE), true)] := ⟨[], by kernel_rfl, fun ρ _ ob h => absurd h List.not_mem_nil⟩
theorem good_l1_63_1 : GoodP ⟨(TI.of Try.prog), (fnOf Try.prog), ⟨[], ctOf [ct_awake]⟩, 400, Try.f6, none⟩ (flat (loopBody (flat (bodyOf Try.f6)) 8)) (F220 ++ lem_l1_63) T220.toS (some ⟨T000, F000, [(110, some 41)], fam⟩) [(0, ⟨TE, FE, [], []⟩)] [((.bin .eq (.var 102) idE), false), ((.bin .eq (.var 101) idE), true)] := ⟨[], by kernel_rfl, fun ρ _ ob h => absurd h List.not_mem_nil⟩
end Go.Proofs.Ytiocpbfbhbgfaaa.busFull
