/-
  'MshrNil': runs of its parts, checked by the kernel. Printed by program.
-/
import Derived.Test.YtdicippbniglpaaMshrNilL
namespace Go.Proofs.Ytdicippbniglpaa.mshrNil
open Go.ChangeShapes Go.WideShapes Go.ChangeAt Go.RowKit Go.Sx
set_option linter.unusedVariables false
set_option linter.unusedSimpArgs false
set_option maxRecDepth 100000
set_option maxHeartbeats 1600000
theorem good_c_awake_0_0 : GoodP ⟨(TI.of Try.prog), (fnOf Try.prog), ⟨[], ctOf []⟩, 400, Try.f8, (some ct_awake.R)⟩ (flat (bodyOf Try.f8)) (ct_awake.facts ++ lem_c_awake_0) ct_awake.s0 none [] [] := ⟨[], by kernel_rfl, fun ρ _ ob h => absurd h List.not_mem_nil⟩
theorem good_c_All_1_0 : GoodP ⟨(TI.of Try.prog), (fnOf Try.prog), ⟨[], ctOf []⟩, 400, Try.f38, (some ct_All.R)⟩ (flat (bodyOf Try.f38)) (ct_All.facts ++ lem_c_All_1) ct_All.s0 none [] [] := ⟨[], by kernel_rfl, fun ρ _ ob h => absurd h List.not_mem_nil⟩
theorem good_c_Find_2_0 : GoodP ⟨(TI.of Try.prog), (fnOf Try.prog), ⟨[], ctOf []⟩, 400, Try.f24, (some ct_Find.R)⟩ ((flat (bodyOf Try.f24)).take 3) (ct_Find.facts ++ lem_c_Find_2) ct_Find.s0 (some ⟨fT, FE, [], []⟩) [] [] := ⟨[], by kernel_rfl, fun ρ _ ob h => absurd h List.not_mem_nil⟩
theorem good_c_Find_3_0 : GoodP ⟨(TI.of Try.prog), (fnOf Try.prog), ⟨[], ctOf []⟩, 400, Try.f24, (some ct_Find.R)⟩ ((flat (bodyOf Try.f24)).drop 4) (FE ++ lem_c_Find_3) fT.toS none [] [] := ⟨[], by kernel_rfl, fun ρ _ ob h => absurd h List.not_mem_nil⟩
theorem good_l0_4_0 : GoodP ⟨(TI.of Try.prog), (fnOf Try.prog), ⟨[], ctOf [ct_awake, ct_Find]⟩, 400, Try.f6, none⟩ ((flat (bodyOf Try.f6)).take 12) (facts0 ++ lem_l0_4) st0 (some ⟨T0, F0, [], []⟩) [] [] := ⟨[], by kernel_rfl, fun ρ _ ob h => absurd h List.not_mem_nil⟩
theorem good_l0_5_0 : GoodP ⟨(TI.of Try.prog), (fnOf Try.prog), ⟨[], ctOf [ct_awake, ct_Find]⟩, 400, Try.f6, none⟩ ((flat (bodyOf Try.f6)).drop 13) (F0 ++ lem_l0_5) T0.toS none [] [] := ⟨[], by kernel_rfl, fun ρ _ ob h => absurd h List.not_mem_nil⟩
theorem good_l1_6_0 : GoodP ⟨(TI.of Try.prog), (fnOf Try.prog), ⟨[], ctOf [ct_awake, ct_Find]⟩, 400, Try.f6, none⟩ ((flat (bodyOf Try.f6)).take 12) (facts1 ++ lem_l1_6) st1 (some ⟨T1, F1, [], []⟩) [] [] := ⟨[], by kernel_rfl, fun ρ _ ob h => absurd h List.not_mem_nil⟩
theorem good_l1_7_0 : GoodP ⟨(TI.of Try.prog), (fnOf Try.prog), ⟨[], ctOf [ct_awake, ct_Find]⟩, 400, Try.f6, none⟩ ((flat (bodyOf Try.f6)).drop 13) (F1 ++ lem_l1_7) T1.toS none [] [] := ⟨[], by kernel_rfl, fun ρ _ ob h => absurd h List.not_mem_nil⟩
end Go.Proofs.Ytdicippbniglpaa.mshrNil
