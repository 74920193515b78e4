/-
  'MshrWaits' ('tappet/tappetlaw19.MshrWaits'): the executor's runs (Sx) of the parts, checked by the kernel, put together by the rules of loops and by contracts of what is called, are the walk. Printed by program.
-/
import Derived.Test.YtdicippbniglpaaMshrWaitsR0
import Derived.Test.YtdicippbniglpaaMshrWaitsR1
import Derived.Test.YtdicippbniglpaaMshrWaitsR2
import Derived.Test.YtdicippbniglpaaMshrWaitsR3
import Derived.Test.YtdicippbniglpaaMshrWaitsR4
namespace Go.Proofs.Ytdicippbniglpaa.mshrWaits
open Go.ChangeShapes Go.WideShapes Go.ChangeAt Go.RowKit Go.Sx
set_option linter.unusedVariables false
set_option linter.unusedSimpArgs false
theorem hbody : Try.f4.body = some (bodyOf Try.f4) := by kernel_rfl
theorem hfunc : Try.prog.funcs[4]? = some Try.f4 := by kernel_rfl
theorem hfls : flagsAll Try.prog Try.f4.params.toList = [[true], [false]] := by kernel_rfl
set_option maxRecDepth 100000
theorem own : ownKnob Try.prog.godebug = none := by kernel_rfl
theorem kids : Kids Try.prog (· < Try.prog.types.size) := kids_rows (by kernel_rfl) (by kernel_rfl)
theorem full : ∀ t e, t < Try.prog.types.size → Try.prog.underlying t = some (.slice e) → 0 < Try.prog.cellsOf e := slices_full_of Try.prog (by kernel_rfl)
theorem fnOk : FnOk Try.prog (fnOf Try.prog) := fnOf_ok (by kernel_rfl)
theorem mixed : Try.prog.follows .mixedOrders = true := by kernel_rfl
theorem rets : Try.f4.resultTypes = #[4] := by kernel_rfl
theorem bool_ : Try.prog.underlying 4 = some .bool := by kernel_rfl
theorem good_c_awake_0paths : DT.paths .leaf = [[]] := by kernel_rfl
theorem good_c_awake_0 : GoodT ⟨(TI.of Try.prog), (fnOf Try.prog), ⟨[], ctOf []⟩, 400, Try.f8, (some ct_awake.R)⟩ (flat (bodyOf Try.f8)) (ct_awake.facts ++ lem_c_awake_0) ct_awake.s0 none [] .leaf := by
  unfold GoodT
  rw [good_c_awake_0paths]
  simp only [List.forall_mem_cons]
  exact ⟨good_c_awake_0_0, fun _ h => absurd h List.not_mem_nil⟩
theorem good_l0_1paths : DT.paths .leaf = [[]] := by kernel_rfl
theorem good_l0_1 : GoodT rnL cd0 (facts0 ++ lem_l0_1) st0 none [] .leaf := by
  unfold GoodT
  rw [good_l0_1paths]
  simp only [List.forall_mem_cons]
  exact ⟨good_l0_1_0, fun _ h => absurd h List.not_mem_nil⟩
theorem good_l1_2paths : DT.paths .leaf = [[]] := by kernel_rfl
theorem good_l1_2 : GoodT rnL (cd0.take 7) (facts1 ++ lem_l1_2) st1 (some ⟨T_A0, F_A0, [], fm0⟩) [] .leaf := by
  unfold GoodT
  rw [good_l1_2paths]
  simp only [List.forall_mem_cons]
  exact ⟨good_l1_2_0, fun _ h => absurd h List.not_mem_nil⟩
theorem good_l1_3paths : DT.paths .leaf = [[]] := by kernel_rfl
theorem good_l1_3 : GoodT rnL (cd1.take 2) (F_A0 ++ lem_l1_3) T_A0.toS (some ⟨T_B0, F_B0, [(110, none)], []⟩) [(0, ⟨T_E0, F_E0, [], fm1⟩)] .leaf := by
  unfold GoodT
  rw [good_l1_3paths]
  simp only [List.forall_mem_cons]
  exact ⟨good_l1_3_0, fun _ h => absurd h List.not_mem_nil⟩
theorem good_l1_4paths : DT.paths .leaf = [[]] := by kernel_rfl
theorem good_l1_4 : GoodT rnL (cd2.take 2) (F_B0 ++ lem_l1_4) T_B0.toS (some ⟨T_D1, F_D1, [(110, none)], []⟩) [(1, ⟨T_C1, F_C1, [(110, none)], []⟩), (0, ⟨T_E0, F_E0, [], fm1⟩)] .leaf := by
  unfold GoodT
  rw [good_l1_4paths]
  simp only [List.forall_mem_cons]
  exact ⟨good_l1_4_0, fun _ h => absurd h List.not_mem_nil⟩
theorem good_l1_5paths : DT.paths .leaf = [[]] := by kernel_rfl
theorem good_l1_5 : GoodT rnL cd3 (F_D1 ++ lem_l1_5) T_D1.toS (some ⟨T_G1, F_G1, [(110, none)], []⟩) [(1, ⟨T_C1, F_C1, [(110, none)], []⟩), (0, ⟨T_E0, F_E0, [], fm1⟩)] .leaf := by
  unfold GoodT
  rw [good_l1_5paths]
  simp only [List.forall_mem_cons]
  exact ⟨good_l1_5_0, fun _ h => absurd h List.not_mem_nil⟩
theorem good_l1_6paths : DT.paths .leaf = [[]] := by kernel_rfl
theorem good_l1_6 : GoodT rnL (cd2.drop 3) (F_G1 ++ lem_l1_6) T_G1.toS (some ⟨T_C1, F_C1, [(110, none)], []⟩) [(1, ⟨T_C1, F_C1, [(110, none)], []⟩), (0, ⟨T_E0, F_E0, [], fm1⟩)] .leaf := by
  unfold GoodT
  rw [good_l1_6paths]
  simp only [List.forall_mem_cons]
  exact ⟨good_l1_6_0, fun _ h => absurd h List.not_mem_nil⟩
theorem good_l1_7paths : DT.paths .leaf = [[]] := by kernel_rfl
theorem good_l1_7 : GoodT rnL (cd1.drop 3) (F_C1 ++ lem_l1_7) T_C1.toS (some ⟨T_A0, F_A0, [(110, some 101)], fm0⟩) [(0, ⟨T_E0, F_E0, [], fm1⟩)] .leaf := by
  unfold GoodT
  rw [good_l1_7paths]
  simp only [List.forall_mem_cons]
  exact ⟨good_l1_7_0, fun _ h => absurd h List.not_mem_nil⟩
theorem good_l1_8paths : DT.paths .leaf = [[]] := by kernel_rfl
theorem good_l1_8 : GoodT rnL (cd1.take 2) (F_A1 ++ lem_l1_8) T_A1.toS (some ⟨T_B1, F_B1, [(110, none)], []⟩) [(0, ⟨T_E0, F_E0, [], fm1⟩)] .leaf := by
  unfold GoodT
  rw [good_l1_8paths]
  simp only [List.forall_mem_cons]
  exact ⟨good_l1_8_0, fun _ h => absurd h List.not_mem_nil⟩
theorem good_l1_9paths : DT.paths .leaf = [[]] := by kernel_rfl
theorem good_l1_9 : GoodT rnL (cd2.take 2) (F_B1 ++ lem_l1_9) T_B1.toS (some ⟨T_D1, F_D1, [(110, none)], fm3⟩) [(1, ⟨T_C1, F_C1, [(110, none)], fm2⟩), (0, ⟨T_E0, F_E0, [], fm1⟩)] .leaf := by
  unfold GoodT
  rw [good_l1_9paths]
  simp only [List.forall_mem_cons]
  exact ⟨good_l1_9_0, fun _ h => absurd h List.not_mem_nil⟩
theorem good_l1_10paths : DT.paths .leaf = [[]] := by kernel_rfl
theorem good_l1_10 : GoodT rnL cd3 (F_D1 ++ lem_l1_10) T_D1.toS (some ⟨T_G1, F_G1, [(110, none)], fm4⟩) [(1, ⟨T_C1, F_C1, [(110, none)], fm2⟩), (0, ⟨T_E0, F_E0, [], fm1⟩)] .leaf := by
  unfold GoodT
  rw [good_l1_10paths]
  simp only [List.forall_mem_cons]
  exact ⟨good_l1_10_0, fun _ h => absurd h List.not_mem_nil⟩
theorem good_l1_11paths : DT.paths .leaf = [[]] := by kernel_rfl
theorem good_l1_11 : GoodT rnL cd3 (F_D2 ++ lem_l1_11) T_D2.toS (some ⟨T_G1, F_G1, [(110, none)], fm4⟩) [(1, ⟨T_C1, F_C1, [(110, none)], fm2⟩), (0, ⟨T_E0, F_E0, [], fm1⟩)] .leaf := by
  unfold GoodT
  rw [good_l1_11paths]
  simp only [List.forall_mem_cons]
  exact ⟨good_l1_11_0, fun _ h => absurd h List.not_mem_nil⟩
theorem good_l1_12paths : DT.paths .leaf = [[]] := by kernel_rfl
theorem good_l1_12 : GoodT rnL (cd2.drop 3) (F_G1 ++ lem_l1_12) T_G1.toS (some ⟨T_C1, F_C1, [(110, none)], fm2⟩) [(1, ⟨T_C1, F_C1, [(110, none)], fm2⟩), (0, ⟨T_E0, F_E0, [], fm1⟩)] .leaf := by
  unfold GoodT
  rw [good_l1_12paths]
  simp only [List.forall_mem_cons]
  exact ⟨good_l1_12_0, fun _ h => absurd h List.not_mem_nil⟩
theorem good_l1_13paths : DT.paths .leaf = [[]] := by kernel_rfl
theorem good_l1_13 : GoodT rnL (cd2.drop 3) (F_G2 ++ lem_l1_13) T_G2.toS (some ⟨T_C1, F_C1, [(110, none)], fm2⟩) [(1, ⟨T_C1, F_C1, [(110, none)], fm2⟩), (0, ⟨T_E0, F_E0, [], fm1⟩)] .leaf := by
  unfold GoodT
  rw [good_l1_13paths]
  simp only [List.forall_mem_cons]
  exact ⟨good_l1_13_0, fun _ h => absurd h List.not_mem_nil⟩
theorem good_l1_14paths : DT.paths .leaf = [[]] := by kernel_rfl
theorem good_l1_14 : GoodT rnL (cd1.drop 3) (F_C1 ++ lem_l1_14) T_C1.toS (some ⟨T_A0, F_A0, [(110, some 101)], fm0⟩) [(0, ⟨T_E0, F_E0, [], fm1⟩)] .leaf := by
  unfold GoodT
  rw [good_l1_14paths]
  simp only [List.forall_mem_cons]
  exact ⟨good_l1_14_0, fun _ h => absurd h List.not_mem_nil⟩
theorem good_l1_15paths : DT.paths .leaf = [[]] := by kernel_rfl
theorem good_l1_15 : GoodT rnL (cd1.drop 3) (F_C2 ++ lem_l1_15) T_C2.toS (some ⟨T_A0, F_A0, [(110, some 101)], fm0⟩) [(0, ⟨T_E0, F_E0, [], fm1⟩)] .leaf := by
  unfold GoodT
  rw [good_l1_15paths]
  simp only [List.forall_mem_cons]
  exact ⟨good_l1_15_0, fun _ h => absurd h List.not_mem_nil⟩
theorem good_l1_16paths : DT.paths .leaf = [[]] := by kernel_rfl
theorem good_l1_16 : GoodT rnL (cd1.take 2) (F_A2 ++ lem_l1_16) T_A2.toS (some ⟨T_B2, F_B2, [(110, none)], []⟩) [(0, ⟨T_E0, F_E0, [], fm1⟩)] .leaf := by
  unfold GoodT
  rw [good_l1_16paths]
  simp only [List.forall_mem_cons]
  exact ⟨good_l1_16_0, fun _ h => absurd h List.not_mem_nil⟩
theorem good_l1_17paths : DT.paths .leaf = [[]] := by kernel_rfl
theorem good_l1_17 : GoodT rnL (cd2.take 2) (F_B2 ++ lem_l1_17) T_B2.toS (some ⟨T_D2, F_D2, [(110, none)], fm6⟩) [(1, ⟨T_C2, F_C2, [(110, none)], fm5⟩), (0, ⟨T_E0, F_E0, [], fm1⟩)] .leaf := by
  unfold GoodT
  rw [good_l1_17paths]
  simp only [List.forall_mem_cons]
  exact ⟨good_l1_17_0, fun _ h => absurd h List.not_mem_nil⟩
theorem good_l1_18paths : DT.paths .leaf = [[]] := by kernel_rfl
theorem good_l1_18 : GoodT rnL cd3 (F_D2 ++ lem_l1_18) T_D2.toS (some ⟨T_G2, F_G2, [(110, none)], fm7⟩) [(1, ⟨T_C2, F_C2, [(110, none)], fm5⟩), (0, ⟨T_E0, F_E0, [], fm1⟩)] .leaf := by
  unfold GoodT
  rw [good_l1_18paths]
  simp only [List.forall_mem_cons]
  exact ⟨good_l1_18_0, fun _ h => absurd h List.not_mem_nil⟩
theorem good_l1_19paths : DT.paths .leaf = [[]] := by kernel_rfl
theorem good_l1_19 : GoodT rnL cd3 (F_D3 ++ lem_l1_19) T_D3.toS (some ⟨T_G2, F_G2, [(110, none)], fm7⟩) [(1, ⟨T_C2, F_C2, [(110, none)], fm5⟩), (0, ⟨T_E0, F_E0, [], fm1⟩)] .leaf := by
  unfold GoodT
  rw [good_l1_19paths]
  simp only [List.forall_mem_cons]
  exact ⟨good_l1_19_0, fun _ h => absurd h List.not_mem_nil⟩
theorem good_l1_20paths : DT.paths .leaf = [[]] := by kernel_rfl
theorem good_l1_20 : GoodT rnL (cd2.drop 3) (F_G2 ++ lem_l1_20) T_G2.toS (some ⟨T_C2, F_C2, [(110, none)], fm5⟩) [(1, ⟨T_C2, F_C2, [(110, none)], fm5⟩), (0, ⟨T_E0, F_E0, [], fm1⟩)] .leaf := by
  unfold GoodT
  rw [good_l1_20paths]
  simp only [List.forall_mem_cons]
  exact ⟨good_l1_20_0, fun _ h => absurd h List.not_mem_nil⟩
theorem good_l1_21paths : DT.paths .leaf = [[]] := by kernel_rfl
theorem good_l1_21 : GoodT rnL (cd2.drop 3) (F_G3 ++ lem_l1_21) T_G3.toS (some ⟨T_C2, F_C2, [(110, none)], fm5⟩) [(1, ⟨T_C2, F_C2, [(110, none)], fm5⟩), (0, ⟨T_E0, F_E0, [], fm1⟩)] .leaf := by
  unfold GoodT
  rw [good_l1_21paths]
  simp only [List.forall_mem_cons]
  exact ⟨good_l1_21_0, fun _ h => absurd h List.not_mem_nil⟩
theorem good_l1_22paths : DT.paths .leaf = [[]] := by kernel_rfl
theorem good_l1_22 : GoodT rnL (cd1.drop 3) (F_C2 ++ lem_l1_22) T_C2.toS (some ⟨T_A0, F_A0, [(110, some 101)], fm0⟩) [(0, ⟨T_E0, F_E0, [], fm1⟩)] .leaf := by
  unfold GoodT
  rw [good_l1_22paths]
  simp only [List.forall_mem_cons]
  exact ⟨good_l1_22_0, fun _ h => absurd h List.not_mem_nil⟩
theorem good_l1_23paths : DT.paths .leaf = [[]] := by kernel_rfl
theorem good_l1_23 : GoodT rnL (cd1.drop 3) (F_C3 ++ lem_l1_23) T_C3.toS (some ⟨T_A0, F_A0, [(110, some 101)], fm0⟩) [(0, ⟨T_E0, F_E0, [], fm1⟩)] .leaf := by
  unfold GoodT
  rw [good_l1_23paths]
  simp only [List.forall_mem_cons]
  exact ⟨good_l1_23_0, fun _ h => absurd h List.not_mem_nil⟩
theorem good_l1_24paths : DT.paths .leaf = [[]] := by kernel_rfl
theorem good_l1_24 : GoodT rnL (cd1.take 2) (F_A3 ++ lem_l1_24) T_A3.toS (some ⟨T_B3, F_B3, [(110, none)], []⟩) [(0, ⟨T_E0, F_E0, [], fm1⟩)] .leaf := by
  unfold GoodT
  rw [good_l1_24paths]
  simp only [List.forall_mem_cons]
  exact ⟨good_l1_24_0, fun _ h => absurd h List.not_mem_nil⟩
theorem good_l1_25paths : DT.paths .leaf = [[]] := by kernel_rfl
theorem good_l1_25 : GoodT rnL (cd2.take 2) (F_B3 ++ lem_l1_25) T_B3.toS (some ⟨T_D3, F_D3, [(110, none)], fm9⟩) [(1, ⟨T_C3, F_C3, [(110, none)], fm8⟩), (0, ⟨T_E0, F_E0, [], fm1⟩)] .leaf := by
  unfold GoodT
  rw [good_l1_25paths]
  simp only [List.forall_mem_cons]
  exact ⟨good_l1_25_0, fun _ h => absurd h List.not_mem_nil⟩
theorem good_l1_26paths : DT.paths .leaf = [[]] := by kernel_rfl
theorem good_l1_26 : GoodT rnL cd3 (F_D3 ++ lem_l1_26) T_D3.toS (some ⟨T_G3, F_G3, [(110, none)], fm10⟩) [(1, ⟨T_C3, F_C3, [(110, none)], fm8⟩), (0, ⟨T_E0, F_E0, [], fm1⟩)] .leaf := by
  unfold GoodT
  rw [good_l1_26paths]
  simp only [List.forall_mem_cons]
  exact ⟨good_l1_26_0, fun _ h => absurd h List.not_mem_nil⟩
theorem good_l1_27paths : DT.paths .leaf = [[]] := by kernel_rfl
theorem good_l1_27 : GoodT rnL cd3 (F_D4 ++ lem_l1_27) T_D4.toS (some ⟨T_G3, F_G3, [(110, none)], fm10⟩) [(1, ⟨T_C3, F_C3, [(110, none)], fm8⟩), (0, ⟨T_E0, F_E0, [], fm1⟩)] .leaf := by
  unfold GoodT
  rw [good_l1_27paths]
  simp only [List.forall_mem_cons]
  exact ⟨good_l1_27_0, fun _ h => absurd h List.not_mem_nil⟩
theorem good_l1_28paths : DT.paths .leaf = [[]] := by kernel_rfl
theorem good_l1_28 : GoodT rnL (cd2.drop 3) (F_G3 ++ lem_l1_28) T_G3.toS (some ⟨T_C3, F_C3, [(110, none)], fm8⟩) [(1, ⟨T_C3, F_C3, [(110, none)], fm8⟩), (0, ⟨T_E0, F_E0, [], fm1⟩)] .leaf := by
  unfold GoodT
  rw [good_l1_28paths]
  simp only [List.forall_mem_cons]
  exact ⟨good_l1_28_0, fun _ h => absurd h List.not_mem_nil⟩
theorem good_l1_29paths : DT.paths .leaf = [[]] := by kernel_rfl
theorem good_l1_29 : GoodT rnL (cd2.drop 3) (F_G4 ++ lem_l1_29) T_G4.toS (some ⟨T_C3, F_C3, [(110, none)], fm8⟩) [(1, ⟨T_C3, F_C3, [(110, none)], fm8⟩), (0, ⟨T_E0, F_E0, [], fm1⟩)] .leaf := by
  unfold GoodT
  rw [good_l1_29paths]
  simp only [List.forall_mem_cons]
  exact ⟨good_l1_29_0, fun _ h => absurd h List.not_mem_nil⟩
theorem good_l1_30paths : DT.paths .leaf = [[]] := by kernel_rfl
theorem good_l1_30 : GoodT rnL (cd1.drop 3) (F_C3 ++ lem_l1_30) T_C3.toS (some ⟨T_A0, F_A0, [(110, some 101)], fm0⟩) [(0, ⟨T_E0, F_E0, [], fm1⟩)] .leaf := by
  unfold GoodT
  rw [good_l1_30paths]
  simp only [List.forall_mem_cons]
  exact ⟨good_l1_30_0, fun _ h => absurd h List.not_mem_nil⟩
theorem good_l1_31paths : DT.paths .leaf = [[]] := by kernel_rfl
theorem good_l1_31 : GoodT rnL (cd1.drop 3) (F_C4 ++ lem_l1_31) T_C4.toS (some ⟨T_A0, F_A0, [(110, some 101)], fm0⟩) [(0, ⟨T_E0, F_E0, [], fm1⟩)] .leaf := by
  unfold GoodT
  rw [good_l1_31paths]
  simp only [List.forall_mem_cons]
  exact ⟨good_l1_31_0, fun _ h => absurd h List.not_mem_nil⟩
theorem good_l1_32paths : DT.paths .leaf = [[]] := by kernel_rfl
theorem good_l1_32 : GoodT rnL (cd1.take 2) (F_A4 ++ lem_l1_32) T_A4.toS (some ⟨T_B4, F_B4, [(110, none)], []⟩) [(0, ⟨T_E0, F_E0, [], fm1⟩)] .leaf := by
  unfold GoodT
  rw [good_l1_32paths]
  simp only [List.forall_mem_cons]
  exact ⟨good_l1_32_0, fun _ h => absurd h List.not_mem_nil⟩
theorem good_l1_33paths : DT.paths .leaf = [[]] := by kernel_rfl
theorem good_l1_33 : GoodT rnL (cd2.take 2) (F_B4 ++ lem_l1_33) T_B4.toS (some ⟨T_D4, F_D4, [(110, none)], fm11⟩) [(1, ⟨T_C1, F_C1, [(110, none)], fm8⟩), (0, ⟨T_E0, F_E0, [], fm1⟩)] .leaf := by
  unfold GoodT
  rw [good_l1_33paths]
  simp only [List.forall_mem_cons]
  exact ⟨good_l1_33_0, fun _ h => absurd h List.not_mem_nil⟩
theorem good_l1_34paths : DT.paths .leaf = [[]] := by kernel_rfl
theorem good_l1_34 : GoodT rnL cd3 (F_D4 ++ lem_l1_34) T_D4.toS (some ⟨T_G1, F_G1, [(110, none)], fm10⟩) [(1, ⟨T_C1, F_C1, [(110, none)], fm8⟩), (0, ⟨T_E0, F_E0, [], fm1⟩)] .leaf := by
  unfold GoodT
  rw [good_l1_34paths]
  simp only [List.forall_mem_cons]
  exact ⟨good_l1_34_0, fun _ h => absurd h List.not_mem_nil⟩
theorem good_l1_35paths : DT.paths .leaf = [[]] := by kernel_rfl
theorem good_l1_35 : GoodT rnL (cd4.take 1) (F_DF ++ lem_l1_35) T_DF.toS (some ⟨T_K0, F_K0, [(110, none)], fm12⟩) [(1, ⟨T_C1, F_C1, [(110, none)], fm8⟩), (0, ⟨T_E0, F_E0, [], fm1⟩)] .leaf := by
  unfold GoodT
  rw [good_l1_35paths]
  simp only [List.forall_mem_cons]
  exact ⟨good_l1_35_0, fun _ h => absurd h List.not_mem_nil⟩
theorem good_l1_36paths : DT.paths .leaf = [[]] := by kernel_rfl
theorem good_l1_36 : GoodT rnL (cd5.take 2) (F_K0 ++ lem_l1_36) T_K0.toS (some ⟨T_K0, F_K0, [(112, none), (110, none)], []⟩) [(2, ⟨T_L, F_L, [(110, none)], []⟩), (1, ⟨T_C1, F_C1, [(110, none)], fm8⟩), (0, ⟨T_E0, F_E0, [], fm1⟩)] .leaf := by
  unfold GoodT
  rw [good_l1_36paths]
  simp only [List.forall_mem_cons]
  exact ⟨good_l1_36_0, fun _ h => absurd h List.not_mem_nil⟩
theorem good_l1_37paths : DT.paths .leaf = [[]] := by kernel_rfl
theorem good_l1_37 : GoodT rnL (cd6.take 4) (F_K0 ++ lem_l1_37) T_K0.toS (some ⟨T_J0, F_J0, [(112, none), (110, none)], []⟩) [(3, ⟨T_Kn0, F_Kn0, [(112, none), (110, none)], []⟩), (2, ⟨T_L, F_L, [(110, none)], []⟩), (1, ⟨T_C1, F_C1, [(110, none)], fm8⟩), (0, ⟨T_E0, F_E0, [], fm1⟩)] .leaf := by
  unfold GoodT
  rw [good_l1_37paths]
  simp only [List.forall_mem_cons]
  exact ⟨good_l1_37_0, fun _ h => absurd h List.not_mem_nil⟩
theorem good_l1_38paths : DT.paths .leaf = [[]] := by kernel_rfl
theorem good_l1_38 : GoodT rnL cd7 (F_J0 ++ lem_l1_38) T_J0.toS (some ⟨T_J0, F_J0, [(111, some 101), (112, none), (110, none)], []⟩) [(4, ⟨T_Kn0, F_Kn0, [(112, none), (110, none)], []⟩), (3, ⟨T_Kn0, F_Kn0, [(112, none), (110, none)], []⟩), (2, ⟨T_L, F_L, [(110, none)], []⟩), (1, ⟨T_C1, F_C1, [(110, none)], fm8⟩), (0, ⟨T_E0, F_E0, [], fm1⟩)] .leaf := by
  unfold GoodT
  rw [good_l1_38paths]
  simp only [List.forall_mem_cons]
  exact ⟨good_l1_38_0, fun _ h => absurd h List.not_mem_nil⟩
theorem good_l1_39paths : DT.paths .leaf = [[]] := by kernel_rfl
theorem good_l1_39 : GoodT rnL (cd5.drop 3) (F_Kn0 ++ lem_l1_39) T_Kn0.toS (some ⟨T_K0, F_K0, [(112, some 5), (110, none)], fm12⟩) [(2, ⟨T_L, F_L, [(110, none)], []⟩), (1, ⟨T_C1, F_C1, [(110, none)], fm8⟩), (0, ⟨T_E0, F_E0, [], fm1⟩)] .leaf := by
  unfold GoodT
  rw [good_l1_39paths]
  simp only [List.forall_mem_cons]
  exact ⟨good_l1_39_0, fun _ h => absurd h List.not_mem_nil⟩
theorem good_l1_40paths : DT.paths .leaf = [[]] := by kernel_rfl
theorem good_l1_40 : GoodT rnL (cd5.take 2) (F_K1 ++ lem_l1_40) T_K1.toS (some ⟨T_K1, F_K1, [(112, none), (110, none)], []⟩) [(2, ⟨T_L, F_L, [(110, none)], []⟩), (1, ⟨T_C1, F_C1, [(110, none)], fm8⟩), (0, ⟨T_E0, F_E0, [], fm1⟩)] .leaf := by
  unfold GoodT
  rw [good_l1_40paths]
  simp only [List.forall_mem_cons]
  exact ⟨good_l1_40_0, fun _ h => absurd h List.not_mem_nil⟩
theorem good_l1_41paths : DT.paths .leaf = [[]] := by kernel_rfl
theorem good_l1_41 : GoodT rnL (cd6.take 4) (F_K1 ++ lem_l1_41) T_K1.toS (some ⟨T_J1, F_J1, [(112, none), (110, none)], []⟩) [(3, ⟨T_Kn1, F_Kn1, [(112, none), (110, none)], []⟩), (2, ⟨T_L, F_L, [(110, none)], []⟩), (1, ⟨T_C1, F_C1, [(110, none)], fm8⟩), (0, ⟨T_E0, F_E0, [], fm1⟩)] .leaf := by
  unfold GoodT
  rw [good_l1_41paths]
  simp only [List.forall_mem_cons]
  exact ⟨good_l1_41_0, fun _ h => absurd h List.not_mem_nil⟩
theorem good_l1_42paths : DT.paths .leaf = [[]] := by kernel_rfl
theorem good_l1_42 : GoodT rnL cd7 (F_J1 ++ lem_l1_42) T_J1.toS (some ⟨T_J1, F_J1, [(111, some 101), (112, none), (110, none)], []⟩) [(4, ⟨T_Kn1, F_Kn1, [(112, none), (110, none)], []⟩), (3, ⟨T_Kn1, F_Kn1, [(112, none), (110, none)], []⟩), (2, ⟨T_L, F_L, [(110, none)], []⟩), (1, ⟨T_C1, F_C1, [(110, none)], fm8⟩), (0, ⟨T_E0, F_E0, [], fm1⟩)] .leaf := by
  unfold GoodT
  rw [good_l1_42paths]
  simp only [List.forall_mem_cons]
  exact ⟨good_l1_42_0, fun _ h => absurd h List.not_mem_nil⟩
theorem good_l1_43paths : DT.paths .leaf = [[]] := by kernel_rfl
theorem good_l1_43 : GoodT rnL (cd5.drop 3) (F_Kn1 ++ lem_l1_43) T_Kn1.toS (some ⟨T_K0, F_K0, [(112, some 5), (110, none)], fm12⟩) [(2, ⟨T_L, F_L, [(110, none)], []⟩), (1, ⟨T_C1, F_C1, [(110, none)], fm8⟩), (0, ⟨T_E0, F_E0, [], fm1⟩)] .leaf := by
  unfold GoodT
  rw [good_l1_43paths]
  simp only [List.forall_mem_cons]
  exact ⟨good_l1_43_0, fun _ h => absurd h List.not_mem_nil⟩
theorem good_l1_44paths : DT.paths .leaf = [[]] := by kernel_rfl
theorem good_l1_44 : GoodT rnL (cd5.take 2) (F_K2 ++ lem_l1_44) T_K2.toS (some ⟨T_K2, F_K2, [(112, none), (110, none)], []⟩) [(2, ⟨T_L, F_L, [(110, none)], []⟩), (1, ⟨T_C1, F_C1, [(110, none)], fm8⟩), (0, ⟨T_E0, F_E0, [], fm1⟩)] .leaf := by
  unfold GoodT
  rw [good_l1_44paths]
  simp only [List.forall_mem_cons]
  exact ⟨good_l1_44_0, fun _ h => absurd h List.not_mem_nil⟩
theorem good_l1_45paths : DT.paths .leaf = [[]] := by kernel_rfl
theorem good_l1_45 : GoodT rnL (cd6.take 4) (F_K2 ++ lem_l1_45) T_K2.toS (some ⟨T_J2, F_J2, [(112, none), (110, none)], []⟩) [(3, ⟨T_Kn2, F_Kn2, [(112, none), (110, none)], []⟩), (2, ⟨T_L, F_L, [(110, none)], []⟩), (1, ⟨T_C1, F_C1, [(110, none)], fm8⟩), (0, ⟨T_E0, F_E0, [], fm1⟩)] .leaf := by
  unfold GoodT
  rw [good_l1_45paths]
  simp only [List.forall_mem_cons]
  exact ⟨good_l1_45_0, fun _ h => absurd h List.not_mem_nil⟩
theorem good_l1_46paths : DT.paths .leaf = [[]] := by kernel_rfl
theorem good_l1_46 : GoodT rnL cd7 (F_J2 ++ lem_l1_46) T_J2.toS (some ⟨T_J2, F_J2, [(111, some 101), (112, none), (110, none)], []⟩) [(4, ⟨T_Kn2, F_Kn2, [(112, none), (110, none)], []⟩), (3, ⟨T_Kn2, F_Kn2, [(112, none), (110, none)], []⟩), (2, ⟨T_L, F_L, [(110, none)], []⟩), (1, ⟨T_C1, F_C1, [(110, none)], fm8⟩), (0, ⟨T_E0, F_E0, [], fm1⟩)] .leaf := by
  unfold GoodT
  rw [good_l1_46paths]
  simp only [List.forall_mem_cons]
  exact ⟨good_l1_46_0, fun _ h => absurd h List.not_mem_nil⟩
theorem good_l1_47paths : DT.paths .leaf = [[]] := by kernel_rfl
theorem good_l1_47 : GoodT rnL (cd5.drop 3) (F_Kn2 ++ lem_l1_47) T_Kn2.toS (some ⟨T_K0, F_K0, [(112, some 5), (110, none)], fm12⟩) [(2, ⟨T_L, F_L, [(110, none)], []⟩), (1, ⟨T_C1, F_C1, [(110, none)], fm8⟩), (0, ⟨T_E0, F_E0, [], fm1⟩)] .leaf := by
  unfold GoodT
  rw [good_l1_47paths]
  simp only [List.forall_mem_cons]
  exact ⟨good_l1_47_0, fun _ h => absurd h List.not_mem_nil⟩
theorem good_l1_48paths : DT.paths .leaf = [[]] := by kernel_rfl
theorem good_l1_48 : GoodT rnL (cd5.take 2) (F_K3 ++ lem_l1_48) T_K3.toS (some ⟨T_K3, F_K3, [(112, none), (110, none)], []⟩) [(2, ⟨T_L, F_L, [(110, none)], []⟩), (1, ⟨T_C1, F_C1, [(110, none)], fm8⟩), (0, ⟨T_E0, F_E0, [], fm1⟩)] .leaf := by
  unfold GoodT
  rw [good_l1_48paths]
  simp only [List.forall_mem_cons]
  exact ⟨good_l1_48_0, fun _ h => absurd h List.not_mem_nil⟩
theorem good_l1_49paths : DT.paths .leaf = [[]] := by kernel_rfl
theorem good_l1_49 : GoodT rnL (cd6.take 4) (F_K3 ++ lem_l1_49) T_K3.toS (some ⟨T_J3, F_J3, [(112, none), (110, none)], []⟩) [(3, ⟨T_Kn3, F_Kn3, [(112, none), (110, none)], []⟩), (2, ⟨T_L, F_L, [(110, none)], []⟩), (1, ⟨T_C1, F_C1, [(110, none)], fm8⟩), (0, ⟨T_E0, F_E0, [], fm1⟩)] .leaf := by
  unfold GoodT
  rw [good_l1_49paths]
  simp only [List.forall_mem_cons]
  exact ⟨good_l1_49_0, fun _ h => absurd h List.not_mem_nil⟩
theorem good_l1_50paths : DT.paths .leaf = [[]] := by kernel_rfl
theorem good_l1_50 : GoodT rnL cd7 (F_J3 ++ lem_l1_50) T_J3.toS (some ⟨T_J3, F_J3, [(111, some 101), (112, none), (110, none)], []⟩) [(4, ⟨T_Kn3, F_Kn3, [(112, none), (110, none)], []⟩), (3, ⟨T_Kn3, F_Kn3, [(112, none), (110, none)], []⟩), (2, ⟨T_L, F_L, [(110, none)], []⟩), (1, ⟨T_C1, F_C1, [(110, none)], fm8⟩), (0, ⟨T_E0, F_E0, [], fm1⟩)] .leaf := by
  unfold GoodT
  rw [good_l1_50paths]
  simp only [List.forall_mem_cons]
  exact ⟨good_l1_50_0, fun _ h => absurd h List.not_mem_nil⟩
theorem good_l1_51paths : DT.paths .leaf = [[]] := by kernel_rfl
theorem good_l1_51 : GoodT rnL (cd5.drop 3) (F_Kn3 ++ lem_l1_51) T_Kn3.toS (some ⟨T_K0, F_K0, [(112, some 5), (110, none)], fm12⟩) [(2, ⟨T_L, F_L, [(110, none)], []⟩), (1, ⟨T_C1, F_C1, [(110, none)], fm8⟩), (0, ⟨T_E0, F_E0, [], fm1⟩)] .leaf := by
  unfold GoodT
  rw [good_l1_51paths]
  simp only [List.forall_mem_cons]
  exact ⟨good_l1_51_0, fun _ h => absurd h List.not_mem_nil⟩
theorem good_l1_52paths : DT.paths .leaf = [[]] := by kernel_rfl
theorem good_l1_52 : GoodT rnL cd5 (F_K4 ++ lem_l1_52) T_K4.toS (some ⟨T_K0, F_K0, [(112, some 5), (110, none)], fm12⟩) [(2, ⟨T_L, F_L, [(110, none)], []⟩), (1, ⟨T_C1, F_C1, [(110, none)], fm8⟩), (0, ⟨T_E0, F_E0, [], fm1⟩)] .leaf := by
  unfold GoodT
  rw [good_l1_52paths]
  simp only [List.forall_mem_cons]
  exact ⟨good_l1_52_0, fun _ h => absurd h List.not_mem_nil⟩
theorem good_l1_53paths : DT.paths .leaf = [[]] := by kernel_rfl
theorem good_l1_53 : GoodT rnL (cd4.drop 2) (F_L ++ lem_l1_53) T_L.toS (some ⟨T_G1, F_G1, [(110, none)], fm10⟩) [(1, ⟨T_C1, F_C1, [(110, none)], fm8⟩), (0, ⟨T_E0, F_E0, [], fm1⟩)] .leaf := by
  unfold GoodT
  rw [good_l1_53paths]
  simp only [List.forall_mem_cons]
  exact ⟨good_l1_53_0, fun _ h => absurd h List.not_mem_nil⟩
theorem good_l1_54paths : DT.paths .leaf = [[]] := by kernel_rfl
theorem good_l1_54 : GoodT rnL (cd2.drop 3) (F_G1 ++ lem_l1_54) T_G1.toS (some ⟨T_C1, F_C1, [(110, none)], fm8⟩) [(1, ⟨T_C1, F_C1, [(110, none)], fm8⟩), (0, ⟨T_E0, F_E0, [], fm1⟩)] .leaf := by
  unfold GoodT
  rw [good_l1_54paths]
  simp only [List.forall_mem_cons]
  exact ⟨good_l1_54_0, fun _ h => absurd h List.not_mem_nil⟩
theorem good_l1_55paths : DT.paths .leaf = [[]] := by kernel_rfl
theorem good_l1_55 : GoodT rnL (cd2.drop 3) (F_G4 ++ lem_l1_55) T_G4.toS (some ⟨T_C1, F_C1, [(110, none)], fm8⟩) [(1, ⟨T_C1, F_C1, [(110, none)], fm8⟩), (0, ⟨T_E0, F_E0, [], fm1⟩)] .leaf := by
  unfold GoodT
  rw [good_l1_55paths]
  simp only [List.forall_mem_cons]
  exact ⟨good_l1_55_0, fun _ h => absurd h List.not_mem_nil⟩
theorem good_l1_56paths : DT.paths .leaf = [[]] := by kernel_rfl
theorem good_l1_56 : GoodT rnL (cd1.drop 3) (F_C1 ++ lem_l1_56) T_C1.toS (some ⟨T_A0, F_A0, [(110, some 101)], fm0⟩) [(0, ⟨T_E0, F_E0, [], fm1⟩)] .leaf := by
  unfold GoodT
  rw [good_l1_56paths]
  simp only [List.forall_mem_cons]
  exact ⟨good_l1_56_0, fun _ h => absurd h List.not_mem_nil⟩
theorem good_l1_57paths : DT.paths .leaf = [[]] := by kernel_rfl
theorem good_l1_57 : GoodT rnL (cd1.drop 3) (F_C4 ++ lem_l1_57) T_C4.toS (some ⟨T_A0, F_A0, [(110, some 101)], fm0⟩) [(0, ⟨T_E0, F_E0, [], fm1⟩)] .leaf := by
  unfold GoodT
  rw [good_l1_57paths]
  simp only [List.forall_mem_cons]
  exact ⟨good_l1_57_0, fun _ h => absurd h List.not_mem_nil⟩
theorem good_l1_58paths : DT.paths .leaf = [[]] := by kernel_rfl
theorem good_l1_58 : GoodT rnL ((cd0.drop 8).take 1) (F_E0 ++ lem_l1_58) T_E0.toS (some ⟨T_M00, F_M00, [], fm13⟩) [] .leaf := by
  unfold GoodT
  rw [good_l1_58paths]
  simp only [List.forall_mem_cons]
  exact ⟨good_l1_58_0, fun _ h => absurd h List.not_mem_nil⟩
theorem good_l1_59paths : DT.paths .leaf = [[]] := by kernel_rfl
theorem good_l1_59 : GoodT rnL ((cd0.drop 8).take 1) (F_E1 ++ lem_l1_59) T_E1.toS (some ⟨T_M00, F_M00, [], fm13⟩) [] .leaf := by
  unfold GoodT
  rw [good_l1_59paths]
  simp only [List.forall_mem_cons]
  exact ⟨good_l1_59_0, fun _ h => absurd h List.not_mem_nil⟩
theorem good_l1_60paths : DT.paths .leaf = [[]] := by kernel_rfl
theorem good_l1_60 : GoodT rnL ((cd0.drop 8).take 1) (F_E2 ++ lem_l1_60) T_E2.toS (some ⟨T_M00, F_M00, [], fm13⟩) [] .leaf := by
  unfold GoodT
  rw [good_l1_60paths]
  simp only [List.forall_mem_cons]
  exact ⟨good_l1_60_0, fun _ h => absurd h List.not_mem_nil⟩
theorem good_l1_61paths : DT.paths .leaf = [[]] := by kernel_rfl
theorem good_l1_61 : GoodT rnL ((cd0.drop 8).take 1) (F_E3 ++ lem_l1_61) T_E3.toS (some ⟨T_M00, F_M00, [], fm13⟩) [] .leaf := by
  unfold GoodT
  rw [good_l1_61paths]
  simp only [List.forall_mem_cons]
  exact ⟨good_l1_61_0, fun _ h => absurd h List.not_mem_nil⟩
theorem good_l1_62paths : DT.paths .leaf = [[]] := by kernel_rfl
theorem good_l1_62 : GoodT rnL ((cd0.drop 8).take 1) (F_E4 ++ lem_l1_62) T_E4.toS (some ⟨T_M00, F_M00, [], fm13⟩) [] .leaf := by
  unfold GoodT
  rw [good_l1_62paths]
  simp only [List.forall_mem_cons]
  exact ⟨good_l1_62_0, fun _ h => absurd h List.not_mem_nil⟩
theorem good_l1_63paths : DT.paths .leaf = [[]] := by kernel_rfl
theorem good_l1_63 : GoodT rnL (cd8.take 2) (F_M00 ++ lem_l1_63) T_M00.toS (some ⟨T_M00, F_M00, [(112, none)], []⟩) [(6, ⟨T_Q, F_Q, [], []⟩)] .leaf := by
  unfold GoodT
  rw [good_l1_63paths]
  simp only [List.forall_mem_cons]
  exact ⟨good_l1_63_0, fun _ h => absurd h List.not_mem_nil⟩
theorem good_l1_64paths : DT.paths .leaf = [[]] := by kernel_rfl
theorem good_l1_64 : GoodT rnL cd9 (F_M00 ++ lem_l1_64) T_M00.toS (some ⟨T_N00, F_N00, [(112, none)], []⟩) [(7, ⟨T_N00, F_N00, [(112, none)], []⟩), (6, ⟨T_Q, F_Q, [], []⟩)] .leaf := by
  unfold GoodT
  rw [good_l1_64paths]
  simp only [List.forall_mem_cons]
  exact ⟨good_l1_64_0, fun _ h => absurd h List.not_mem_nil⟩
theorem good_l1_65paths : DT.paths .leaf = [[]] := by kernel_rfl
theorem good_l1_65 : GoodT rnL (cd8.drop 3) (F_N00 ++ lem_l1_65) T_N00.toS (some ⟨T_M00, F_M00, [(112, some 5)], fm13⟩) [(6, ⟨T_Q, F_Q, [], []⟩)] .leaf := by
  unfold GoodT
  rw [good_l1_65paths]
  simp only [List.forall_mem_cons]
  exact ⟨good_l1_65_0, fun _ h => absurd h List.not_mem_nil⟩
theorem good_l1_66paths : DT.paths .leaf = [[]] := by kernel_rfl
theorem good_l1_66 : GoodT rnL (cd8.take 2) (F_M01 ++ lem_l1_66) T_M01.toS (some ⟨T_M01, F_M01, [(112, none)], []⟩) [(6, ⟨T_Q, F_Q, [], []⟩)] .leaf := by
  unfold GoodT
  rw [good_l1_66paths]
  simp only [List.forall_mem_cons]
  exact ⟨good_l1_66_0, fun _ h => absurd h List.not_mem_nil⟩
theorem good_l1_67paths : DT.paths .leaf = [[]] := by kernel_rfl
theorem good_l1_67 : GoodT rnL (cd9.take 2) (F_M01 ++ lem_l1_67) T_M01.toS (some ⟨T_I01, F_I01, [(112, none)], []⟩) [(7, ⟨T_N01, F_N01, [(112, none)], []⟩), (6, ⟨T_Q, F_Q, [], []⟩)] .leaf := by
  unfold GoodT
  rw [good_l1_67paths]
  simp only [List.forall_mem_cons]
  exact ⟨good_l1_67_0, fun _ h => absurd h List.not_mem_nil⟩
theorem good_l1_68paths : DT.paths .leaf = [[]] := by kernel_rfl
theorem good_l1_68 : GoodT rnL cd10 (F_I01 ++ lem_l1_68) T_I01.toS (some ⟨T_I01, F_I01, [(111, some 101), (112, none)], []⟩) [(8, ⟨T_N01, F_N01, [(112, none)], []⟩), (7, ⟨T_N01, F_N01, [(112, none)], []⟩), (6, ⟨T_Q, F_Q, [], []⟩)] .leaf := by
  unfold GoodT
  rw [good_l1_68paths]
  simp only [List.forall_mem_cons]
  exact ⟨good_l1_68_0, fun _ h => absurd h List.not_mem_nil⟩
theorem good_l1_69paths : DT.paths .leaf = [[]] := by kernel_rfl
theorem good_l1_69 : GoodT rnL (cd8.drop 3) (F_N01 ++ lem_l1_69) T_N01.toS (some ⟨T_M00, F_M00, [(112, some 5)], fm13⟩) [(6, ⟨T_Q, F_Q, [], []⟩)] .leaf := by
  unfold GoodT
  rw [good_l1_69paths]
  simp only [List.forall_mem_cons]
  exact ⟨good_l1_69_0, fun _ h => absurd h List.not_mem_nil⟩
theorem good_l1_70paths : DT.paths .leaf = [[]] := by kernel_rfl
theorem good_l1_70 : GoodT rnL (cd8.take 2) (F_M02 ++ lem_l1_70) T_M02.toS (some ⟨T_M02, F_M02, [(112, none)], []⟩) [(6, ⟨T_Q, F_Q, [], []⟩)] .leaf := by
  unfold GoodT
  rw [good_l1_70paths]
  simp only [List.forall_mem_cons]
  exact ⟨good_l1_70_0, fun _ h => absurd h List.not_mem_nil⟩
theorem good_l1_71paths : DT.paths .leaf = [[]] := by kernel_rfl
theorem good_l1_71 : GoodT rnL (cd9.take 2) (F_M02 ++ lem_l1_71) T_M02.toS (some ⟨T_I02, F_I02, [(112, none)], []⟩) [(7, ⟨T_N02, F_N02, [(112, none)], []⟩), (6, ⟨T_Q, F_Q, [], []⟩)] .leaf := by
  unfold GoodT
  rw [good_l1_71paths]
  simp only [List.forall_mem_cons]
  exact ⟨good_l1_71_0, fun _ h => absurd h List.not_mem_nil⟩
theorem good_l1_72paths : DT.paths .leaf = [[]] := by kernel_rfl
theorem good_l1_72 : GoodT rnL cd10 (F_I02 ++ lem_l1_72) T_I02.toS (some ⟨T_I02, F_I02, [(111, some 101), (112, none)], []⟩) [(8, ⟨T_N02, F_N02, [(112, none)], []⟩), (7, ⟨T_N02, F_N02, [(112, none)], []⟩), (6, ⟨T_Q, F_Q, [], []⟩)] .leaf := by
  unfold GoodT
  rw [good_l1_72paths]
  simp only [List.forall_mem_cons]
  exact ⟨good_l1_72_0, fun _ h => absurd h List.not_mem_nil⟩
theorem good_l1_73paths : DT.paths .leaf = [[]] := by kernel_rfl
theorem good_l1_73 : GoodT rnL (cd8.drop 3) (F_N02 ++ lem_l1_73) T_N02.toS (some ⟨T_M00, F_M00, [(112, some 5)], fm13⟩) [(6, ⟨T_Q, F_Q, [], []⟩)] .leaf := by
  unfold GoodT
  rw [good_l1_73paths]
  simp only [List.forall_mem_cons]
  exact ⟨good_l1_73_0, fun _ h => absurd h List.not_mem_nil⟩
theorem good_l1_74paths : DT.paths .leaf = [[]] := by kernel_rfl
theorem good_l1_74 : GoodT rnL (cd8.take 2) (F_M03 ++ lem_l1_74) T_M03.toS (some ⟨T_M03, F_M03, [(112, none)], []⟩) [(6, ⟨T_Q, F_Q, [], []⟩)] .leaf := by
  unfold GoodT
  rw [good_l1_74paths]
  simp only [List.forall_mem_cons]
  exact ⟨good_l1_74_0, fun _ h => absurd h List.not_mem_nil⟩
theorem good_l1_75paths : DT.paths .leaf = [[]] := by kernel_rfl
theorem good_l1_75 : GoodT rnL (cd9.take 2) (F_M03 ++ lem_l1_75) T_M03.toS (some ⟨T_I03, F_I03, [(112, none)], []⟩) [(7, ⟨T_N03, F_N03, [(112, none)], []⟩), (6, ⟨T_Q, F_Q, [], []⟩)] .leaf := by
  unfold GoodT
  rw [good_l1_75paths]
  simp only [List.forall_mem_cons]
  exact ⟨good_l1_75_0, fun _ h => absurd h List.not_mem_nil⟩
theorem good_l1_76paths : DT.paths .leaf = [[]] := by kernel_rfl
theorem good_l1_76 : GoodT rnL cd10 (F_I03 ++ lem_l1_76) T_I03.toS (some ⟨T_I03, F_I03, [(111, some 101), (112, none)], []⟩) [(8, ⟨T_N03, F_N03, [(112, none)], []⟩), (7, ⟨T_N03, F_N03, [(112, none)], []⟩), (6, ⟨T_Q, F_Q, [], []⟩)] .leaf := by
  unfold GoodT
  rw [good_l1_76paths]
  simp only [List.forall_mem_cons]
  exact ⟨good_l1_76_0, fun _ h => absurd h List.not_mem_nil⟩
theorem good_l1_77paths : DT.paths .leaf = [[]] := by kernel_rfl
theorem good_l1_77 : GoodT rnL (cd8.drop 3) (F_N03 ++ lem_l1_77) T_N03.toS (some ⟨T_M00, F_M00, [(112, some 5)], fm13⟩) [(6, ⟨T_Q, F_Q, [], []⟩)] .leaf := by
  unfold GoodT
  rw [good_l1_77paths]
  simp only [List.forall_mem_cons]
  exact ⟨good_l1_77_0, fun _ h => absurd h List.not_mem_nil⟩
theorem good_l1_78paths : DT.paths .leaf = [[]] := by kernel_rfl
theorem good_l1_78 : GoodT rnL (cd8.take 2) (F_M04 ++ lem_l1_78) T_M04.toS (some ⟨T_M04, F_M04, [(112, none)], []⟩) [(6, ⟨T_Q, F_Q, [], []⟩)] .leaf := by
  unfold GoodT
  rw [good_l1_78paths]
  simp only [List.forall_mem_cons]
  exact ⟨good_l1_78_0, fun _ h => absurd h List.not_mem_nil⟩
theorem good_l1_79paths : DT.paths .leaf = [[]] := by kernel_rfl
theorem good_l1_79 : GoodT rnL (cd9.take 2) (F_M04 ++ lem_l1_79) T_M04.toS (some ⟨T_I04, F_I04, [(112, none)], []⟩) [(7, ⟨T_N04, F_N04, [(112, none)], []⟩), (6, ⟨T_Q, F_Q, [], []⟩)] .leaf := by
  unfold GoodT
  rw [good_l1_79paths]
  simp only [List.forall_mem_cons]
  exact ⟨good_l1_79_0, fun _ h => absurd h List.not_mem_nil⟩
theorem good_l1_80paths : DT.paths .leaf = [[]] := by kernel_rfl
theorem good_l1_80 : GoodT rnL cd10 (F_I04 ++ lem_l1_80) T_I04.toS (some ⟨T_I04, F_I04, [(111, some 101), (112, none)], []⟩) [(8, ⟨T_N04, F_N04, [(112, none)], []⟩), (7, ⟨T_N04, F_N04, [(112, none)], []⟩), (6, ⟨T_Q, F_Q, [], []⟩)] .leaf := by
  unfold GoodT
  rw [good_l1_80paths]
  simp only [List.forall_mem_cons]
  exact ⟨good_l1_80_0, fun _ h => absurd h List.not_mem_nil⟩
theorem good_l1_81paths : DT.paths .leaf = [[]] := by kernel_rfl
theorem good_l1_81 : GoodT rnL (cd8.drop 3) (F_N04 ++ lem_l1_81) T_N04.toS (some ⟨T_M00, F_M00, [(112, some 5)], fm13⟩) [(6, ⟨T_Q, F_Q, [], []⟩)] .leaf := by
  unfold GoodT
  rw [good_l1_81paths]
  simp only [List.forall_mem_cons]
  exact ⟨good_l1_81_0, fun _ h => absurd h List.not_mem_nil⟩
theorem good_l1_82paths : DT.paths .leaf = [[]] := by kernel_rfl
theorem good_l1_82 : GoodT rnL (cd8.take 2) (F_M10 ++ lem_l1_82) T_M10.toS (some ⟨T_M10, F_M10, [(112, none)], []⟩) [(6, ⟨T_Q, F_Q, [], []⟩)] .leaf := by
  unfold GoodT
  rw [good_l1_82paths]
  simp only [List.forall_mem_cons]
  exact ⟨good_l1_82_0, fun _ h => absurd h List.not_mem_nil⟩
theorem good_l1_83paths : DT.paths .leaf = [[]] := by kernel_rfl
theorem good_l1_83 : GoodT rnL cd9 (F_M10 ++ lem_l1_83) T_M10.toS (some ⟨T_N10, F_N10, [(112, none)], []⟩) [(7, ⟨T_N10, F_N10, [(112, none)], []⟩), (6, ⟨T_Q, F_Q, [], []⟩)] .leaf := by
  unfold GoodT
  rw [good_l1_83paths]
  simp only [List.forall_mem_cons]
  exact ⟨good_l1_83_0, fun _ h => absurd h List.not_mem_nil⟩
theorem good_l1_84paths : DT.paths .leaf = [[]] := by kernel_rfl
theorem good_l1_84 : GoodT rnL (cd8.drop 3) (F_N10 ++ lem_l1_84) T_N10.toS (some ⟨T_M00, F_M00, [(112, some 5)], fm13⟩) [(6, ⟨T_Q, F_Q, [], []⟩)] .leaf := by
  unfold GoodT
  rw [good_l1_84paths]
  simp only [List.forall_mem_cons]
  exact ⟨good_l1_84_0, fun _ h => absurd h List.not_mem_nil⟩
theorem good_l1_85paths : DT.paths .leaf = [[]] := by kernel_rfl
theorem good_l1_85 : GoodT rnL (cd8.take 2) (F_M11 ++ lem_l1_85) T_M11.toS (some ⟨T_M11, F_M11, [(112, none)], []⟩) [(6, ⟨T_Q, F_Q, [], []⟩)] .leaf := by
  unfold GoodT
  rw [good_l1_85paths]
  simp only [List.forall_mem_cons]
  exact ⟨good_l1_85_0, fun _ h => absurd h List.not_mem_nil⟩
theorem good_l1_86paths : DT.paths .leaf = [[]] := by kernel_rfl
theorem good_l1_86 : GoodT rnL (cd9.take 2) (F_M11 ++ lem_l1_86) T_M11.toS (some ⟨T_I11, F_I11, [(112, none)], []⟩) [(7, ⟨T_N11, F_N11, [(112, none)], []⟩), (6, ⟨T_Q, F_Q, [], []⟩)] .leaf := by
  unfold GoodT
  rw [good_l1_86paths]
  simp only [List.forall_mem_cons]
  exact ⟨good_l1_86_0, fun _ h => absurd h List.not_mem_nil⟩
theorem good_l1_87paths : DT.paths .leaf = [[]] := by kernel_rfl
theorem good_l1_87 : GoodT rnL cd10 (F_I11 ++ lem_l1_87) T_I11.toS (some ⟨T_I11, F_I11, [(111, some 101), (112, none)], []⟩) [(8, ⟨T_N11, F_N11, [(112, none)], []⟩), (7, ⟨T_N11, F_N11, [(112, none)], []⟩), (6, ⟨T_Q, F_Q, [], []⟩)] .leaf := by
  unfold GoodT
  rw [good_l1_87paths]
  simp only [List.forall_mem_cons]
  exact ⟨good_l1_87_0, fun _ h => absurd h List.not_mem_nil⟩
theorem good_l1_88paths : DT.paths .leaf = [[]] := by kernel_rfl
theorem good_l1_88 : GoodT rnL (cd8.drop 3) (F_N11 ++ lem_l1_88) T_N11.toS (some ⟨T_M00, F_M00, [(112, some 5)], fm13⟩) [(6, ⟨T_Q, F_Q, [], []⟩)] .leaf := by
  unfold GoodT
  rw [good_l1_88paths]
  simp only [List.forall_mem_cons]
  exact ⟨good_l1_88_0, fun _ h => absurd h List.not_mem_nil⟩
theorem good_l1_89paths : DT.paths .leaf = [[]] := by kernel_rfl
theorem good_l1_89 : GoodT rnL (cd8.take 2) (F_M12 ++ lem_l1_89) T_M12.toS (some ⟨T_M12, F_M12, [(112, none)], []⟩) [(6, ⟨T_Q, F_Q, [], []⟩)] .leaf := by
  unfold GoodT
  rw [good_l1_89paths]
  simp only [List.forall_mem_cons]
  exact ⟨good_l1_89_0, fun _ h => absurd h List.not_mem_nil⟩
theorem good_l1_90paths : DT.paths .leaf = [[]] := by kernel_rfl
theorem good_l1_90 : GoodT rnL (cd9.take 2) (F_M12 ++ lem_l1_90) T_M12.toS (some ⟨T_I12, F_I12, [(112, none)], []⟩) [(7, ⟨T_N12, F_N12, [(112, none)], []⟩), (6, ⟨T_Q, F_Q, [], []⟩)] .leaf := by
  unfold GoodT
  rw [good_l1_90paths]
  simp only [List.forall_mem_cons]
  exact ⟨good_l1_90_0, fun _ h => absurd h List.not_mem_nil⟩
theorem good_l1_91paths : DT.paths .leaf = [[]] := by kernel_rfl
theorem good_l1_91 : GoodT rnL cd10 (F_I12 ++ lem_l1_91) T_I12.toS (some ⟨T_I12, F_I12, [(111, some 101), (112, none)], []⟩) [(8, ⟨T_N12, F_N12, [(112, none)], []⟩), (7, ⟨T_N12, F_N12, [(112, none)], []⟩), (6, ⟨T_Q, F_Q, [], []⟩)] .leaf := by
  unfold GoodT
  rw [good_l1_91paths]
  simp only [List.forall_mem_cons]
  exact ⟨good_l1_91_0, fun _ h => absurd h List.not_mem_nil⟩
theorem good_l1_92paths : DT.paths .leaf = [[]] := by kernel_rfl
theorem good_l1_92 : GoodT rnL (cd8.drop 3) (F_N12 ++ lem_l1_92) T_N12.toS (some ⟨T_M00, F_M00, [(112, some 5)], fm13⟩) [(6, ⟨T_Q, F_Q, [], []⟩)] .leaf := by
  unfold GoodT
  rw [good_l1_92paths]
  simp only [List.forall_mem_cons]
  exact ⟨good_l1_92_0, fun _ h => absurd h List.not_mem_nil⟩
theorem good_l1_93paths : DT.paths .leaf = [[]] := by kernel_rfl
theorem good_l1_93 : GoodT rnL (cd8.take 2) (F_M13 ++ lem_l1_93) T_M13.toS (some ⟨T_M13, F_M13, [(112, none)], []⟩) [(6, ⟨T_Q, F_Q, [], []⟩)] .leaf := by
  unfold GoodT
  rw [good_l1_93paths]
  simp only [List.forall_mem_cons]
  exact ⟨good_l1_93_0, fun _ h => absurd h List.not_mem_nil⟩
theorem good_l1_94paths : DT.paths .leaf = [[]] := by kernel_rfl
theorem good_l1_94 : GoodT rnL (cd9.take 2) (F_M13 ++ lem_l1_94) T_M13.toS (some ⟨T_I13, F_I13, [(112, none)], []⟩) [(7, ⟨T_N13, F_N13, [(112, none)], []⟩), (6, ⟨T_Q, F_Q, [], []⟩)] .leaf := by
  unfold GoodT
  rw [good_l1_94paths]
  simp only [List.forall_mem_cons]
  exact ⟨good_l1_94_0, fun _ h => absurd h List.not_mem_nil⟩
theorem good_l1_95paths : DT.paths .leaf = [[]] := by kernel_rfl
theorem good_l1_95 : GoodT rnL cd10 (F_I13 ++ lem_l1_95) T_I13.toS (some ⟨T_I13, F_I13, [(111, some 101), (112, none)], []⟩) [(8, ⟨T_N13, F_N13, [(112, none)], []⟩), (7, ⟨T_N13, F_N13, [(112, none)], []⟩), (6, ⟨T_Q, F_Q, [], []⟩)] .leaf := by
  unfold GoodT
  rw [good_l1_95paths]
  simp only [List.forall_mem_cons]
  exact ⟨good_l1_95_0, fun _ h => absurd h List.not_mem_nil⟩
theorem good_l1_96paths : DT.paths .leaf = [[]] := by kernel_rfl
theorem good_l1_96 : GoodT rnL (cd8.drop 3) (F_N13 ++ lem_l1_96) T_N13.toS (some ⟨T_M00, F_M00, [(112, some 5)], fm13⟩) [(6, ⟨T_Q, F_Q, [], []⟩)] .leaf := by
  unfold GoodT
  rw [good_l1_96paths]
  simp only [List.forall_mem_cons]
  exact ⟨good_l1_96_0, fun _ h => absurd h List.not_mem_nil⟩
theorem good_l1_97paths : DT.paths .leaf = [[]] := by kernel_rfl
theorem good_l1_97 : GoodT rnL (cd8.take 2) (F_M20 ++ lem_l1_97) T_M20.toS (some ⟨T_M20, F_M20, [(112, none)], []⟩) [(6, ⟨T_Q, F_Q, [], []⟩)] .leaf := by
  unfold GoodT
  rw [good_l1_97paths]
  simp only [List.forall_mem_cons]
  exact ⟨good_l1_97_0, fun _ h => absurd h List.not_mem_nil⟩
theorem good_l1_98paths : DT.paths .leaf = [[]] := by kernel_rfl
theorem good_l1_98 : GoodT rnL cd9 (F_M20 ++ lem_l1_98) T_M20.toS (some ⟨T_N20, F_N20, [(112, none)], []⟩) [(7, ⟨T_N20, F_N20, [(112, none)], []⟩), (6, ⟨T_Q, F_Q, [], []⟩)] .leaf := by
  unfold GoodT
  rw [good_l1_98paths]
  simp only [List.forall_mem_cons]
  exact ⟨good_l1_98_0, fun _ h => absurd h List.not_mem_nil⟩
theorem good_l1_99paths : DT.paths .leaf = [[]] := by kernel_rfl
theorem good_l1_99 : GoodT rnL (cd8.drop 3) (F_N20 ++ lem_l1_99) T_N20.toS (some ⟨T_M00, F_M00, [(112, some 5)], fm13⟩) [(6, ⟨T_Q, F_Q, [], []⟩)] .leaf := by
  unfold GoodT
  rw [good_l1_99paths]
  simp only [List.forall_mem_cons]
  exact ⟨good_l1_99_0, fun _ h => absurd h List.not_mem_nil⟩
theorem good_l1_100paths : DT.paths .leaf = [[]] := by kernel_rfl
theorem good_l1_100 : GoodT rnL (cd8.take 2) (F_M21 ++ lem_l1_100) T_M21.toS (some ⟨T_M21, F_M21, [(112, none)], []⟩) [(6, ⟨T_Q, F_Q, [], []⟩)] .leaf := by
  unfold GoodT
  rw [good_l1_100paths]
  simp only [List.forall_mem_cons]
  exact ⟨good_l1_100_0, fun _ h => absurd h List.not_mem_nil⟩
theorem good_l1_101paths : DT.paths .leaf = [[]] := by kernel_rfl
theorem good_l1_101 : GoodT rnL (cd9.take 2) (F_M21 ++ lem_l1_101) T_M21.toS (some ⟨T_I21, F_I21, [(112, none)], []⟩) [(7, ⟨T_N21, F_N21, [(112, none)], []⟩), (6, ⟨T_Q, F_Q, [], []⟩)] .leaf := by
  unfold GoodT
  rw [good_l1_101paths]
  simp only [List.forall_mem_cons]
  exact ⟨good_l1_101_0, fun _ h => absurd h List.not_mem_nil⟩
theorem good_l1_102paths : DT.paths .leaf = [[]] := by kernel_rfl
theorem good_l1_102 : GoodT rnL cd10 (F_I21 ++ lem_l1_102) T_I21.toS (some ⟨T_I21, F_I21, [(111, some 101), (112, none)], []⟩) [(8, ⟨T_N21, F_N21, [(112, none)], []⟩), (7, ⟨T_N21, F_N21, [(112, none)], []⟩), (6, ⟨T_Q, F_Q, [], []⟩)] .leaf := by
  unfold GoodT
  rw [good_l1_102paths]
  simp only [List.forall_mem_cons]
  exact ⟨good_l1_102_0, fun _ h => absurd h List.not_mem_nil⟩
theorem good_l1_103paths : DT.paths .leaf = [[]] := by kernel_rfl
theorem good_l1_103 : GoodT rnL (cd8.drop 3) (F_N21 ++ lem_l1_103) T_N21.toS (some ⟨T_M00, F_M00, [(112, some 5)], fm13⟩) [(6, ⟨T_Q, F_Q, [], []⟩)] .leaf := by
  unfold GoodT
  rw [good_l1_103paths]
  simp only [List.forall_mem_cons]
  exact ⟨good_l1_103_0, fun _ h => absurd h List.not_mem_nil⟩
theorem good_l1_104paths : DT.paths .leaf = [[]] := by kernel_rfl
theorem good_l1_104 : GoodT rnL (cd8.take 2) (F_M22 ++ lem_l1_104) T_M22.toS (some ⟨T_M22, F_M22, [(112, none)], []⟩) [(6, ⟨T_Q, F_Q, [], []⟩)] .leaf := by
  unfold GoodT
  rw [good_l1_104paths]
  simp only [List.forall_mem_cons]
  exact ⟨good_l1_104_0, fun _ h => absurd h List.not_mem_nil⟩
theorem good_l1_105paths : DT.paths .leaf = [[]] := by kernel_rfl
theorem good_l1_105 : GoodT rnL (cd9.take 2) (F_M22 ++ lem_l1_105) T_M22.toS (some ⟨T_I22, F_I22, [(112, none)], []⟩) [(7, ⟨T_N22, F_N22, [(112, none)], []⟩), (6, ⟨T_Q, F_Q, [], []⟩)] .leaf := by
  unfold GoodT
  rw [good_l1_105paths]
  simp only [List.forall_mem_cons]
  exact ⟨good_l1_105_0, fun _ h => absurd h List.not_mem_nil⟩
theorem good_l1_106paths : DT.paths .leaf = [[]] := by kernel_rfl
theorem good_l1_106 : GoodT rnL cd10 (F_I22 ++ lem_l1_106) T_I22.toS (some ⟨T_I22, F_I22, [(111, some 101), (112, none)], []⟩) [(8, ⟨T_N22, F_N22, [(112, none)], []⟩), (7, ⟨T_N22, F_N22, [(112, none)], []⟩), (6, ⟨T_Q, F_Q, [], []⟩)] .leaf := by
  unfold GoodT
  rw [good_l1_106paths]
  simp only [List.forall_mem_cons]
  exact ⟨good_l1_106_0, fun _ h => absurd h List.not_mem_nil⟩
theorem good_l1_107paths : DT.paths .leaf = [[]] := by kernel_rfl
theorem good_l1_107 : GoodT rnL (cd8.drop 3) (F_N22 ++ lem_l1_107) T_N22.toS (some ⟨T_M00, F_M00, [(112, some 5)], fm13⟩) [(6, ⟨T_Q, F_Q, [], []⟩)] .leaf := by
  unfold GoodT
  rw [good_l1_107paths]
  simp only [List.forall_mem_cons]
  exact ⟨good_l1_107_0, fun _ h => absurd h List.not_mem_nil⟩
theorem good_l1_108paths : DT.paths .leaf = [[]] := by kernel_rfl
theorem good_l1_108 : GoodT rnL (cd8.take 2) (F_M30 ++ lem_l1_108) T_M30.toS (some ⟨T_M30, F_M30, [(112, none)], []⟩) [(6, ⟨T_Q, F_Q, [], []⟩)] .leaf := by
  unfold GoodT
  rw [good_l1_108paths]
  simp only [List.forall_mem_cons]
  exact ⟨good_l1_108_0, fun _ h => absurd h List.not_mem_nil⟩
theorem good_l1_109paths : DT.paths .leaf = [[]] := by kernel_rfl
theorem good_l1_109 : GoodT rnL cd9 (F_M30 ++ lem_l1_109) T_M30.toS (some ⟨T_N30, F_N30, [(112, none)], []⟩) [(7, ⟨T_N30, F_N30, [(112, none)], []⟩), (6, ⟨T_Q, F_Q, [], []⟩)] .leaf := by
  unfold GoodT
  rw [good_l1_109paths]
  simp only [List.forall_mem_cons]
  exact ⟨good_l1_109_0, fun _ h => absurd h List.not_mem_nil⟩
theorem good_l1_110paths : DT.paths .leaf = [[]] := by kernel_rfl
theorem good_l1_110 : GoodT rnL (cd8.drop 3) (F_N30 ++ lem_l1_110) T_N30.toS (some ⟨T_M00, F_M00, [(112, some 5)], fm13⟩) [(6, ⟨T_Q, F_Q, [], []⟩)] .leaf := by
  unfold GoodT
  rw [good_l1_110paths]
  simp only [List.forall_mem_cons]
  exact ⟨good_l1_110_0, fun _ h => absurd h List.not_mem_nil⟩
theorem good_l1_111paths : DT.paths .leaf = [[]] := by kernel_rfl
theorem good_l1_111 : GoodT rnL (cd8.take 2) (F_M31 ++ lem_l1_111) T_M31.toS (some ⟨T_M31, F_M31, [(112, none)], []⟩) [(6, ⟨T_Q, F_Q, [], []⟩)] .leaf := by
  unfold GoodT
  rw [good_l1_111paths]
  simp only [List.forall_mem_cons]
  exact ⟨good_l1_111_0, fun _ h => absurd h List.not_mem_nil⟩
theorem good_l1_112paths : DT.paths .leaf = [[]] := by kernel_rfl
theorem good_l1_112 : GoodT rnL (cd9.take 2) (F_M31 ++ lem_l1_112) T_M31.toS (some ⟨T_I31, F_I31, [(112, none)], []⟩) [(7, ⟨T_N31, F_N31, [(112, none)], []⟩), (6, ⟨T_Q, F_Q, [], []⟩)] .leaf := by
  unfold GoodT
  rw [good_l1_112paths]
  simp only [List.forall_mem_cons]
  exact ⟨good_l1_112_0, fun _ h => absurd h List.not_mem_nil⟩
theorem good_l1_113paths : DT.paths .leaf = [[]] := by kernel_rfl
theorem good_l1_113 : GoodT rnL cd10 (F_I31 ++ lem_l1_113) T_I31.toS (some ⟨T_I31, F_I31, [(111, some 101), (112, none)], []⟩) [(8, ⟨T_N31, F_N31, [(112, none)], []⟩), (7, ⟨T_N31, F_N31, [(112, none)], []⟩), (6, ⟨T_Q, F_Q, [], []⟩)] .leaf := by
  unfold GoodT
  rw [good_l1_113paths]
  simp only [List.forall_mem_cons]
  exact ⟨good_l1_113_0, fun _ h => absurd h List.not_mem_nil⟩
theorem good_l1_114paths : DT.paths .leaf = [[]] := by kernel_rfl
theorem good_l1_114 : GoodT rnL (cd8.drop 3) (F_N31 ++ lem_l1_114) T_N31.toS (some ⟨T_M00, F_M00, [(112, some 5)], fm13⟩) [(6, ⟨T_Q, F_Q, [], []⟩)] .leaf := by
  unfold GoodT
  rw [good_l1_114paths]
  simp only [List.forall_mem_cons]
  exact ⟨good_l1_114_0, fun _ h => absurd h List.not_mem_nil⟩
theorem good_l1_115paths : DT.paths .leaf = [[]] := by kernel_rfl
theorem good_l1_115 : GoodT rnL cd8 (F_M40 ++ lem_l1_115) T_M40.toS (some ⟨T_M00, F_M00, [(112, some 5)], fm13⟩) [(6, ⟨T_Q, F_Q, [], []⟩)] .leaf := by
  unfold GoodT
  rw [good_l1_115paths]
  simp only [List.forall_mem_cons]
  exact ⟨good_l1_115_0, fun _ h => absurd h List.not_mem_nil⟩
theorem good_l1_116paths : DT.paths .leaf = [[]] := by kernel_rfl
theorem good_l1_116 : GoodT rnL (((cd0.drop 8).drop 2).take 1) (F_Q ++ lem_l1_116) T_Q.toS (some ⟨T_R, F_R, [], []⟩) [] .leaf := by
  unfold GoodT
  rw [good_l1_116paths]
  simp only [List.forall_mem_cons]
  exact ⟨good_l1_116_0, fun _ h => absurd h List.not_mem_nil⟩
theorem good_l1_117paths : DT.paths .leaf = [[]] := by kernel_rfl
theorem good_l1_117 : GoodT rnL cd11 (F_R ++ lem_l1_117) T_R.toS (some ⟨T_R, F_R, [(113, some 101)], []⟩) [(10, ⟨T_S, F_S, [], []⟩)] .leaf := by
  unfold GoodT
  rw [good_l1_117paths]
  simp only [List.forall_mem_cons]
  exact ⟨good_l1_117_0, fun _ h => absurd h List.not_mem_nil⟩
theorem good_l1_118paths : DT.paths .leaf = [[]] := by kernel_rfl
theorem good_l1_118 : GoodT rnL (((cd0.drop 8).drop 2).drop 2) (F_S ++ lem_l1_118) T_S.toS none [] .leaf := by
  unfold GoodT
  rw [good_l1_118paths]
  simp only [List.forall_mem_cons]
  exact ⟨good_l1_118_0, fun _ h => absurd h List.not_mem_nil⟩
theorem cs0 : T_D1.toS.slots.get 56 = some (.v (.one (.bool (.lit (.ofNat 0))))) := by kernel_rfl
theorem hl1 : cd2[2]? = some (.cond (.tmp 56) (condYes cd2 2) (condNo cd2 2)) := by kernel_rfl
theorem hl2 : cd1[2]? = some (.block 1 (blockBody cd1 2)) := by kernel_rfl
theorem cs3 : T_D1.toS.slots.get 56 = some (.v (.one (.bool (.lit (.ofNat 0))))) := by kernel_rfl
theorem cs4 : T_D2.toS.slots.get 56 = some (.v (.one (.bool (.lit (.ofNat 0))))) := by kernel_rfl
theorem hl5 : cd2[2]? = some (.cond (.tmp 56) (condYes cd2 2) (condNo cd2 2)) := by kernel_rfl
theorem hl6 : cd1[2]? = some (.block 1 (blockBody cd1 2)) := by kernel_rfl
theorem cs7 : T_D2.toS.slots.get 56 = some (.v (.one (.bool (.lit (.ofNat 0))))) := by kernel_rfl
theorem cs8 : T_D3.toS.slots.get 56 = some (.v (.one (.bool (.lit (.ofNat 0))))) := by kernel_rfl
theorem hl9 : cd2[2]? = some (.cond (.tmp 56) (condYes cd2 2) (condNo cd2 2)) := by kernel_rfl
theorem hl10 : cd1[2]? = some (.block 1 (blockBody cd1 2)) := by kernel_rfl
theorem cs11 : T_D3.toS.slots.get 56 = some (.v (.one (.bool (.lit (.ofNat 0))))) := by kernel_rfl
theorem cs12 : T_D4.toS.slots.get 56 = some (.v (.one (.bool (.lit (.ofNat 0))))) := by kernel_rfl
theorem hl13 : cd2[2]? = some (.cond (.tmp 56) (condYes cd2 2) (condNo cd2 2)) := by kernel_rfl
theorem hl14 : cd1[2]? = some (.block 1 (blockBody cd1 2)) := by kernel_rfl
theorem cs15 : T_D4.toS.slots.get 56 = some (.v (.one (.bool (.lit (.ofNat 0))))) := by kernel_rfl
theorem cs16 : T_DF.toS.slots.get 56 = some (.v (.one (.bool (.lit (.ofNat 1))))) := by kernel_rfl
theorem hl17 : cd6.drop 4 = [.block 4 (.loop (loopBody cd6 4))] := by kernel_rfl
theorem hl18 : cd5[2]? = some (.block 3 (blockBody cd5 2)) := by kernel_rfl
theorem hl19 : cd6.drop 4 = [.block 4 (.loop (loopBody cd6 4))] := by kernel_rfl
theorem hl20 : cd5[2]? = some (.block 3 (blockBody cd5 2)) := by kernel_rfl
theorem hl21 : cd6.drop 4 = [.block 4 (.loop (loopBody cd6 4))] := by kernel_rfl
theorem hl22 : cd5[2]? = some (.block 3 (blockBody cd5 2)) := by kernel_rfl
theorem hl23 : cd6.drop 4 = [.block 4 (.loop (loopBody cd6 4))] := by kernel_rfl
theorem hl24 : cd5[2]? = some (.block 3 (blockBody cd5 2)) := by kernel_rfl
theorem hl25 : cd4[1]? = some (.block 2 (.loop (loopBody cd4 1))) := by kernel_rfl
theorem hl26 : cd2[2]? = some (.cond (.tmp 56) (condYes cd2 2) (condNo cd2 2)) := by kernel_rfl
theorem hl27 : cd1[2]? = some (.block 1 (blockBody cd1 2)) := by kernel_rfl
theorem hl28 : cd8[2]? = some (.block 7 (blockBody cd8 2)) := by kernel_rfl
theorem hl29 : cd9.drop 2 = [.block 8 (.loop (loopBody cd9 2))] := by kernel_rfl
theorem hl30 : cd8[2]? = some (.block 7 (blockBody cd8 2)) := by kernel_rfl
theorem hl31 : cd9.drop 2 = [.block 8 (.loop (loopBody cd9 2))] := by kernel_rfl
theorem hl32 : cd8[2]? = some (.block 7 (blockBody cd8 2)) := by kernel_rfl
theorem hl33 : cd9.drop 2 = [.block 8 (.loop (loopBody cd9 2))] := by kernel_rfl
theorem hl34 : cd8[2]? = some (.block 7 (blockBody cd8 2)) := by kernel_rfl
theorem hl35 : cd9.drop 2 = [.block 8 (.loop (loopBody cd9 2))] := by kernel_rfl
theorem hl36 : cd8[2]? = some (.block 7 (blockBody cd8 2)) := by kernel_rfl
theorem hl37 : cd8[2]? = some (.block 7 (blockBody cd8 2)) := by kernel_rfl
theorem hl38 : cd9.drop 2 = [.block 8 (.loop (loopBody cd9 2))] := by kernel_rfl
theorem hl39 : cd8[2]? = some (.block 7 (blockBody cd8 2)) := by kernel_rfl
theorem hl40 : cd9.drop 2 = [.block 8 (.loop (loopBody cd9 2))] := by kernel_rfl
theorem hl41 : cd8[2]? = some (.block 7 (blockBody cd8 2)) := by kernel_rfl
theorem hl42 : cd9.drop 2 = [.block 8 (.loop (loopBody cd9 2))] := by kernel_rfl
theorem hl43 : cd8[2]? = some (.block 7 (blockBody cd8 2)) := by kernel_rfl
theorem hl44 : cd8[2]? = some (.block 7 (blockBody cd8 2)) := by kernel_rfl
theorem hl45 : cd9.drop 2 = [.block 8 (.loop (loopBody cd9 2))] := by kernel_rfl
theorem hl46 : cd8[2]? = some (.block 7 (blockBody cd8 2)) := by kernel_rfl
theorem hl47 : cd9.drop 2 = [.block 8 (.loop (loopBody cd9 2))] := by kernel_rfl
theorem hl48 : cd8[2]? = some (.block 7 (blockBody cd8 2)) := by kernel_rfl
theorem hl49 : cd8[2]? = some (.block 7 (blockBody cd8 2)) := by kernel_rfl
theorem hl50 : cd9.drop 2 = [.block 8 (.loop (loopBody cd9 2))] := by kernel_rfl
theorem hl51 : cd8[2]? = some (.block 7 (blockBody cd8 2)) := by kernel_rfl
theorem hl52 : ((cd0.drop 8).drop 2)[1]? = some (.block 10 (.loop (loopBody ((cd0.drop 8).drop 2) 1))) := by kernel_rfl
theorem hl53 : (cd0.drop 8)[1]? = some (.block 6 (.loop (loopBody (cd0.drop 8) 1))) := by kernel_rfl
theorem hl54 : cd0[7]? = some (.block 0 (.loop (loopBody cd0 7))) := by kernel_rfl
theorem hC_c_awake_0 {C : Ctx} (h : C.n0 = ct_awake.nx) : LabsOk C (some ct_awake.R) none [] := by
  refine ⟨fun g hg => ?_, fun i g hg => ?_, ?_⟩
  · first | cases hg; done | (cases hg; rw [h]; intro p hp; rcases List.mem_cons.1 hp with rfl | hp; decide; cases hp)
  · simp only [tgtOf] at hg; first | (cases hg; done) | (repeat' split at hg <;> first | (cases hg; done) | (cases hg; rw [h]; intro p hp; rcases List.mem_cons.1 hp with rfl | hp; decide; cases hp))
  · show C.n0 ≤ _; rw [h]; decide
theorem hC_l0_1 {C : Ctx} (h : C.n0 = 0) : LabsOk C none none [] := labsOk_zero h _ _ _
theorem hC_l1_2 {C : Ctx} (h : C.n0 = 0) : LabsOk C none (some ⟨T_A0, F_A0, [], fm0⟩) [] := labsOk_zero h _ _ _
theorem hC_l1_3 {C : Ctx} (h : C.n0 = 0) : LabsOk C none (some ⟨T_B0, F_B0, [(110, none)], []⟩) [(0, ⟨T_E0, F_E0, [], fm1⟩)] := labsOk_zero h _ _ _
theorem hC_l1_4 {C : Ctx} (h : C.n0 = 0) : LabsOk C none (some ⟨T_D1, F_D1, [(110, none)], []⟩) [(1, ⟨T_C1, F_C1, [(110, none)], []⟩), (0, ⟨T_E0, F_E0, [], fm1⟩)] := labsOk_zero h _ _ _
theorem hC_l1_5 {C : Ctx} (h : C.n0 = 0) : LabsOk C none (some ⟨T_G1, F_G1, [(110, none)], []⟩) [(1, ⟨T_C1, F_C1, [(110, none)], []⟩), (0, ⟨T_E0, F_E0, [], fm1⟩)] := labsOk_zero h _ _ _
theorem hC_l1_6 {C : Ctx} (h : C.n0 = 0) : LabsOk C none (some ⟨T_C1, F_C1, [(110, none)], []⟩) [(1, ⟨T_C1, F_C1, [(110, none)], []⟩), (0, ⟨T_E0, F_E0, [], fm1⟩)] := labsOk_zero h _ _ _
theorem hC_l1_7 {C : Ctx} (h : C.n0 = 0) : LabsOk C none (some ⟨T_A0, F_A0, [(110, some 101)], fm0⟩) [(0, ⟨T_E0, F_E0, [], fm1⟩)] := labsOk_zero h _ _ _
theorem hC_l1_8 {C : Ctx} (h : C.n0 = 0) : LabsOk C none (some ⟨T_B1, F_B1, [(110, none)], []⟩) [(0, ⟨T_E0, F_E0, [], fm1⟩)] := labsOk_zero h _ _ _
theorem hC_l1_9 {C : Ctx} (h : C.n0 = 0) : LabsOk C none (some ⟨T_D1, F_D1, [(110, none)], fm3⟩) [(1, ⟨T_C1, F_C1, [(110, none)], fm2⟩), (0, ⟨T_E0, F_E0, [], fm1⟩)] := labsOk_zero h _ _ _
theorem hC_l1_10 {C : Ctx} (h : C.n0 = 0) : LabsOk C none (some ⟨T_G1, F_G1, [(110, none)], fm4⟩) [(1, ⟨T_C1, F_C1, [(110, none)], fm2⟩), (0, ⟨T_E0, F_E0, [], fm1⟩)] := labsOk_zero h _ _ _
theorem hC_l1_11 {C : Ctx} (h : C.n0 = 0) : LabsOk C none (some ⟨T_G1, F_G1, [(110, none)], fm4⟩) [(1, ⟨T_C1, F_C1, [(110, none)], fm2⟩), (0, ⟨T_E0, F_E0, [], fm1⟩)] := labsOk_zero h _ _ _
theorem hC_l1_12 {C : Ctx} (h : C.n0 = 0) : LabsOk C none (some ⟨T_C1, F_C1, [(110, none)], fm2⟩) [(1, ⟨T_C1, F_C1, [(110, none)], fm2⟩), (0, ⟨T_E0, F_E0, [], fm1⟩)] := labsOk_zero h _ _ _
theorem hC_l1_13 {C : Ctx} (h : C.n0 = 0) : LabsOk C none (some ⟨T_C1, F_C1, [(110, none)], fm2⟩) [(1, ⟨T_C1, F_C1, [(110, none)], fm2⟩), (0, ⟨T_E0, F_E0, [], fm1⟩)] := labsOk_zero h _ _ _
theorem hC_l1_14 {C : Ctx} (h : C.n0 = 0) : LabsOk C none (some ⟨T_A0, F_A0, [(110, some 101)], fm0⟩) [(0, ⟨T_E0, F_E0, [], fm1⟩)] := labsOk_zero h _ _ _
theorem hC_l1_15 {C : Ctx} (h : C.n0 = 0) : LabsOk C none (some ⟨T_A0, F_A0, [(110, some 101)], fm0⟩) [(0, ⟨T_E0, F_E0, [], fm1⟩)] := labsOk_zero h _ _ _
theorem hC_l1_16 {C : Ctx} (h : C.n0 = 0) : LabsOk C none (some ⟨T_B2, F_B2, [(110, none)], []⟩) [(0, ⟨T_E0, F_E0, [], fm1⟩)] := labsOk_zero h _ _ _
theorem hC_l1_17 {C : Ctx} (h : C.n0 = 0) : LabsOk C none (some ⟨T_D2, F_D2, [(110, none)], fm6⟩) [(1, ⟨T_C2, F_C2, [(110, none)], fm5⟩), (0, ⟨T_E0, F_E0, [], fm1⟩)] := labsOk_zero h _ _ _
theorem hC_l1_18 {C : Ctx} (h : C.n0 = 0) : LabsOk C none (some ⟨T_G2, F_G2, [(110, none)], fm7⟩) [(1, ⟨T_C2, F_C2, [(110, none)], fm5⟩), (0, ⟨T_E0, F_E0, [], fm1⟩)] := labsOk_zero h _ _ _
theorem hC_l1_19 {C : Ctx} (h : C.n0 = 0) : LabsOk C none (some ⟨T_G2, F_G2, [(110, none)], fm7⟩) [(1, ⟨T_C2, F_C2, [(110, none)], fm5⟩), (0, ⟨T_E0, F_E0, [], fm1⟩)] := labsOk_zero h _ _ _
theorem hC_l1_20 {C : Ctx} (h : C.n0 = 0) : LabsOk C none (some ⟨T_C2, F_C2, [(110, none)], fm5⟩) [(1, ⟨T_C2, F_C2, [(110, none)], fm5⟩), (0, ⟨T_E0, F_E0, [], fm1⟩)] := labsOk_zero h _ _ _
theorem hC_l1_21 {C : Ctx} (h : C.n0 = 0) : LabsOk C none (some ⟨T_C2, F_C2, [(110, none)], fm5⟩) [(1, ⟨T_C2, F_C2, [(110, none)], fm5⟩), (0, ⟨T_E0, F_E0, [], fm1⟩)] := labsOk_zero h _ _ _
theorem hC_l1_22 {C : Ctx} (h : C.n0 = 0) : LabsOk C none (some ⟨T_A0, F_A0, [(110, some 101)], fm0⟩) [(0, ⟨T_E0, F_E0, [], fm1⟩)] := labsOk_zero h _ _ _
theorem hC_l1_23 {C : Ctx} (h : C.n0 = 0) : LabsOk C none (some ⟨T_A0, F_A0, [(110, some 101)], fm0⟩) [(0, ⟨T_E0, F_E0, [], fm1⟩)] := labsOk_zero h _ _ _
theorem hC_l1_24 {C : Ctx} (h : C.n0 = 0) : LabsOk C none (some ⟨T_B3, F_B3, [(110, none)], []⟩) [(0, ⟨T_E0, F_E0, [], fm1⟩)] := labsOk_zero h _ _ _
theorem hC_l1_25 {C : Ctx} (h : C.n0 = 0) : LabsOk C none (some ⟨T_D3, F_D3, [(110, none)], fm9⟩) [(1, ⟨T_C3, F_C3, [(110, none)], fm8⟩), (0, ⟨T_E0, F_E0, [], fm1⟩)] := labsOk_zero h _ _ _
theorem hC_l1_26 {C : Ctx} (h : C.n0 = 0) : LabsOk C none (some ⟨T_G3, F_G3, [(110, none)], fm10⟩) [(1, ⟨T_C3, F_C3, [(110, none)], fm8⟩), (0, ⟨T_E0, F_E0, [], fm1⟩)] := labsOk_zero h _ _ _
theorem hC_l1_27 {C : Ctx} (h : C.n0 = 0) : LabsOk C none (some ⟨T_G3, F_G3, [(110, none)], fm10⟩) [(1, ⟨T_C3, F_C3, [(110, none)], fm8⟩), (0, ⟨T_E0, F_E0, [], fm1⟩)] := labsOk_zero h _ _ _
theorem hC_l1_28 {C : Ctx} (h : C.n0 = 0) : LabsOk C none (some ⟨T_C3, F_C3, [(110, none)], fm8⟩) [(1, ⟨T_C3, F_C3, [(110, none)], fm8⟩), (0, ⟨T_E0, F_E0, [], fm1⟩)] := labsOk_zero h _ _ _
theorem hC_l1_29 {C : Ctx} (h : C.n0 = 0) : LabsOk C none (some ⟨T_C3, F_C3, [(110, none)], fm8⟩) [(1, ⟨T_C3, F_C3, [(110, none)], fm8⟩), (0, ⟨T_E0, F_E0, [], fm1⟩)] := labsOk_zero h _ _ _
theorem hC_l1_30 {C : Ctx} (h : C.n0 = 0) : LabsOk C none (some ⟨T_A0, F_A0, [(110, some 101)], fm0⟩) [(0, ⟨T_E0, F_E0, [], fm1⟩)] := labsOk_zero h _ _ _
theorem hC_l1_31 {C : Ctx} (h : C.n0 = 0) : LabsOk C none (some ⟨T_A0, F_A0, [(110, some 101)], fm0⟩) [(0, ⟨T_E0, F_E0, [], fm1⟩)] := labsOk_zero h _ _ _
theorem hC_l1_32 {C : Ctx} (h : C.n0 = 0) : LabsOk C none (some ⟨T_B4, F_B4, [(110, none)], []⟩) [(0, ⟨T_E0, F_E0, [], fm1⟩)] := labsOk_zero h _ _ _
theorem hC_l1_33 {C : Ctx} (h : C.n0 = 0) : LabsOk C none (some ⟨T_D4, F_D4, [(110, none)], fm11⟩) [(1, ⟨T_C1, F_C1, [(110, none)], fm8⟩), (0, ⟨T_E0, F_E0, [], fm1⟩)] := labsOk_zero h _ _ _
theorem hC_l1_34 {C : Ctx} (h : C.n0 = 0) : LabsOk C none (some ⟨T_G1, F_G1, [(110, none)], fm10⟩) [(1, ⟨T_C1, F_C1, [(110, none)], fm8⟩), (0, ⟨T_E0, F_E0, [], fm1⟩)] := labsOk_zero h _ _ _
theorem hC_l1_35 {C : Ctx} (h : C.n0 = 0) : LabsOk C none (some ⟨T_K0, F_K0, [(110, none)], fm12⟩) [(1, ⟨T_C1, F_C1, [(110, none)], fm8⟩), (0, ⟨T_E0, F_E0, [], fm1⟩)] := labsOk_zero h _ _ _
theorem hC_l1_36 {C : Ctx} (h : C.n0 = 0) : LabsOk C none (some ⟨T_K0, F_K0, [(112, none), (110, none)], []⟩) [(2, ⟨T_L, F_L, [(110, none)], []⟩), (1, ⟨T_C1, F_C1, [(110, none)], fm8⟩), (0, ⟨T_E0, F_E0, [], fm1⟩)] := labsOk_zero h _ _ _
theorem hC_l1_37 {C : Ctx} (h : C.n0 = 0) : LabsOk C none (some ⟨T_J0, F_J0, [(112, none), (110, none)], []⟩) [(3, ⟨T_Kn0, F_Kn0, [(112, none), (110, none)], []⟩), (2, ⟨T_L, F_L, [(110, none)], []⟩), (1, ⟨T_C1, F_C1, [(110, none)], fm8⟩), (0, ⟨T_E0, F_E0, [], fm1⟩)] := labsOk_zero h _ _ _
theorem hC_l1_38 {C : Ctx} (h : C.n0 = 0) : LabsOk C none (some ⟨T_J0, F_J0, [(111, some 101), (112, none), (110, none)], []⟩) [(4, ⟨T_Kn0, F_Kn0, [(112, none), (110, none)], []⟩), (3, ⟨T_Kn0, F_Kn0, [(112, none), (110, none)], []⟩), (2, ⟨T_L, F_L, [(110, none)], []⟩), (1, ⟨T_C1, F_C1, [(110, none)], fm8⟩), (0, ⟨T_E0, F_E0, [], fm1⟩)] := labsOk_zero h _ _ _
theorem hC_l1_39 {C : Ctx} (h : C.n0 = 0) : LabsOk C none (some ⟨T_K0, F_K0, [(112, some 5), (110, none)], fm12⟩) [(2, ⟨T_L, F_L, [(110, none)], []⟩), (1, ⟨T_C1, F_C1, [(110, none)], fm8⟩), (0, ⟨T_E0, F_E0, [], fm1⟩)] := labsOk_zero h _ _ _
theorem hC_l1_40 {C : Ctx} (h : C.n0 = 0) : LabsOk C none (some ⟨T_K1, F_K1, [(112, none), (110, none)], []⟩) [(2, ⟨T_L, F_L, [(110, none)], []⟩), (1, ⟨T_C1, F_C1, [(110, none)], fm8⟩), (0, ⟨T_E0, F_E0, [], fm1⟩)] := labsOk_zero h _ _ _
theorem hC_l1_41 {C : Ctx} (h : C.n0 = 0) : LabsOk C none (some ⟨T_J1, F_J1, [(112, none), (110, none)], []⟩) [(3, ⟨T_Kn1, F_Kn1, [(112, none), (110, none)], []⟩), (2, ⟨T_L, F_L, [(110, none)], []⟩), (1, ⟨T_C1, F_C1, [(110, none)], fm8⟩), (0, ⟨T_E0, F_E0, [], fm1⟩)] := labsOk_zero h _ _ _
theorem hC_l1_42 {C : Ctx} (h : C.n0 = 0) : LabsOk C none (some ⟨T_J1, F_J1, [(111, some 101), (112, none), (110, none)], []⟩) [(4, ⟨T_Kn1, F_Kn1, [(112, none), (110, none)], []⟩), (3, ⟨T_Kn1, F_Kn1, [(112, none), (110, none)], []⟩), (2, ⟨T_L, F_L, [(110, none)], []⟩), (1, ⟨T_C1, F_C1, [(110, none)], fm8⟩), (0, ⟨T_E0, F_E0, [], fm1⟩)] := labsOk_zero h _ _ _
theorem hC_l1_43 {C : Ctx} (h : C.n0 = 0) : LabsOk C none (some ⟨T_K0, F_K0, [(112, some 5), (110, none)], fm12⟩) [(2, ⟨T_L, F_L, [(110, none)], []⟩), (1, ⟨T_C1, F_C1, [(110, none)], fm8⟩), (0, ⟨T_E0, F_E0, [], fm1⟩)] := labsOk_zero h _ _ _
theorem hC_l1_44 {C : Ctx} (h : C.n0 = 0) : LabsOk C none (some ⟨T_K2, F_K2, [(112, none), (110, none)], []⟩) [(2, ⟨T_L, F_L, [(110, none)], []⟩), (1, ⟨T_C1, F_C1, [(110, none)], fm8⟩), (0, ⟨T_E0, F_E0, [], fm1⟩)] := labsOk_zero h _ _ _
theorem hC_l1_45 {C : Ctx} (h : C.n0 = 0) : LabsOk C none (some ⟨T_J2, F_J2, [(112, none), (110, none)], []⟩) [(3, ⟨T_Kn2, F_Kn2, [(112, none), (110, none)], []⟩), (2, ⟨T_L, F_L, [(110, none)], []⟩), (1, ⟨T_C1, F_C1, [(110, none)], fm8⟩), (0, ⟨T_E0, F_E0, [], fm1⟩)] := labsOk_zero h _ _ _
theorem hC_l1_46 {C : Ctx} (h : C.n0 = 0) : LabsOk C none (some ⟨T_J2, F_J2, [(111, some 101), (112, none), (110, none)], []⟩) [(4, ⟨T_Kn2, F_Kn2, [(112, none), (110, none)], []⟩), (3, ⟨T_Kn2, F_Kn2, [(112, none), (110, none)], []⟩), (2, ⟨T_L, F_L, [(110, none)], []⟩), (1, ⟨T_C1, F_C1, [(110, none)], fm8⟩), (0, ⟨T_E0, F_E0, [], fm1⟩)] := labsOk_zero h _ _ _
theorem hC_l1_47 {C : Ctx} (h : C.n0 = 0) : LabsOk C none (some ⟨T_K0, F_K0, [(112, some 5), (110, none)], fm12⟩) [(2, ⟨T_L, F_L, [(110, none)], []⟩), (1, ⟨T_C1, F_C1, [(110, none)], fm8⟩), (0, ⟨T_E0, F_E0, [], fm1⟩)] := labsOk_zero h _ _ _
theorem hC_l1_48 {C : Ctx} (h : C.n0 = 0) : LabsOk C none (some ⟨T_K3, F_K3, [(112, none), (110, none)], []⟩) [(2, ⟨T_L, F_L, [(110, none)], []⟩), (1, ⟨T_C1, F_C1, [(110, none)], fm8⟩), (0, ⟨T_E0, F_E0, [], fm1⟩)] := labsOk_zero h _ _ _
theorem hC_l1_49 {C : Ctx} (h : C.n0 = 0) : LabsOk C none (some ⟨T_J3, F_J3, [(112, none), (110, none)], []⟩) [(3, ⟨T_Kn3, F_Kn3, [(112, none), (110, none)], []⟩), (2, ⟨T_L, F_L, [(110, none)], []⟩), (1, ⟨T_C1, F_C1, [(110, none)], fm8⟩), (0, ⟨T_E0, F_E0, [], fm1⟩)] := labsOk_zero h _ _ _
theorem hC_l1_50 {C : Ctx} (h : C.n0 = 0) : LabsOk C none (some ⟨T_J3, F_J3, [(111, some 101), (112, none), (110, none)], []⟩) [(4, ⟨T_Kn3, F_Kn3, [(112, none), (110, none)], []⟩), (3, ⟨T_Kn3, F_Kn3, [(112, none), (110, none)], []⟩), (2, ⟨T_L, F_L, [(110, none)], []⟩), (1, ⟨T_C1, F_C1, [(110, none)], fm8⟩), (0, ⟨T_E0, F_E0, [], fm1⟩)] := labsOk_zero h _ _ _
theorem hC_l1_51 {C : Ctx} (h : C.n0 = 0) : LabsOk C none (some ⟨T_K0, F_K0, [(112, some 5), (110, none)], fm12⟩) [(2, ⟨T_L, F_L, [(110, none)], []⟩), (1, ⟨T_C1, F_C1, [(110, none)], fm8⟩), (0, ⟨T_E0, F_E0, [], fm1⟩)] := labsOk_zero h _ _ _
theorem hC_l1_52 {C : Ctx} (h : C.n0 = 0) : LabsOk C none (some ⟨T_K0, F_K0, [(112, some 5), (110, none)], fm12⟩) [(2, ⟨T_L, F_L, [(110, none)], []⟩), (1, ⟨T_C1, F_C1, [(110, none)], fm8⟩), (0, ⟨T_E0, F_E0, [], fm1⟩)] := labsOk_zero h _ _ _
theorem hC_l1_53 {C : Ctx} (h : C.n0 = 0) : LabsOk C none (some ⟨T_G1, F_G1, [(110, none)], fm10⟩) [(1, ⟨T_C1, F_C1, [(110, none)], fm8⟩), (0, ⟨T_E0, F_E0, [], fm1⟩)] := labsOk_zero h _ _ _
theorem hC_l1_54 {C : Ctx} (h : C.n0 = 0) : LabsOk C none (some ⟨T_C1, F_C1, [(110, none)], fm8⟩) [(1, ⟨T_C1, F_C1, [(110, none)], fm8⟩), (0, ⟨T_E0, F_E0, [], fm1⟩)] := labsOk_zero h _ _ _
theorem hC_l1_55 {C : Ctx} (h : C.n0 = 0) : LabsOk C none (some ⟨T_C1, F_C1, [(110, none)], fm8⟩) [(1, ⟨T_C1, F_C1, [(110, none)], fm8⟩), (0, ⟨T_E0, F_E0, [], fm1⟩)] := labsOk_zero h _ _ _
theorem hC_l1_56 {C : Ctx} (h : C.n0 = 0) : LabsOk C none (some ⟨T_A0, F_A0, [(110, some 101)], fm0⟩) [(0, ⟨T_E0, F_E0, [], fm1⟩)] := labsOk_zero h _ _ _
theorem hC_l1_57 {C : Ctx} (h : C.n0 = 0) : LabsOk C none (some ⟨T_A0, F_A0, [(110, some 101)], fm0⟩) [(0, ⟨T_E0, F_E0, [], fm1⟩)] := labsOk_zero h _ _ _
theorem hC_l1_58 {C : Ctx} (h : C.n0 = 0) : LabsOk C none (some ⟨T_M00, F_M00, [], fm13⟩) [] := labsOk_zero h _ _ _
theorem hC_l1_59 {C : Ctx} (h : C.n0 = 0) : LabsOk C none (some ⟨T_M00, F_M00, [], fm13⟩) [] := labsOk_zero h _ _ _
theorem hC_l1_60 {C : Ctx} (h : C.n0 = 0) : LabsOk C none (some ⟨T_M00, F_M00, [], fm13⟩) [] := labsOk_zero h _ _ _
theorem hC_l1_61 {C : Ctx} (h : C.n0 = 0) : LabsOk C none (some ⟨T_M00, F_M00, [], fm13⟩) [] := labsOk_zero h _ _ _
theorem hC_l1_62 {C : Ctx} (h : C.n0 = 0) : LabsOk C none (some ⟨T_M00, F_M00, [], fm13⟩) [] := labsOk_zero h _ _ _
theorem hC_l1_63 {C : Ctx} (h : C.n0 = 0) : LabsOk C none (some ⟨T_M00, F_M00, [(112, none)], []⟩) [(6, ⟨T_Q, F_Q, [], []⟩)] := labsOk_zero h _ _ _
theorem hC_l1_64 {C : Ctx} (h : C.n0 = 0) : LabsOk C none (some ⟨T_N00, F_N00, [(112, none)], []⟩) [(7, ⟨T_N00, F_N00, [(112, none)], []⟩), (6, ⟨T_Q, F_Q, [], []⟩)] := labsOk_zero h _ _ _
theorem hC_l1_65 {C : Ctx} (h : C.n0 = 0) : LabsOk C none (some ⟨T_M00, F_M00, [(112, some 5)], fm13⟩) [(6, ⟨T_Q, F_Q, [], []⟩)] := labsOk_zero h _ _ _
theorem hC_l1_66 {C : Ctx} (h : C.n0 = 0) : LabsOk C none (some ⟨T_M01, F_M01, [(112, none)], []⟩) [(6, ⟨T_Q, F_Q, [], []⟩)] := labsOk_zero h _ _ _
theorem hC_l1_67 {C : Ctx} (h : C.n0 = 0) : LabsOk C none (some ⟨T_I01, F_I01, [(112, none)], []⟩) [(7, ⟨T_N01, F_N01, [(112, none)], []⟩), (6, ⟨T_Q, F_Q, [], []⟩)] := labsOk_zero h _ _ _
theorem hC_l1_68 {C : Ctx} (h : C.n0 = 0) : LabsOk C none (some ⟨T_I01, F_I01, [(111, some 101), (112, none)], []⟩) [(8, ⟨T_N01, F_N01, [(112, none)], []⟩), (7, ⟨T_N01, F_N01, [(112, none)], []⟩), (6, ⟨T_Q, F_Q, [], []⟩)] := labsOk_zero h _ _ _
theorem hC_l1_69 {C : Ctx} (h : C.n0 = 0) : LabsOk C none (some ⟨T_M00, F_M00, [(112, some 5)], fm13⟩) [(6, ⟨T_Q, F_Q, [], []⟩)] := labsOk_zero h _ _ _
theorem hC_l1_70 {C : Ctx} (h : C.n0 = 0) : LabsOk C none (some ⟨T_M02, F_M02, [(112, none)], []⟩) [(6, ⟨T_Q, F_Q, [], []⟩)] := labsOk_zero h _ _ _
theorem hC_l1_71 {C : Ctx} (h : C.n0 = 0) : LabsOk C none (some ⟨T_I02, F_I02, [(112, none)], []⟩) [(7, ⟨T_N02, F_N02, [(112, none)], []⟩), (6, ⟨T_Q, F_Q, [], []⟩)] := labsOk_zero h _ _ _
theorem hC_l1_72 {C : Ctx} (h : C.n0 = 0) : LabsOk C none (some ⟨T_I02, F_I02, [(111, some 101), (112, none)], []⟩) [(8, ⟨T_N02, F_N02, [(112, none)], []⟩), (7, ⟨T_N02, F_N02, [(112, none)], []⟩), (6, ⟨T_Q, F_Q, [], []⟩)] := labsOk_zero h _ _ _
theorem hC_l1_73 {C : Ctx} (h : C.n0 = 0) : LabsOk C none (some ⟨T_M00, F_M00, [(112, some 5)], fm13⟩) [(6, ⟨T_Q, F_Q, [], []⟩)] := labsOk_zero h _ _ _
theorem hC_l1_74 {C : Ctx} (h : C.n0 = 0) : LabsOk C none (some ⟨T_M03, F_M03, [(112, none)], []⟩) [(6, ⟨T_Q, F_Q, [], []⟩)] := labsOk_zero h _ _ _
theorem hC_l1_75 {C : Ctx} (h : C.n0 = 0) : LabsOk C none (some ⟨T_I03, F_I03, [(112, none)], []⟩) [(7, ⟨T_N03, F_N03, [(112, none)], []⟩), (6, ⟨T_Q, F_Q, [], []⟩)] := labsOk_zero h _ _ _
theorem hC_l1_76 {C : Ctx} (h : C.n0 = 0) : LabsOk C none (some ⟨T_I03, F_I03, [(111, some 101), (112, none)], []⟩) [(8, ⟨T_N03, F_N03, [(112, none)], []⟩), (7, ⟨T_N03, F_N03, [(112, none)], []⟩), (6, ⟨T_Q, F_Q, [], []⟩)] := labsOk_zero h _ _ _
theorem hC_l1_77 {C : Ctx} (h : C.n0 = 0) : LabsOk C none (some ⟨T_M00, F_M00, [(112, some 5)], fm13⟩) [(6, ⟨T_Q, F_Q, [], []⟩)] := labsOk_zero h _ _ _
theorem hC_l1_78 {C : Ctx} (h : C.n0 = 0) : LabsOk C none (some ⟨T_M04, F_M04, [(112, none)], []⟩) [(6, ⟨T_Q, F_Q, [], []⟩)] := labsOk_zero h _ _ _
theorem hC_l1_79 {C : Ctx} (h : C.n0 = 0) : LabsOk C none (some ⟨T_I04, F_I04, [(112, none)], []⟩) [(7, ⟨T_N04, F_N04, [(112, none)], []⟩), (6, ⟨T_Q, F_Q, [], []⟩)] := labsOk_zero h _ _ _
theorem hC_l1_80 {C : Ctx} (h : C.n0 = 0) : LabsOk C none (some ⟨T_I04, F_I04, [(111, some 101), (112, none)], []⟩) [(8, ⟨T_N04, F_N04, [(112, none)], []⟩), (7, ⟨T_N04, F_N04, [(112, none)], []⟩), (6, ⟨T_Q, F_Q, [], []⟩)] := labsOk_zero h _ _ _
theorem hC_l1_81 {C : Ctx} (h : C.n0 = 0) : LabsOk C none (some ⟨T_M00, F_M00, [(112, some 5)], fm13⟩) [(6, ⟨T_Q, F_Q, [], []⟩)] := labsOk_zero h _ _ _
theorem hC_l1_82 {C : Ctx} (h : C.n0 = 0) : LabsOk C none (some ⟨T_M10, F_M10, [(112, none)], []⟩) [(6, ⟨T_Q, F_Q, [], []⟩)] := labsOk_zero h _ _ _
theorem hC_l1_83 {C : Ctx} (h : C.n0 = 0) : LabsOk C none (some ⟨T_N10, F_N10, [(112, none)], []⟩) [(7, ⟨T_N10, F_N10, [(112, none)], []⟩), (6, ⟨T_Q, F_Q, [], []⟩)] := labsOk_zero h _ _ _
theorem hC_l1_84 {C : Ctx} (h : C.n0 = 0) : LabsOk C none (some ⟨T_M00, F_M00, [(112, some 5)], fm13⟩) [(6, ⟨T_Q, F_Q, [], []⟩)] := labsOk_zero h _ _ _
theorem hC_l1_85 {C : Ctx} (h : C.n0 = 0) : LabsOk C none (some ⟨T_M11, F_M11, [(112, none)], []⟩) [(6, ⟨T_Q, F_Q, [], []⟩)] := labsOk_zero h _ _ _
theorem hC_l1_86 {C : Ctx} (h : C.n0 = 0) : LabsOk C none (some ⟨T_I11, F_I11, [(112, none)], []⟩) [(7, ⟨T_N11, F_N11, [(112, none)], []⟩), (6, ⟨T_Q, F_Q, [], []⟩)] := labsOk_zero h _ _ _
theorem hC_l1_87 {C : Ctx} (h : C.n0 = 0) : LabsOk C none (some ⟨T_I11, F_I11, [(111, some 101), (112, none)], []⟩) [(8, ⟨T_N11, F_N11, [(112, none)], []⟩), (7, ⟨T_N11, F_N11, [(112, none)], []⟩), (6, ⟨T_Q, F_Q, [], []⟩)] := labsOk_zero h _ _ _
theorem hC_l1_88 {C : Ctx} (h : C.n0 = 0) : LabsOk C none (some ⟨T_M00, F_M00, [(112, some 5)], fm13⟩) [(6, ⟨T_Q, F_Q, [], []⟩)] := labsOk_zero h _ _ _
theorem hC_l1_89 {C : Ctx} (h : C.n0 = 0) : LabsOk C none (some ⟨T_M12, F_M12, [(112, none)], []⟩) [(6, ⟨T_Q, F_Q, [], []⟩)] := labsOk_zero h _ _ _
theorem hC_l1_90 {C : Ctx} (h : C.n0 = 0) : LabsOk C none (some ⟨T_I12, F_I12, [(112, none)], []⟩) [(7, ⟨T_N12, F_N12, [(112, none)], []⟩), (6, ⟨T_Q, F_Q, [], []⟩)] := labsOk_zero h _ _ _
theorem hC_l1_91 {C : Ctx} (h : C.n0 = 0) : LabsOk C none (some ⟨T_I12, F_I12, [(111, some 101), (112, none)], []⟩) [(8, ⟨T_N12, F_N12, [(112, none)], []⟩), (7, ⟨T_N12, F_N12, [(112, none)], []⟩), (6, ⟨T_Q, F_Q, [], []⟩)] := labsOk_zero h _ _ _
theorem hC_l1_92 {C : Ctx} (h : C.n0 = 0) : LabsOk C none (some ⟨T_M00, F_M00, [(112, some 5)], fm13⟩) [(6, ⟨T_Q, F_Q, [], []⟩)] := labsOk_zero h _ _ _
theorem hC_l1_93 {C : Ctx} (h : C.n0 = 0) : LabsOk C none (some ⟨T_M13, F_M13, [(112, none)], []⟩) [(6, ⟨T_Q, F_Q, [], []⟩)] := labsOk_zero h _ _ _
theorem hC_l1_94 {C : Ctx} (h : C.n0 = 0) : LabsOk C none (some ⟨T_I13, F_I13, [(112, none)], []⟩) [(7, ⟨T_N13, F_N13, [(112, none)], []⟩), (6, ⟨T_Q, F_Q, [], []⟩)] := labsOk_zero h _ _ _
theorem hC_l1_95 {C : Ctx} (h : C.n0 = 0) : LabsOk C none (some ⟨T_I13, F_I13, [(111, some 101), (112, none)], []⟩) [(8, ⟨T_N13, F_N13, [(112, none)], []⟩), (7, ⟨T_N13, F_N13, [(112, none)], []⟩), (6, ⟨T_Q, F_Q, [], []⟩)] := labsOk_zero h _ _ _
theorem hC_l1_96 {C : Ctx} (h : C.n0 = 0) : LabsOk C none (some ⟨T_M00, F_M00, [(112, some 5)], fm13⟩) [(6, ⟨T_Q, F_Q, [], []⟩)] := labsOk_zero h _ _ _
theorem hC_l1_97 {C : Ctx} (h : C.n0 = 0) : LabsOk C none (some ⟨T_M20, F_M20, [(112, none)], []⟩) [(6, ⟨T_Q, F_Q, [], []⟩)] := labsOk_zero h _ _ _
theorem hC_l1_98 {C : Ctx} (h : C.n0 = 0) : LabsOk C none (some ⟨T_N20, F_N20, [(112, none)], []⟩) [(7, ⟨T_N20, F_N20, [(112, none)], []⟩), (6, ⟨T_Q, F_Q, [], []⟩)] := labsOk_zero h _ _ _
theorem hC_l1_99 {C : Ctx} (h : C.n0 = 0) : LabsOk C none (some ⟨T_M00, F_M00, [(112, some 5)], fm13⟩) [(6, ⟨T_Q, F_Q, [], []⟩)] := labsOk_zero h _ _ _
theorem hC_l1_100 {C : Ctx} (h : C.n0 = 0) : LabsOk C none (some ⟨T_M21, F_M21, [(112, none)], []⟩) [(6, ⟨T_Q, F_Q, [], []⟩)] := labsOk_zero h _ _ _
theorem hC_l1_101 {C : Ctx} (h : C.n0 = 0) : LabsOk C none (some ⟨T_I21, F_I21, [(112, none)], []⟩) [(7, ⟨T_N21, F_N21, [(112, none)], []⟩), (6, ⟨T_Q, F_Q, [], []⟩)] := labsOk_zero h _ _ _
theorem hC_l1_102 {C : Ctx} (h : C.n0 = 0) : LabsOk C none (some ⟨T_I21, F_I21, [(111, some 101), (112, none)], []⟩) [(8, ⟨T_N21, F_N21, [(112, none)], []⟩), (7, ⟨T_N21, F_N21, [(112, none)], []⟩), (6, ⟨T_Q, F_Q, [], []⟩)] := labsOk_zero h _ _ _
theorem hC_l1_103 {C : Ctx} (h : C.n0 = 0) : LabsOk C none (some ⟨T_M00, F_M00, [(112, some 5)], fm13⟩) [(6, ⟨T_Q, F_Q, [], []⟩)] := labsOk_zero h _ _ _
theorem hC_l1_104 {C : Ctx} (h : C.n0 = 0) : LabsOk C none (some ⟨T_M22, F_M22, [(112, none)], []⟩) [(6, ⟨T_Q, F_Q, [], []⟩)] := labsOk_zero h _ _ _
theorem hC_l1_105 {C : Ctx} (h : C.n0 = 0) : LabsOk C none (some ⟨T_I22, F_I22, [(112, none)], []⟩) [(7, ⟨T_N22, F_N22, [(112, none)], []⟩), (6, ⟨T_Q, F_Q, [], []⟩)] := labsOk_zero h _ _ _
theorem hC_l1_106 {C : Ctx} (h : C.n0 = 0) : LabsOk C none (some ⟨T_I22, F_I22, [(111, some 101), (112, none)], []⟩) [(8, ⟨T_N22, F_N22, [(112, none)], []⟩), (7, ⟨T_N22, F_N22, [(112, none)], []⟩), (6, ⟨T_Q, F_Q, [], []⟩)] := labsOk_zero h _ _ _
theorem hC_l1_107 {C : Ctx} (h : C.n0 = 0) : LabsOk C none (some ⟨T_M00, F_M00, [(112, some 5)], fm13⟩) [(6, ⟨T_Q, F_Q, [], []⟩)] := labsOk_zero h _ _ _
theorem hC_l1_108 {C : Ctx} (h : C.n0 = 0) : LabsOk C none (some ⟨T_M30, F_M30, [(112, none)], []⟩) [(6, ⟨T_Q, F_Q, [], []⟩)] := labsOk_zero h _ _ _
theorem hC_l1_109 {C : Ctx} (h : C.n0 = 0) : LabsOk C none (some ⟨T_N30, F_N30, [(112, none)], []⟩) [(7, ⟨T_N30, F_N30, [(112, none)], []⟩), (6, ⟨T_Q, F_Q, [], []⟩)] := labsOk_zero h _ _ _
theorem hC_l1_110 {C : Ctx} (h : C.n0 = 0) : LabsOk C none (some ⟨T_M00, F_M00, [(112, some 5)], fm13⟩) [(6, ⟨T_Q, F_Q, [], []⟩)] := labsOk_zero h _ _ _
theorem hC_l1_111 {C : Ctx} (h : C.n0 = 0) : LabsOk C none (some ⟨T_M31, F_M31, [(112, none)], []⟩) [(6, ⟨T_Q, F_Q, [], []⟩)] := labsOk_zero h _ _ _
theorem hC_l1_112 {C : Ctx} (h : C.n0 = 0) : LabsOk C none (some ⟨T_I31, F_I31, [(112, none)], []⟩) [(7, ⟨T_N31, F_N31, [(112, none)], []⟩), (6, ⟨T_Q, F_Q, [], []⟩)] := labsOk_zero h _ _ _
theorem hC_l1_113 {C : Ctx} (h : C.n0 = 0) : LabsOk C none (some ⟨T_I31, F_I31, [(111, some 101), (112, none)], []⟩) [(8, ⟨T_N31, F_N31, [(112, none)], []⟩), (7, ⟨T_N31, F_N31, [(112, none)], []⟩), (6, ⟨T_Q, F_Q, [], []⟩)] := labsOk_zero h _ _ _
theorem hC_l1_114 {C : Ctx} (h : C.n0 = 0) : LabsOk C none (some ⟨T_M00, F_M00, [(112, some 5)], fm13⟩) [(6, ⟨T_Q, F_Q, [], []⟩)] := labsOk_zero h _ _ _
theorem hC_l1_115 {C : Ctx} (h : C.n0 = 0) : LabsOk C none (some ⟨T_M00, F_M00, [(112, some 5)], fm13⟩) [(6, ⟨T_Q, F_Q, [], []⟩)] := labsOk_zero h _ _ _
theorem hC_l1_116 {C : Ctx} (h : C.n0 = 0) : LabsOk C none (some ⟨T_R, F_R, [], []⟩) [] := labsOk_zero h _ _ _
theorem hC_l1_117 {C : Ctx} (h : C.n0 = 0) : LabsOk C none (some ⟨T_R, F_R, [(113, some 101)], []⟩) [(10, ⟨T_S, F_S, [], []⟩)] := labsOk_zero h _ _ _
theorem hC_l1_118 {C : Ctx} (h : C.n0 = 0) : LabsOk C none none [] := labsOk_zero h _ _ _
theorem fit_awake : ct_awake.fit = true := by kernel_rfl
theorem c_awake_ct : ∀ ρ, CallOk Try.prog ρ (ctOf []) := ctOf_ok (fun _ h => absurd h List.not_mem_nil)
theorem ok_awake : ct_awake.ok Try.prog :=
  Ctr.ok_of (x := ⟨(TI.of Try.prog), (fnOf Try.prog), ⟨[], ctOf []⟩, 400, Try.f8, (some ct_awake.R)⟩) (body := bodyOf Try.f8) (by kernel_rfl) (by kernel_rfl) rfl (by kernel_rfl) (fun C hC => (From.run mixed (tysOf _) fnOk c_awake_ct (hC_c_awake_0 hC) good_c_awake_0 lem_c_awake_0_ok))
theorem l0_ct : ∀ ρ, CallOk Try.prog ρ (ctOf [ct_awake]) := ctOf_ok (by
  simp only [List.forall_mem_cons]
  exact ⟨⟨fit_awake, ok_awake⟩, fun _ h => absurd h List.not_mem_nil⟩)
theorem hsym0 : symArgsT Try.prog Try.f4.params.toList 0 0 [true] = some (xs0, hs0, facts0, 2, 1) := by kernel_rfl
theorem run0 {C : Ctx} (hC : C.n0 = 0) : From Try.prog rnL C st0 facts0 cd0 none [] :=
  (From.run mixed (tysOf _) fnOk l0_ct (hC_l0_1 hC) good_l0_1 lem_l0_1_ok)
theorem l1_ct : ∀ ρ, CallOk Try.prog ρ (ctOf [ct_awake]) := ctOf_ok (by
  simp only [List.forall_mem_cons]
  exact ⟨⟨fit_awake, ok_awake⟩, fun _ h => absurd h List.not_mem_nil⟩)
theorem hsym1 : symArgsT Try.prog Try.f4.params.toList 0 0 [false] = some (xs1, hs1, facts1, 2, 1) := by kernel_rfl
theorem run1 {C : Ctx} (hC : C.n0 = 0) : From Try.prog rnL C st1 facts1 cd0 none [] :=
  (From.cutI (i := 7) hl54 (From.run mixed (tysOf _) fnOk l1_ct (hC_l1_2 hC) good_l1_2 lem_l1_2_ok) (From.loop (c := 110) (B := 101) (cs := []) (g := ⟨T_A0, F_A0, [(110, some 101)], fm0⟩) (g0 := ⟨T_A0, F_A0, [], fm0⟩) rfl rfl (AllF.cons (From.cutI (i := 2) hl2 (From.run mixed (tysOf _) fnOk l1_ct (hC_l1_3 hC) good_l1_3 lem_l1_3_ok) (AllF.one (From.block (From.cutI (i := 2) hl1 (From.run mixed (tysOf _) fnOk l1_ct (hC_l1_4 hC) good_l1_4 lem_l1_4_ok) (AllF.one (From.condF cs0 (fun _ => by simp [E.den]) (From.run mixed (tysOf _) fnOk l1_ct (hC_l1_5 hC) good_l1_5 lem_l1_5_ok))) (AllF.one (From.run mixed (tysOf _) fnOk l1_ct (hC_l1_6 hC) good_l1_6 lem_l1_6_ok)) (c := [110]) rfl rfl (by intro g' h; cases h; simp) (by intro i g' h; simp only [tgtOf] at h; (repeat' split at h) <;> first | (cases h; done) | (cases h; simp))))) (AllF.one (From.run mixed (tysOf _) fnOk l1_ct (hC_l1_7 hC) good_l1_7 lem_l1_7_ok)) (c := [110]) rfl rfl (by intro g' h; cases h; simp) (by intro i g' h; simp only [tgtOf] at h; (repeat' split at h) <;> first | (cases h; done) | (cases h; simp))) (AllF.cons (From.cutI (i := 2) hl6 (From.run mixed (tysOf _) fnOk l1_ct (hC_l1_8 hC) good_l1_8 lem_l1_8_ok) (AllF.one (From.block (From.cutI (i := 2) hl5 (From.run mixed (tysOf _) fnOk l1_ct (hC_l1_9 hC) good_l1_9 lem_l1_9_ok) (AllF.cons (From.condF cs3 (fun _ => by simp [E.den]) (From.run mixed (tysOf _) fnOk l1_ct (hC_l1_10 hC) good_l1_10 lem_l1_10_ok)) (AllF.one (From.condF cs4 (fun _ => by simp [E.den]) (From.run mixed (tysOf _) fnOk l1_ct (hC_l1_11 hC) good_l1_11 lem_l1_11_ok)))) (AllF.cons (From.run mixed (tysOf _) fnOk l1_ct (hC_l1_12 hC) good_l1_12 lem_l1_12_ok) (AllF.one (From.run mixed (tysOf _) fnOk l1_ct (hC_l1_13 hC) good_l1_13 lem_l1_13_ok))) (c := [110]) rfl rfl (by intro g' h; cases h; simp) (by intro i g' h; simp only [tgtOf] at h; (repeat' split at h) <;> first | (cases h; done) | (cases h; simp))))) (AllF.cons (From.run mixed (tysOf _) fnOk l1_ct (hC_l1_14 hC) good_l1_14 lem_l1_14_ok) (AllF.one (From.run mixed (tysOf _) fnOk l1_ct (hC_l1_15 hC) good_l1_15 lem_l1_15_ok))) (c := [110]) rfl rfl (by intro g' h; cases h; simp) (by intro i g' h; simp only [tgtOf] at h; (repeat' split at h) <;> first | (cases h; done) | (cases h; simp))) (AllF.cons (From.cutI (i := 2) hl10 (From.run mixed (tysOf _) fnOk l1_ct (hC_l1_16 hC) good_l1_16 lem_l1_16_ok) (AllF.one (From.block (From.cutI (i := 2) hl9 (From.run mixed (tysOf _) fnOk l1_ct (hC_l1_17 hC) good_l1_17 lem_l1_17_ok) (AllF.cons (From.condF cs7 (fun _ => by simp [E.den]) (From.run mixed (tysOf _) fnOk l1_ct (hC_l1_18 hC) good_l1_18 lem_l1_18_ok)) (AllF.one (From.condF cs8 (fun _ => by simp [E.den]) (From.run mixed (tysOf _) fnOk l1_ct (hC_l1_19 hC) good_l1_19 lem_l1_19_ok)))) (AllF.cons (From.run mixed (tysOf _) fnOk l1_ct (hC_l1_20 hC) good_l1_20 lem_l1_20_ok) (AllF.one (From.run mixed (tysOf _) fnOk l1_ct (hC_l1_21 hC) good_l1_21 lem_l1_21_ok))) (c := [110]) rfl rfl (by intro g' h; cases h; simp) (by intro i g' h; simp only [tgtOf] at h; (repeat' split at h) <;> first | (cases h; done) | (cases h; simp))))) (AllF.cons (From.run mixed (tysOf _) fnOk l1_ct (hC_l1_22 hC) good_l1_22 lem_l1_22_ok) (AllF.one (From.run mixed (tysOf _) fnOk l1_ct (hC_l1_23 hC) good_l1_23 lem_l1_23_ok))) (c := [110]) rfl rfl (by intro g' h; cases h; simp) (by intro i g' h; simp only [tgtOf] at h; (repeat' split at h) <;> first | (cases h; done) | (cases h; simp))) (AllF.cons (From.cutI (i := 2) hl14 (From.run mixed (tysOf _) fnOk l1_ct (hC_l1_24 hC) good_l1_24 lem_l1_24_ok) (AllF.one (From.block (From.cutI (i := 2) hl13 (From.run mixed (tysOf _) fnOk l1_ct (hC_l1_25 hC) good_l1_25 lem_l1_25_ok) (AllF.cons (From.condF cs11 (fun _ => by simp [E.den]) (From.run mixed (tysOf _) fnOk l1_ct (hC_l1_26 hC) good_l1_26 lem_l1_26_ok)) (AllF.one (From.condF cs12 (fun _ => by simp [E.den]) (From.run mixed (tysOf _) fnOk l1_ct (hC_l1_27 hC) good_l1_27 lem_l1_27_ok)))) (AllF.cons (From.run mixed (tysOf _) fnOk l1_ct (hC_l1_28 hC) good_l1_28 lem_l1_28_ok) (AllF.one (From.run mixed (tysOf _) fnOk l1_ct (hC_l1_29 hC) good_l1_29 lem_l1_29_ok))) (c := [110]) rfl rfl (by intro g' h; cases h; simp) (by intro i g' h; simp only [tgtOf] at h; (repeat' split at h) <;> first | (cases h; done) | (cases h; simp))))) (AllF.cons (From.run mixed (tysOf _) fnOk l1_ct (hC_l1_30 hC) good_l1_30 lem_l1_30_ok) (AllF.one (From.run mixed (tysOf _) fnOk l1_ct (hC_l1_31 hC) good_l1_31 lem_l1_31_ok))) (c := [110]) rfl rfl (by intro g' h; cases h; simp) (by intro i g' h; simp only [tgtOf] at h; (repeat' split at h) <;> first | (cases h; done) | (cases h; simp))) (AllF.one (From.cutI (i := 2) hl27 (From.run mixed (tysOf _) fnOk l1_ct (hC_l1_32 hC) good_l1_32 lem_l1_32_ok) (AllF.one (From.block (From.cutI (i := 2) hl26 (From.run mixed (tysOf _) fnOk l1_ct (hC_l1_33 hC) good_l1_33 lem_l1_33_ok) (AllF.cons (From.condF cs15 (fun _ => by simp [E.den]) (From.run mixed (tysOf _) fnOk l1_ct (hC_l1_34 hC) good_l1_34 lem_l1_34_ok)) (AllF.one (From.condT cs16 (fun _ => by simp [E.den]) (From.cutI (i := 1) hl25 (From.run mixed (tysOf _) fnOk l1_ct (hC_l1_35 hC) good_l1_35 lem_l1_35_ok) (From.loop (c := 112) (B := 5) (cs := [110]) (g := ⟨T_K0, F_K0, [(112, some 5), (110, none)], fm12⟩) (g0 := ⟨T_K0, F_K0, [(110, none)], fm12⟩) rfl rfl (AllF.cons (From.cutI (i := 2) hl18 (From.run mixed (tysOf _) fnOk l1_ct (hC_l1_36 hC) good_l1_36 lem_l1_36_ok) (AllF.one (From.block (From.cutL (i := 4) hl17 (From.run mixed (tysOf _) fnOk l1_ct (hC_l1_37 hC) good_l1_37 lem_l1_37_ok) (From.loop (c := 111) (B := 101) (cs := [112, 110]) (g := ⟨T_J0, F_J0, [(111, some 101), (112, none), (110, none)], []⟩) (g0 := ⟨T_J0, F_J0, [(112, none), (110, none)], []⟩) rfl rfl (AllF.one (From.run mixed (tysOf _) fnOk l1_ct (hC_l1_38 hC) good_l1_38 lem_l1_38_ok)) (by simp) (by intro i g' h; simp only [tgtOf] at h; (repeat' split at h) <;> first | (cases h; done) | (cases h; simp))) (c := [112, 110]) rfl (by intro g' h; cases h; simp) (by intro i g' h; simp only [tgtOf] at h; (repeat' split at h) <;> first | (cases h; done) | (cases h; simp))))) (AllF.one (From.run mixed (tysOf _) fnOk l1_ct (hC_l1_39 hC) good_l1_39 lem_l1_39_ok)) (c := [112, 110]) rfl rfl (by intro g' h; cases h; simp) (by intro i g' h; simp only [tgtOf] at h; (repeat' split at h) <;> first | (cases h; done) | (cases h; simp))) (AllF.cons (From.cutI (i := 2) hl20 (From.run mixed (tysOf _) fnOk l1_ct (hC_l1_40 hC) good_l1_40 lem_l1_40_ok) (AllF.one (From.block (From.cutL (i := 4) hl19 (From.run mixed (tysOf _) fnOk l1_ct (hC_l1_41 hC) good_l1_41 lem_l1_41_ok) (From.loop (c := 111) (B := 101) (cs := [112, 110]) (g := ⟨T_J1, F_J1, [(111, some 101), (112, none), (110, none)], []⟩) (g0 := ⟨T_J1, F_J1, [(112, none), (110, none)], []⟩) rfl rfl (AllF.one (From.run mixed (tysOf _) fnOk l1_ct (hC_l1_42 hC) good_l1_42 lem_l1_42_ok)) (by simp) (by intro i g' h; simp only [tgtOf] at h; (repeat' split at h) <;> first | (cases h; done) | (cases h; simp))) (c := [112, 110]) rfl (by intro g' h; cases h; simp) (by intro i g' h; simp only [tgtOf] at h; (repeat' split at h) <;> first | (cases h; done) | (cases h; simp))))) (AllF.one (From.run mixed (tysOf _) fnOk l1_ct (hC_l1_43 hC) good_l1_43 lem_l1_43_ok)) (c := [112, 110]) rfl rfl (by intro g' h; cases h; simp) (by intro i g' h; simp only [tgtOf] at h; (repeat' split at h) <;> first | (cases h; done) | (cases h; simp))) (AllF.cons (From.cutI (i := 2) hl22 (From.run mixed (tysOf _) fnOk l1_ct (hC_l1_44 hC) good_l1_44 lem_l1_44_ok) (AllF.one (From.block (From.cutL (i := 4) hl21 (From.run mixed (tysOf _) fnOk l1_ct (hC_l1_45 hC) good_l1_45 lem_l1_45_ok) (From.loop (c := 111) (B := 101) (cs := [112, 110]) (g := ⟨T_J2, F_J2, [(111, some 101), (112, none), (110, none)], []⟩) (g0 := ⟨T_J2, F_J2, [(112, none), (110, none)], []⟩) rfl rfl (AllF.one (From.run mixed (tysOf _) fnOk l1_ct (hC_l1_46 hC) good_l1_46 lem_l1_46_ok)) (by simp) (by intro i g' h; simp only [tgtOf] at h; (repeat' split at h) <;> first | (cases h; done) | (cases h; simp))) (c := [112, 110]) rfl (by intro g' h; cases h; simp) (by intro i g' h; simp only [tgtOf] at h; (repeat' split at h) <;> first | (cases h; done) | (cases h; simp))))) (AllF.one (From.run mixed (tysOf _) fnOk l1_ct (hC_l1_47 hC) good_l1_47 lem_l1_47_ok)) (c := [112, 110]) rfl rfl (by intro g' h; cases h; simp) (by intro i g' h; simp only [tgtOf] at h; (repeat' split at h) <;> first | (cases h; done) | (cases h; simp))) (AllF.cons (From.cutI (i := 2) hl24 (From.run mixed (tysOf _) fnOk l1_ct (hC_l1_48 hC) good_l1_48 lem_l1_48_ok) (AllF.one (From.block (From.cutL (i := 4) hl23 (From.run mixed (tysOf _) fnOk l1_ct (hC_l1_49 hC) good_l1_49 lem_l1_49_ok) (From.loop (c := 111) (B := 101) (cs := [112, 110]) (g := ⟨T_J3, F_J3, [(111, some 101), (112, none), (110, none)], []⟩) (g0 := ⟨T_J3, F_J3, [(112, none), (110, none)], []⟩) rfl rfl (AllF.one (From.run mixed (tysOf _) fnOk l1_ct (hC_l1_50 hC) good_l1_50 lem_l1_50_ok)) (by simp) (by intro i g' h; simp only [tgtOf] at h; (repeat' split at h) <;> first | (cases h; done) | (cases h; simp))) (c := [112, 110]) rfl (by intro g' h; cases h; simp) (by intro i g' h; simp only [tgtOf] at h; (repeat' split at h) <;> first | (cases h; done) | (cases h; simp))))) (AllF.one (From.run mixed (tysOf _) fnOk l1_ct (hC_l1_51 hC) good_l1_51 lem_l1_51_ok)) (c := [112, 110]) rfl rfl (by intro g' h; cases h; simp) (by intro i g' h; simp only [tgtOf] at h; (repeat' split at h) <;> first | (cases h; done) | (cases h; simp))) (AllF.one (From.run mixed (tysOf _) fnOk l1_ct (hC_l1_52 hC) good_l1_52 lem_l1_52_ok)))))) (by simp) (by intro i g' h; simp only [tgtOf] at h; (repeat' split at h) <;> first | (cases h; done) | (cases h; simp))) (AllF.one (From.run mixed (tysOf _) fnOk l1_ct (hC_l1_53 hC) good_l1_53 lem_l1_53_ok)) (c := [110]) rfl rfl (by intro g' h; cases h; simp) (by intro i g' h; simp only [tgtOf] at h; (repeat' split at h) <;> first | (cases h; done) | (cases h; simp)))))) (AllF.cons (From.run mixed (tysOf _) fnOk l1_ct (hC_l1_54 hC) good_l1_54 lem_l1_54_ok) (AllF.one (From.run mixed (tysOf _) fnOk l1_ct (hC_l1_55 hC) good_l1_55 lem_l1_55_ok))) (c := [110]) rfl rfl (by intro g' h; cases h; simp) (by intro i g' h; simp only [tgtOf] at h; (repeat' split at h) <;> first | (cases h; done) | (cases h; simp))))) (AllF.cons (From.run mixed (tysOf _) fnOk l1_ct (hC_l1_56 hC) good_l1_56 lem_l1_56_ok) (AllF.one (From.run mixed (tysOf _) fnOk l1_ct (hC_l1_57 hC) good_l1_57 lem_l1_57_ok))) (c := [110]) rfl rfl (by intro g' h; cases h; simp) (by intro i g' h; simp only [tgtOf] at h; (repeat' split at h) <;> first | (cases h; done) | (cases h; simp)))))))) (by simp) (by simp [tgtOf])) (AllF.cutI (i := 1) hl53 (AllF.cons (From.run mixed (tysOf _) fnOk l1_ct (hC_l1_58 hC) good_l1_58 lem_l1_58_ok) (AllF.cons (From.run mixed (tysOf _) fnOk l1_ct (hC_l1_59 hC) good_l1_59 lem_l1_59_ok) (AllF.cons (From.run mixed (tysOf _) fnOk l1_ct (hC_l1_60 hC) good_l1_60 lem_l1_60_ok) (AllF.cons (From.run mixed (tysOf _) fnOk l1_ct (hC_l1_61 hC) good_l1_61 lem_l1_61_ok) (AllF.one (From.run mixed (tysOf _) fnOk l1_ct (hC_l1_62 hC) good_l1_62 lem_l1_62_ok)))))) (From.loop (c := 112) (B := 5) (cs := []) (g := ⟨T_M00, F_M00, [(112, some 5)], fm13⟩) (g0 := ⟨T_M00, F_M00, [], fm13⟩) rfl rfl (AllF.cons (From.cutI (i := 2) hl28 (From.run mixed (tysOf _) fnOk l1_ct (hC_l1_63 hC) good_l1_63 lem_l1_63_ok) (AllF.one (From.block (From.run mixed (tysOf _) fnOk l1_ct (hC_l1_64 hC) good_l1_64 lem_l1_64_ok))) (AllF.one (From.run mixed (tysOf _) fnOk l1_ct (hC_l1_65 hC) good_l1_65 lem_l1_65_ok)) (c := [112]) rfl rfl (by intro g' h; cases h; simp) (by intro i g' h; simp only [tgtOf] at h; (repeat' split at h) <;> first | (cases h; done) | (cases h; simp))) (AllF.cons (From.cutI (i := 2) hl30 (From.run mixed (tysOf _) fnOk l1_ct (hC_l1_66 hC) good_l1_66 lem_l1_66_ok) (AllF.one (From.block (From.cutL (i := 2) hl29 (From.run mixed (tysOf _) fnOk l1_ct (hC_l1_67 hC) good_l1_67 lem_l1_67_ok) (From.loop (c := 111) (B := 101) (cs := [112]) (g := ⟨T_I01, F_I01, [(111, some 101), (112, none)], []⟩) (g0 := ⟨T_I01, F_I01, [(112, none)], []⟩) rfl rfl (AllF.one (From.run mixed (tysOf _) fnOk l1_ct (hC_l1_68 hC) good_l1_68 lem_l1_68_ok)) (by simp) (by intro i g' h; simp only [tgtOf] at h; (repeat' split at h) <;> first | (cases h; done) | (cases h; simp))) (c := [112]) rfl (by intro g' h; cases h; simp) (by intro i g' h; simp only [tgtOf] at h; (repeat' split at h) <;> first | (cases h; done) | (cases h; simp))))) (AllF.one (From.run mixed (tysOf _) fnOk l1_ct (hC_l1_69 hC) good_l1_69 lem_l1_69_ok)) (c := [112]) rfl rfl (by intro g' h; cases h; simp) (by intro i g' h; simp only [tgtOf] at h; (repeat' split at h) <;> first | (cases h; done) | (cases h; simp))) (AllF.cons (From.cutI (i := 2) hl32 (From.run mixed (tysOf _) fnOk l1_ct (hC_l1_70 hC) good_l1_70 lem_l1_70_ok) (AllF.one (From.block (From.cutL (i := 2) hl31 (From.run mixed (tysOf _) fnOk l1_ct (hC_l1_71 hC) good_l1_71 lem_l1_71_ok) (From.loop (c := 111) (B := 101) (cs := [112]) (g := ⟨T_I02, F_I02, [(111, some 101), (112, none)], []⟩) (g0 := ⟨T_I02, F_I02, [(112, none)], []⟩) rfl rfl (AllF.one (From.run mixed (tysOf _) fnOk l1_ct (hC_l1_72 hC) good_l1_72 lem_l1_72_ok)) (by simp) (by intro i g' h; simp only [tgtOf] at h; (repeat' split at h) <;> first | (cases h; done) | (cases h; simp))) (c := [112]) rfl (by intro g' h; cases h; simp) (by intro i g' h; simp only [tgtOf] at h; (repeat' split at h) <;> first | (cases h; done) | (cases h; simp))))) (AllF.one (From.run mixed (tysOf _) fnOk l1_ct (hC_l1_73 hC) good_l1_73 lem_l1_73_ok)) (c := [112]) rfl rfl (by intro g' h; cases h; simp) (by intro i g' h; simp only [tgtOf] at h; (repeat' split at h) <;> first | (cases h; done) | (cases h; simp))) (AllF.cons (From.cutI (i := 2) hl34 (From.run mixed (tysOf _) fnOk l1_ct (hC_l1_74 hC) good_l1_74 lem_l1_74_ok) (AllF.one (From.block (From.cutL (i := 2) hl33 (From.run mixed (tysOf _) fnOk l1_ct (hC_l1_75 hC) good_l1_75 lem_l1_75_ok) (From.loop (c := 111) (B := 101) (cs := [112]) (g := ⟨T_I03, F_I03, [(111, some 101), (112, none)], []⟩) (g0 := ⟨T_I03, F_I03, [(112, none)], []⟩) rfl rfl (AllF.one (From.run mixed (tysOf _) fnOk l1_ct (hC_l1_76 hC) good_l1_76 lem_l1_76_ok)) (by simp) (by intro i g' h; simp only [tgtOf] at h; (repeat' split at h) <;> first | (cases h; done) | (cases h; simp))) (c := [112]) rfl (by intro g' h; cases h; simp) (by intro i g' h; simp only [tgtOf] at h; (repeat' split at h) <;> first | (cases h; done) | (cases h; simp))))) (AllF.one (From.run mixed (tysOf _) fnOk l1_ct (hC_l1_77 hC) good_l1_77 lem_l1_77_ok)) (c := [112]) rfl rfl (by intro g' h; cases h; simp) (by intro i g' h; simp only [tgtOf] at h; (repeat' split at h) <;> first | (cases h; done) | (cases h; simp))) (AllF.cons (From.cutI (i := 2) hl36 (From.run mixed (tysOf _) fnOk l1_ct (hC_l1_78 hC) good_l1_78 lem_l1_78_ok) (AllF.one (From.block (From.cutL (i := 2) hl35 (From.run mixed (tysOf _) fnOk l1_ct (hC_l1_79 hC) good_l1_79 lem_l1_79_ok) (From.loop (c := 111) (B := 101) (cs := [112]) (g := ⟨T_I04, F_I04, [(111, some 101), (112, none)], []⟩) (g0 := ⟨T_I04, F_I04, [(112, none)], []⟩) rfl rfl (AllF.one (From.run mixed (tysOf _) fnOk l1_ct (hC_l1_80 hC) good_l1_80 lem_l1_80_ok)) (by simp) (by intro i g' h; simp only [tgtOf] at h; (repeat' split at h) <;> first | (cases h; done) | (cases h; simp))) (c := [112]) rfl (by intro g' h; cases h; simp) (by intro i g' h; simp only [tgtOf] at h; (repeat' split at h) <;> first | (cases h; done) | (cases h; simp))))) (AllF.one (From.run mixed (tysOf _) fnOk l1_ct (hC_l1_81 hC) good_l1_81 lem_l1_81_ok)) (c := [112]) rfl rfl (by intro g' h; cases h; simp) (by intro i g' h; simp only [tgtOf] at h; (repeat' split at h) <;> first | (cases h; done) | (cases h; simp))) (AllF.cons (From.cutI (i := 2) hl37 (From.run mixed (tysOf _) fnOk l1_ct (hC_l1_82 hC) good_l1_82 lem_l1_82_ok) (AllF.one (From.block (From.run mixed (tysOf _) fnOk l1_ct (hC_l1_83 hC) good_l1_83 lem_l1_83_ok))) (AllF.one (From.run mixed (tysOf _) fnOk l1_ct (hC_l1_84 hC) good_l1_84 lem_l1_84_ok)) (c := [112]) rfl rfl (by intro g' h; cases h; simp) (by intro i g' h; simp only [tgtOf] at h; (repeat' split at h) <;> first | (cases h; done) | (cases h; simp))) (AllF.cons (From.cutI (i := 2) hl39 (From.run mixed (tysOf _) fnOk l1_ct (hC_l1_85 hC) good_l1_85 lem_l1_85_ok) (AllF.one (From.block (From.cutL (i := 2) hl38 (From.run mixed (tysOf _) fnOk l1_ct (hC_l1_86 hC) good_l1_86 lem_l1_86_ok) (From.loop (c := 111) (B := 101) (cs := [112]) (g := ⟨T_I11, F_I11, [(111, some 101), (112, none)], []⟩) (g0 := ⟨T_I11, F_I11, [(112, none)], []⟩) rfl rfl (AllF.one (From.run mixed (tysOf _) fnOk l1_ct (hC_l1_87 hC) good_l1_87 lem_l1_87_ok)) (by simp) (by intro i g' h; simp only [tgtOf] at h; (repeat' split at h) <;> first | (cases h; done) | (cases h; simp))) (c := [112]) rfl (by intro g' h; cases h; simp) (by intro i g' h; simp only [tgtOf] at h; (repeat' split at h) <;> first | (cases h; done) | (cases h; simp))))) (AllF.one (From.run mixed (tysOf _) fnOk l1_ct (hC_l1_88 hC) good_l1_88 lem_l1_88_ok)) (c := [112]) rfl rfl (by intro g' h; cases h; simp) (by intro i g' h; simp only [tgtOf] at h; (repeat' split at h) <;> first | (cases h; done) | (cases h; simp))) (AllF.cons (From.cutI (i := 2) hl41 (From.run mixed (tysOf _) fnOk l1_ct (hC_l1_89 hC) good_l1_89 lem_l1_89_ok) (AllF.one (From.block (From.cutL (i := 2) hl40 (From.run mixed (tysOf _) fnOk l1_ct (hC_l1_90 hC) good_l1_90 lem_l1_90_ok) (From.loop (c := 111) (B := 101) (cs := [112]) (g := ⟨T_I12, F_I12, [(111, some 101), (112, none)], []⟩) (g0 := ⟨T_I12, F_I12, [(112, none)], []⟩) rfl rfl (AllF.one (From.run mixed (tysOf _) fnOk l1_ct (hC_l1_91 hC) good_l1_91 lem_l1_91_ok)) (by simp) (by intro i g' h; simp only [tgtOf] at h; (repeat' split at h) <;> first | (cases h; done) | (cases h; simp))) (c := [112]) rfl (by intro g' h; cases h; simp) (by intro i g' h; simp only [tgtOf] at h; (repeat' split at h) <;> first | (cases h; done) | (cases h; simp))))) (AllF.one (From.run mixed (tysOf _) fnOk l1_ct (hC_l1_92 hC) good_l1_92 lem_l1_92_ok)) (c := [112]) rfl rfl (by intro g' h; cases h; simp) (by intro i g' h; simp only [tgtOf] at h; (repeat' split at h) <;> first | (cases h; done) | (cases h; simp))) (AllF.cons (From.cutI (i := 2) hl43 (From.run mixed (tysOf _) fnOk l1_ct (hC_l1_93 hC) good_l1_93 lem_l1_93_ok) (AllF.one (From.block (From.cutL (i := 2) hl42 (From.run mixed (tysOf _) fnOk l1_ct (hC_l1_94 hC) good_l1_94 lem_l1_94_ok) (From.loop (c := 111) (B := 101) (cs := [112]) (g := ⟨T_I13, F_I13, [(111, some 101), (112, none)], []⟩) (g0 := ⟨T_I13, F_I13, [(112, none)], []⟩) rfl rfl (AllF.one (From.run mixed (tysOf _) fnOk l1_ct (hC_l1_95 hC) good_l1_95 lem_l1_95_ok)) (by simp) (by intro i g' h; simp only [tgtOf] at h; (repeat' split at h) <;> first | (cases h; done) | (cases h; simp))) (c := [112]) rfl (by intro g' h; cases h; simp) (by intro i g' h; simp only [tgtOf] at h; (repeat' split at h) <;> first | (cases h; done) | (cases h; simp))))) (AllF.one (From.run mixed (tysOf _) fnOk l1_ct (hC_l1_96 hC) good_l1_96 lem_l1_96_ok)) (c := [112]) rfl rfl (by intro g' h; cases h; simp) (by intro i g' h; simp only [tgtOf] at h; (repeat' split at h) <;> first | (cases h; done) | (cases h; simp))) (AllF.cons (From.cutI (i := 2) hl44 (From.run mixed (tysOf _) fnOk l1_ct (hC_l1_97 hC) good_l1_97 lem_l1_97_ok) (AllF.one (From.block (From.run mixed (tysOf _) fnOk l1_ct (hC_l1_98 hC) good_l1_98 lem_l1_98_ok))) (AllF.one (From.run mixed (tysOf _) fnOk l1_ct (hC_l1_99 hC) good_l1_99 lem_l1_99_ok)) (c := [112]) rfl rfl (by intro g' h; cases h; simp) (by intro i g' h; simp only [tgtOf] at h; (repeat' split at h) <;> first | (cases h; done) | (cases h; simp))) (AllF.cons (From.cutI (i := 2) hl46 (From.run mixed (tysOf _) fnOk l1_ct (hC_l1_100 hC) good_l1_100 lem_l1_100_ok) (AllF.one (From.block (From.cutL (i := 2) hl45 (From.run mixed (tysOf _) fnOk l1_ct (hC_l1_101 hC) good_l1_101 lem_l1_101_ok) (From.loop (c := 111) (B := 101) (cs := [112]) (g := ⟨T_I21, F_I21, [(111, some 101), (112, none)], []⟩) (g0 := ⟨T_I21, F_I21, [(112, none)], []⟩) rfl rfl (AllF.one (From.run mixed (tysOf _) fnOk l1_ct (hC_l1_102 hC) good_l1_102 lem_l1_102_ok)) (by simp) (by intro i g' h; simp only [tgtOf] at h; (repeat' split at h) <;> first | (cases h; done) | (cases h; simp))) (c := [112]) rfl (by intro g' h; cases h; simp) (by intro i g' h; simp only [tgtOf] at h; (repeat' split at h) <;> first | (cases h; done) | (cases h; simp))))) (AllF.one (From.run mixed (tysOf _) fnOk l1_ct (hC_l1_103 hC) good_l1_103 lem_l1_103_ok)) (c := [112]) rfl rfl (by intro g' h; cases h; simp) (by intro i g' h; simp only [tgtOf] at h; (repeat' split at h) <;> first | (cases h; done) | (cases h; simp))) (AllF.cons (From.cutI (i := 2) hl48 (From.run mixed (tysOf _) fnOk l1_ct (hC_l1_104 hC) good_l1_104 lem_l1_104_ok) (AllF.one (From.block (From.cutL (i := 2) hl47 (From.run mixed (tysOf _) fnOk l1_ct (hC_l1_105 hC) good_l1_105 lem_l1_105_ok) (From.loop (c := 111) (B := 101) (cs := [112]) (g := ⟨T_I22, F_I22, [(111, some 101), (112, none)], []⟩) (g0 := ⟨T_I22, F_I22, [(112, none)], []⟩) rfl rfl (AllF.one (From.run mixed (tysOf _) fnOk l1_ct (hC_l1_106 hC) good_l1_106 lem_l1_106_ok)) (by simp) (by intro i g' h; simp only [tgtOf] at h; (repeat' split at h) <;> first | (cases h; done) | (cases h; simp))) (c := [112]) rfl (by intro g' h; cases h; simp) (by intro i g' h; simp only [tgtOf] at h; (repeat' split at h) <;> first | (cases h; done) | (cases h; simp))))) (AllF.one (From.run mixed (tysOf _) fnOk l1_ct (hC_l1_107 hC) good_l1_107 lem_l1_107_ok)) (c := [112]) rfl rfl (by intro g' h; cases h; simp) (by intro i g' h; simp only [tgtOf] at h; (repeat' split at h) <;> first | (cases h; done) | (cases h; simp))) (AllF.cons (From.cutI (i := 2) hl49 (From.run mixed (tysOf _) fnOk l1_ct (hC_l1_108 hC) good_l1_108 lem_l1_108_ok) (AllF.one (From.block (From.run mixed (tysOf _) fnOk l1_ct (hC_l1_109 hC) good_l1_109 lem_l1_109_ok))) (AllF.one (From.run mixed (tysOf _) fnOk l1_ct (hC_l1_110 hC) good_l1_110 lem_l1_110_ok)) (c := [112]) rfl rfl (by intro g' h; cases h; simp) (by intro i g' h; simp only [tgtOf] at h; (repeat' split at h) <;> first | (cases h; done) | (cases h; simp))) (AllF.cons (From.cutI (i := 2) hl51 (From.run mixed (tysOf _) fnOk l1_ct (hC_l1_111 hC) good_l1_111 lem_l1_111_ok) (AllF.one (From.block (From.cutL (i := 2) hl50 (From.run mixed (tysOf _) fnOk l1_ct (hC_l1_112 hC) good_l1_112 lem_l1_112_ok) (From.loop (c := 111) (B := 101) (cs := [112]) (g := ⟨T_I31, F_I31, [(111, some 101), (112, none)], []⟩) (g0 := ⟨T_I31, F_I31, [(112, none)], []⟩) rfl rfl (AllF.one (From.run mixed (tysOf _) fnOk l1_ct (hC_l1_113 hC) good_l1_113 lem_l1_113_ok)) (by simp) (by intro i g' h; simp only [tgtOf] at h; (repeat' split at h) <;> first | (cases h; done) | (cases h; simp))) (c := [112]) rfl (by intro g' h; cases h; simp) (by intro i g' h; simp only [tgtOf] at h; (repeat' split at h) <;> first | (cases h; done) | (cases h; simp))))) (AllF.one (From.run mixed (tysOf _) fnOk l1_ct (hC_l1_114 hC) good_l1_114 lem_l1_114_ok)) (c := [112]) rfl rfl (by intro g' h; cases h; simp) (by intro i g' h; simp only [tgtOf] at h; (repeat' split at h) <;> first | (cases h; done) | (cases h; simp))) (AllF.one (From.run mixed (tysOf _) fnOk l1_ct (hC_l1_115 hC) good_l1_115 lem_l1_115_ok)))))))))))))))) (by simp) (by simp [tgtOf])) (AllF.cutI (i := 1) hl52 (AllF.one (From.run mixed (tysOf _) fnOk l1_ct (hC_l1_116 hC) good_l1_116 lem_l1_116_ok)) (From.loop (c := 113) (B := 101) (cs := []) (g := ⟨T_R, F_R, [(113, some 101)], []⟩) (g0 := ⟨T_R, F_R, [], []⟩) rfl rfl (AllF.one (From.run mixed (tysOf _) fnOk l1_ct (hC_l1_117 hC) good_l1_117 lem_l1_117_ok)) (by simp) (by simp [tgtOf])) (AllF.one (From.run mixed (tysOf _) fnOk l1_ct (hC_l1_118 hC) good_l1_118 lem_l1_118_ok)) (c := []) rfl rfl (by simp) (by simp [tgtOf])) (c := []) rfl rfl (by simp) (by simp [tgtOf])) (c := []) rfl rfl (by simp) (by simp [tgtOf]))

theorem post_end {C : Ctx} {ρ : Env} {e : Exit} {a : Act} {w : World} (h : Post Try.prog rnL C ρ none [] e a w) : EndAt Try.prog Try.f4 C none e a w := by
  cases e with
  | normal => exact h
  | ret => exact h
  | exit b => exact h.elim
  | panic ch => exact h.elim
  | outgrown => exact h.elim
  | goto l => exact h.elim
theorem walk : ∀ fl ∈ flagsAll Try.prog Try.f4.params.toList, ∃ xs hs k m q, symArgsT Try.prog Try.f4.params.toList 0 0 fl = some (xs, hs, k, m, q) ∧ ∀ ρ : Env, (∀ g ∈ k, Fact.holds ρ g) →
    ∀ (β : Lab) (W : World) (a : Act), TS (Ctx.law W β ρ) ρ β Try.f4.ntmps ⟨argSlots xs 0 .nil, putSets .leaf hs, q, []⟩ a W → WPs Try.prog (Sx.flat (bodyOf Try.f4)) (EndAt Try.prog Try.f4 (Ctx.law W β ρ) none) a W := by
  intro fl hfl
  rw [hfls] at hfl
  simp only [List.mem_cons, List.not_mem_nil, or_false] at hfl
  rcases hfl with rfl | rfl
  · exact ⟨xs0, hs0, facts0, 2, 1, hsym0, fun ρ hk β W a hs => (run0 (C := Ctx.law W β ρ) rfl ρ β a W hk hs).mono fun e a w he => post_end he⟩
  · exact ⟨xs1, hs1, facts1, 2, 1, hsym1, fun ρ hk β W a hs => (run1 (C := Ctx.law W β ρ) rfl ρ β a W hk hs).mono fun e a w he => post_end he⟩
theorem lifted (os : Os) (started : os.Started) (H : Type) (enc : TypeId × Value → H) :
    ReturnsInHanded {} Try.checked os 4 .any (Rows.mshrWaitsSpec.pre6 enc Try.prog Try.f4 Rows.mshrWaitsRow.domain false) (Rows.mshrWaitsSpec.post enc Try.prog Try.f4 false true false false) := by
  refine returnsInHanded_of_change_sized (C := Try.checked) own started (by kernel_rfl) Try.func4
    (ChangeSpec.witness6 (enc := enc) (C := Try.checked) false ⟨#[], zeros Try.prog Try.f4.params.toList, []⟩ 16 (by kernel_rfl) (by kernel_rfl) (by kernel_rfl) (by kernel_rfl)) ?_
  intro W base args ds gs before hval0 hW hcnd hwt0 _
  have hval : ∀ (j : Nat) t v, Try.f4.params[j]? = some t → args[j]? = some v → Value.okWide Try.prog W .any base t v := hval0
  have hW' := hW
  have hlt := hW.lt
  obtain ⟨p, q, hA0, hV, rfl, hfz, hnd⟩ := hW
  have hA : DataW.TrodAll enc Try.prog W 0 (fun _ => true) true Try.f4.params.toList args.toList ds p := hA0
  obtain ⟨rfl, rfl⟩ := trodVars_none hV
  have hwt1 : (DataW.weightsEach Try.prog (Try.f4.params.toList ++ Rows.mshrWaitsSpec.plain.varTypes Try.prog) (ds ++ [])).all (· ≤ reachBytes) = true := hwt0
  have hvt : Rows.mshrWaitsSpec.plain.varTypes Try.prog = [] := by kernel_rfl
  rw [hvt, List.append_nil, List.append_nil] at hwt1
  have hwt : ∀ x ∈ DataW.weightsEach Try.prog Try.f4.params.toList ds, x ≤ reachBytes := fun x hx => by simpa using List.all_eq_true.1 hwt1 x hx
  have hlen := trodAll_length hA
  have hsz : args.size = Try.f4.params.toList.length := by simpa using hlen.1
  have hd : ds.length = 1 := hlen.2.trans (by kernel_rfl)
  refine (law_TST hfunc hbody walk hsz (fun j t v ht hv => hval j t v (by simpa using ht) hv) hA hwt).mono fun e W' ⟨he, hk⟩ => ?_
  obtain ⟨d0, rfl⟩ : ∃ d0, ds = [d0] := by
    match ds, hd with
    | [d0], _ => exact ⟨d0, rfl⟩
  subst he
  have hb : Value.okWide Try.prog W' .any 0 4 (.bool true) := okWide_bool_mk bool_ _
  refine ⟨_, rfl, post_of_same (pa := p) (pv := []) hW' (fun _ _ _ => ?_) (fun sp hsp => args_again kids full (of_decide_eq_true (by kernel_rfl)) hA hk.old (fun x hx => hlt x (by simpa using hx)) sp (fun x hx => hsp x (by simpa using hx))) (fun _ _ => rfl) rfl
    (hk.grown.frame _) hk.grown.2.1 (ok_one rets rfl hb)⟩
  rw [rets]
  exact trodAll_cons_mk (shut_bool bool_ _) trodAll_mk0

theorem over : Rows.mshrWaitsRow.holds Try.pinned (OpenSpec.ofChange Rows.mshrWaitsSpec) :=
  OpenClaim.holds_of_wide 4 Try.f4 rfl rfl rfl rfl rfl rfl rfl ⟨rfl, rfl, rfl, rfl, rfl⟩ rfl rfl rfl rfl rfl (by kernel_rfl) Try.func4 (by kernel_rfl)
    (of_decide_eq_true (by kernel_rfl)) (by unfold Func.isWrapper; first | (rw [if_pos (by decide +kernel)]; kernel_rfl) | (rw [if_neg (by decide +kernel)]; exact ⟨rfl, rfl⟩))
    (fun os started H enc _ => lifted os started H enc)

/-- THE STATEMENT -/
theorem proved : Rows.MshrWaitsSaid :=
  over
#print axioms proved
end Go.Proofs.Ytdicippbniglpaa.mshrWaits
