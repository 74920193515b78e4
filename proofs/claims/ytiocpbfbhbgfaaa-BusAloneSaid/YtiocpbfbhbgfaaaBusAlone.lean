/-
  'BusAlone' ('tappet/tappetlaw20.BusAlone'): the executor's runs (Sx) of the parts, checked by the kernel, put together by the rules of loops and by contracts of what is called, are the walk. Printed by program.
-/
import Derived.Test.YtiocpbfbhbgfaaaBusAloneR0
import Derived.Test.YtiocpbfbhbgfaaaBusAloneR1
import Derived.Test.YtiocpbfbhbgfaaaBusAloneR2
import Derived.Test.YtiocpbfbhbgfaaaBusAloneR3
import Derived.Test.YtiocpbfbhbgfaaaBusAloneR4
import Derived.Test.YtiocpbfbhbgfaaaBusAloneR5
import Derived.Test.YtiocpbfbhbgfaaaBusAloneR6
import Derived.Test.YtiocpbfbhbgfaaaBusAloneR7
import Derived.Test.YtiocpbfbhbgfaaaBusAloneR8
import Derived.Test.YtiocpbfbhbgfaaaBusAloneR9
import Derived.Test.YtiocpbfbhbgfaaaBusAloneR10
import Derived.Test.YtiocpbfbhbgfaaaBusAloneR11
import Derived.Test.YtiocpbfbhbgfaaaBusAloneR12
import Derived.Test.YtiocpbfbhbgfaaaBusAloneR13
import Derived.Test.YtiocpbfbhbgfaaaBusAloneR14
import Derived.Test.YtiocpbfbhbgfaaaBusAloneR15
import Derived.Test.YtiocpbfbhbgfaaaBusAloneR16
import Derived.Test.YtiocpbfbhbgfaaaBusAloneR17
import Derived.Test.YtiocpbfbhbgfaaaBusAloneR18
import Derived.Test.YtiocpbfbhbgfaaaBusAloneR19
import Derived.Test.YtiocpbfbhbgfaaaBusAloneR20
import Derived.Test.YtiocpbfbhbgfaaaBusAloneR21
import Derived.Test.YtiocpbfbhbgfaaaBusAloneR22
import Derived.Test.YtiocpbfbhbgfaaaBusAloneR23
import Derived.Test.YtiocpbfbhbgfaaaBusAloneR24
import Derived.Test.YtiocpbfbhbgfaaaBusAloneR25
import Derived.Test.YtiocpbfbhbgfaaaBusAloneR26
import Derived.Test.YtiocpbfbhbgfaaaBusAloneR27
import Derived.Test.YtiocpbfbhbgfaaaBusAloneR28
import Derived.Test.YtiocpbfbhbgfaaaBusAloneR29
import Derived.Test.YtiocpbfbhbgfaaaBusAloneR30
import Derived.Test.YtiocpbfbhbgfaaaBusAloneR31
import Derived.Test.YtiocpbfbhbgfaaaBusAloneR32
import Derived.Test.YtiocpbfbhbgfaaaBusAloneR33
import Derived.Test.YtiocpbfbhbgfaaaBusAloneR34
import Derived.Test.YtiocpbfbhbgfaaaBusAloneR35
import Derived.Test.YtiocpbfbhbgfaaaBusAloneR36
import Derived.Test.YtiocpbfbhbgfaaaBusAloneR37
import Derived.Test.YtiocpbfbhbgfaaaBusAloneR38
namespace Go.Proofs.Ytiocpbfbhbgfaaa.busAlone
open Go.ChangeShapes Go.WideShapes Go.ChangeAt Go.RowKit Go.Sx
set_option linter.unusedVariables false
set_option linter.unusedSimpArgs false
theorem hbody : Try.f5.body = some (bodyOf Try.f5) := by kernel_rfl
theorem hfunc : Try.prog.funcs[5]? = some Try.f5 := by kernel_rfl
theorem hfls : flagsAll Try.prog Try.f5.params.toList = [[false, true, true], [false, false, true], [false, true, false], [false, false, false]] := by kernel_rfl
set_option maxRecDepth 100000
theorem own : ownKnob Try.prog.godebug = none := by kernel_rfl
theorem kids : Kids Try.prog (· < Try.prog.types.size) := kids_rows (by kernel_rfl) (by kernel_rfl)
theorem full : ∀ t e, t < Try.prog.types.size → Try.prog.underlying t = some (.slice e) → 0 < Try.prog.cellsOf e := slices_full_of Try.prog (by kernel_rfl)
theorem fnOk : FnOk Try.prog (fnOf Try.prog) := fnOf_ok (by kernel_rfl)
theorem mixed : Try.prog.follows .mixedOrders = true := by kernel_rfl
theorem rets : Try.f5.resultTypes = #[4] := by kernel_rfl
theorem bool_ : Try.prog.underlying 4 = some .bool := by kernel_rfl
theorem good_c_awake_0paths : DT.paths .leaf = [[]] := by kernel_rfl
theorem good_c_awake_0 : GoodT ⟨(TI.of Try.prog), (fnOf Try.prog), ⟨[], ctOf []⟩, 400, Try.f11, (some ct_awake.R)⟩ (flat (bodyOf Try.f11)) (ct_awake.facts ++ lem_c_awake_0) ct_awake.s0 none [] .leaf := by
  unfold GoodT
  rw [good_c_awake_0paths]
  simp only [List.forall_mem_cons]
  exact ⟨good_c_awake_0_0, fun _ h => absurd h List.not_mem_nil⟩
theorem good_c_serve8_1paths : DT.paths .leaf = [[]] := by kernel_rfl
theorem good_c_serve8_1 : GoodT ⟨(TI.of Try.prog), (fnOf Try.prog), ⟨[], ctOf []⟩, 400, Try.f10, (some ct_serve8.R)⟩ (flat (bodyOf Try.f10)) (ct_serve8.facts ++ lem_c_serve8_1) ct_serve8.s0 none [] .leaf := by
  unfold GoodT
  rw [good_c_serve8_1paths]
  simp only [List.forall_mem_cons]
  exact ⟨good_c_serve8_1_0, fun _ h => absurd h List.not_mem_nil⟩
theorem good_c_clb0_2paths : DT.paths .leaf = [[]] := by kernel_rfl
theorem good_c_clb0_2 : GoodT ⟨(TI.of Try.prog), (fnOf Try.prog), ⟨[], ctOf []⟩, 400, Try.f46, (some ct_clb0.R)⟩ (flat (bodyOf Try.f46)) (ct_clb0.facts ++ lem_c_clb0_2) ct_clb0.s0 none [] .leaf := by
  unfold GoodT
  rw [good_c_clb0_2paths]
  simp only [List.forall_mem_cons]
  exact ⟨good_c_clb0_2_0, fun _ h => absurd h List.not_mem_nil⟩
theorem good_c_clb1_3paths : DT.paths .leaf = [[]] := by kernel_rfl
theorem good_c_clb1_3 : GoodT ⟨(TI.of Try.prog), (fnOf Try.prog), ⟨[], ctOf []⟩, 400, Try.f46, (some ct_clb1.R)⟩ (flat (bodyOf Try.f46)) (ct_clb1.facts ++ lem_c_clb1_3) ct_clb1.s0 none [] .leaf := by
  unfold GoodT
  rw [good_c_clb1_3paths]
  simp only [List.forall_mem_cons]
  exact ⟨good_c_clb1_3_0, fun _ h => absurd h List.not_mem_nil⟩
theorem good_c_clb2_4paths : DT.paths .leaf = [[]] := by kernel_rfl
theorem good_c_clb2_4 : GoodT ⟨(TI.of Try.prog), (fnOf Try.prog), ⟨[], ctOf []⟩, 400, Try.f46, (some ct_clb2.R)⟩ (flat (bodyOf Try.f46)) (ct_clb2.facts ++ lem_c_clb2_4) ct_clb2.s0 none [] .leaf := by
  unfold GoodT
  rw [good_c_clb2_4paths]
  simp only [List.forall_mem_cons]
  exact ⟨good_c_clb2_4_0, fun _ h => absurd h List.not_mem_nil⟩
theorem good_c_clt0_5paths : DT.paths .leaf = [[]] := by kernel_rfl
theorem good_c_clt0_5 : GoodT ⟨(TI.of Try.prog), (fnOf Try.prog), ⟨[], ctOf []⟩, 400, Try.f47, (some ct_clt0.R)⟩ (flat (bodyOf Try.f47)) (ct_clt0.facts ++ lem_c_clt0_5) ct_clt0.s0 none [] .leaf := by
  unfold GoodT
  rw [good_c_clt0_5paths]
  simp only [List.forall_mem_cons]
  exact ⟨good_c_clt0_5_0, fun _ h => absurd h List.not_mem_nil⟩
theorem good_c_clt1_6paths : DT.paths .leaf = [[]] := by kernel_rfl
theorem good_c_clt1_6 : GoodT ⟨(TI.of Try.prog), (fnOf Try.prog), ⟨[], ctOf []⟩, 400, Try.f47, (some ct_clt1.R)⟩ (flat (bodyOf Try.f47)) (ct_clt1.facts ++ lem_c_clt1_6) ct_clt1.s0 none [] .leaf := by
  unfold GoodT
  rw [good_c_clt1_6paths]
  simp only [List.forall_mem_cons]
  exact ⟨good_c_clt1_6_0, fun _ h => absurd h List.not_mem_nil⟩
theorem good_c_clt2_7paths : DT.paths .leaf = [[]] := by kernel_rfl
theorem good_c_clt2_7 : GoodT ⟨(TI.of Try.prog), (fnOf Try.prog), ⟨[], ctOf []⟩, 400, Try.f47, (some ct_clt2.R)⟩ (flat (bodyOf Try.f47)) (ct_clt2.facts ++ lem_c_clt2_7) ct_clt2.s0 none [] .leaf := by
  unfold GoodT
  rw [good_c_clt2_7paths]
  simp only [List.forall_mem_cons]
  exact ⟨good_c_clt2_7_0, fun _ h => absurd h List.not_mem_nil⟩
theorem good_l0_8paths : DT.paths .leaf = [[]] := by kernel_rfl
theorem good_l0_8 : GoodT rnL cd0 (facts0 ++ lem_l0_8) st0 none [] .leaf := by
  unfold GoodT
  rw [good_l0_8paths]
  simp only [List.forall_mem_cons]
  exact ⟨good_l0_8_0, fun _ h => absurd h List.not_mem_nil⟩
theorem good_l1_9paths : DT.paths .leaf = [[]] := by kernel_rfl
theorem good_l1_9 : GoodT rnL (cd0.take 6) (facts1 ++ lem_l1_9) st1 (some ⟨T_A0n, F_A0n, [], []⟩) [] .leaf := by
  unfold GoodT
  rw [good_l1_9paths]
  simp only [List.forall_mem_cons]
  exact ⟨good_l1_9_0, fun _ h => absurd h List.not_mem_nil⟩
theorem good_l1_10paths : DT.paths .leaf = [[]] := by kernel_rfl
theorem good_l1_10 : GoodT rnL (cd1.take 2) (F_A0n ++ lem_l1_10) T_A0n.toS aG0 [(0, ⟨T_E0n, F_E0n, [], []⟩)] .leaf := by
  unfold GoodT
  rw [good_l1_10paths]
  simp only [List.forall_mem_cons]
  exact ⟨good_l1_10_0, fun _ h => absurd h List.not_mem_nil⟩
theorem aD49paths : DT.paths aD49 = [aP4, aP5, aP6, aP7, aP8, aP9, aP10, aP11, aP12, aP13, aP14, aP15] := by kernel_rfl
theorem good_l1_11 : GoodT rnL ((cd2.take 8).drop 1) (F_B0n ++ lem_l1_11) aS1 aG2 aX3 aD49 := by
  unfold GoodT
  rw [aD49paths]
  simp only [List.forall_mem_cons]
  exact ⟨good_l1_11_0, good_l1_11_1, good_l1_11_2, good_l1_11_3, good_l1_11_4, good_l1_11_5, good_l1_11_6, good_l1_11_7, good_l1_11_8, good_l1_11_9, good_l1_11_10, good_l1_11_11, fun _ h => absurd h List.not_mem_nil⟩
theorem good_l1_12 : GoodT rnL ((cd2.take 8).drop 1) (F_B0n ++ lem_l1_12) aS16 aG2 aX3 aD49 := by
  unfold GoodT
  rw [aD49paths]
  simp only [List.forall_mem_cons]
  exact ⟨good_l1_12_0, good_l1_12_1, good_l1_12_2, good_l1_12_3, good_l1_12_4, good_l1_12_5, good_l1_12_6, good_l1_12_7, good_l1_12_8, good_l1_12_9, good_l1_12_10, good_l1_12_11, fun _ h => absurd h List.not_mem_nil⟩
theorem good_l1_13 : GoodT rnL ((cd2.take 8).drop 1) (F_B0n ++ lem_l1_13) aS17 aG2 aX3 aD49 := by
  unfold GoodT
  rw [aD49paths]
  simp only [List.forall_mem_cons]
  exact ⟨good_l1_13_0, good_l1_13_1, good_l1_13_2, good_l1_13_3, good_l1_13_4, good_l1_13_5, good_l1_13_6, good_l1_13_7, good_l1_13_8, good_l1_13_9, good_l1_13_10, good_l1_13_11, fun _ h => absurd h List.not_mem_nil⟩
theorem good_l1_14 : GoodT rnL ((cd2.take 8).drop 1) (F_B0n ++ lem_l1_14) aS18 aG2 aX3 aD49 := by
  unfold GoodT
  rw [aD49paths]
  simp only [List.forall_mem_cons]
  exact ⟨good_l1_14_0, good_l1_14_1, good_l1_14_2, good_l1_14_3, good_l1_14_4, good_l1_14_5, good_l1_14_6, good_l1_14_7, good_l1_14_8, good_l1_14_9, good_l1_14_10, good_l1_14_11, fun _ h => absurd h List.not_mem_nil⟩
theorem aD50paths : DT.paths aD50 = [aP21, aP23, aP25, aP27, aP29, aP31] := by kernel_rfl
theorem good_l1_15 : GoodT rnL cd3 (F_T00r1n ++ lem_l1_15) T_T00r1n.toS aG19 aX20 aD50 := by
  unfold GoodT
  rw [aD50paths]
  simp only [List.forall_mem_cons]
  exact ⟨good_l1_15_0, good_l1_15_1, good_l1_15_2, good_l1_15_3, good_l1_15_4, good_l1_15_5, fun _ h => absurd h List.not_mem_nil⟩
theorem good_l1_16 : GoodT rnL cd3 (F_T00r8n ++ lem_l1_16) T_T00r8n.toS aG19 aX20 aD50 := by
  unfold GoodT
  rw [aD50paths]
  simp only [List.forall_mem_cons]
  exact ⟨good_l1_16_0, good_l1_16_1, good_l1_16_2, good_l1_16_3, good_l1_16_4, good_l1_16_5, fun _ h => absurd h List.not_mem_nil⟩
theorem good_l1_17 : GoodT rnL cd3 (F_T00w1n ++ lem_l1_17) T_T00w1n.toS aG19 aX20 aD50 := by
  unfold GoodT
  rw [aD50paths]
  simp only [List.forall_mem_cons]
  exact ⟨good_l1_17_0, good_l1_17_1, good_l1_17_2, good_l1_17_3, good_l1_17_4, good_l1_17_5, fun _ h => absurd h List.not_mem_nil⟩
theorem good_l1_18 : GoodT rnL cd3 (F_T00w8n ++ lem_l1_18) T_T00w8n.toS aG19 aX20 aD50 := by
  unfold GoodT
  rw [aD50paths]
  simp only [List.forall_mem_cons]
  exact ⟨good_l1_18_0, good_l1_18_1, good_l1_18_2, good_l1_18_3, good_l1_18_4, good_l1_18_5, fun _ h => absurd h List.not_mem_nil⟩
theorem good_l1_19 : GoodT rnL cd3 (F_T01r1n ++ lem_l1_19) T_T01r1n.toS aG19 aX20 aD50 := by
  unfold GoodT
  rw [aD50paths]
  simp only [List.forall_mem_cons]
  exact ⟨good_l1_19_0, good_l1_19_1, good_l1_19_2, good_l1_19_3, good_l1_19_4, good_l1_19_5, fun _ h => absurd h List.not_mem_nil⟩
theorem good_l1_20 : GoodT rnL cd3 (F_T01r8n ++ lem_l1_20) T_T01r8n.toS aG19 aX20 aD50 := by
  unfold GoodT
  rw [aD50paths]
  simp only [List.forall_mem_cons]
  exact ⟨good_l1_20_0, good_l1_20_1, good_l1_20_2, good_l1_20_3, good_l1_20_4, good_l1_20_5, fun _ h => absurd h List.not_mem_nil⟩
theorem good_l1_21 : GoodT rnL cd3 (F_T01w1n ++ lem_l1_21) T_T01w1n.toS aG19 aX20 aD50 := by
  unfold GoodT
  rw [aD50paths]
  simp only [List.forall_mem_cons]
  exact ⟨good_l1_21_0, good_l1_21_1, good_l1_21_2, good_l1_21_3, good_l1_21_4, good_l1_21_5, fun _ h => absurd h List.not_mem_nil⟩
theorem good_l1_22 : GoodT rnL cd3 (F_T01w8n ++ lem_l1_22) T_T01w8n.toS aG19 aX20 aD50 := by
  unfold GoodT
  rw [aD50paths]
  simp only [List.forall_mem_cons]
  exact ⟨good_l1_22_0, good_l1_22_1, good_l1_22_2, good_l1_22_3, good_l1_22_4, good_l1_22_5, fun _ h => absurd h List.not_mem_nil⟩
theorem good_l1_23 : GoodT rnL cd3 (F_T02r1n ++ lem_l1_23) T_T02r1n.toS aG19 aX20 aD50 := by
  unfold GoodT
  rw [aD50paths]
  simp only [List.forall_mem_cons]
  exact ⟨good_l1_23_0, good_l1_23_1, good_l1_23_2, good_l1_23_3, good_l1_23_4, good_l1_23_5, fun _ h => absurd h List.not_mem_nil⟩
theorem good_l1_24 : GoodT rnL cd3 (F_T02r8n ++ lem_l1_24) T_T02r8n.toS aG19 aX20 aD50 := by
  unfold GoodT
  rw [aD50paths]
  simp only [List.forall_mem_cons]
  exact ⟨good_l1_24_0, good_l1_24_1, good_l1_24_2, good_l1_24_3, good_l1_24_4, good_l1_24_5, fun _ h => absurd h List.not_mem_nil⟩
theorem good_l1_25 : GoodT rnL cd3 (F_T02w1n ++ lem_l1_25) T_T02w1n.toS aG19 aX20 aD50 := by
  unfold GoodT
  rw [aD50paths]
  simp only [List.forall_mem_cons]
  exact ⟨good_l1_25_0, good_l1_25_1, good_l1_25_2, good_l1_25_3, good_l1_25_4, good_l1_25_5, fun _ h => absurd h List.not_mem_nil⟩
theorem good_l1_26 : GoodT rnL cd3 (F_T02w8n ++ lem_l1_26) T_T02w8n.toS aG19 aX20 aD50 := by
  unfold GoodT
  rw [aD50paths]
  simp only [List.forall_mem_cons]
  exact ⟨good_l1_26_0, good_l1_26_1, good_l1_26_2, good_l1_26_3, good_l1_26_4, good_l1_26_5, fun _ h => absurd h List.not_mem_nil⟩
theorem good_l1_27 : GoodT rnL cd3 (F_T03r1n ++ lem_l1_27) T_T03r1n.toS aG19 aX20 aD50 := by
  unfold GoodT
  rw [aD50paths]
  simp only [List.forall_mem_cons]
  exact ⟨good_l1_27_0, good_l1_27_1, good_l1_27_2, good_l1_27_3, good_l1_27_4, good_l1_27_5, fun _ h => absurd h List.not_mem_nil⟩
theorem good_l1_28 : GoodT rnL cd3 (F_T03r8n ++ lem_l1_28) T_T03r8n.toS aG19 aX20 aD50 := by
  unfold GoodT
  rw [aD50paths]
  simp only [List.forall_mem_cons]
  exact ⟨good_l1_28_0, good_l1_28_1, good_l1_28_2, good_l1_28_3, good_l1_28_4, good_l1_28_5, fun _ h => absurd h List.not_mem_nil⟩
theorem good_l1_29 : GoodT rnL cd3 (F_T03w1n ++ lem_l1_29) T_T03w1n.toS aG19 aX20 aD50 := by
  unfold GoodT
  rw [aD50paths]
  simp only [List.forall_mem_cons]
  exact ⟨good_l1_29_0, good_l1_29_1, good_l1_29_2, good_l1_29_3, good_l1_29_4, good_l1_29_5, fun _ h => absurd h List.not_mem_nil⟩
theorem good_l1_30 : GoodT rnL cd3 (F_T03w8n ++ lem_l1_30) T_T03w8n.toS aG19 aX20 aD50 := by
  unfold GoodT
  rw [aD50paths]
  simp only [List.forall_mem_cons]
  exact ⟨good_l1_30_0, good_l1_30_1, good_l1_30_2, good_l1_30_3, good_l1_30_4, good_l1_30_5, fun _ h => absurd h List.not_mem_nil⟩
theorem good_l1_31 : GoodT rnL cd3 (F_T10r1n ++ lem_l1_31) T_T10r1n.toS aG19 aX20 aD50 := by
  unfold GoodT
  rw [aD50paths]
  simp only [List.forall_mem_cons]
  exact ⟨good_l1_31_0, good_l1_31_1, good_l1_31_2, good_l1_31_3, good_l1_31_4, good_l1_31_5, fun _ h => absurd h List.not_mem_nil⟩
theorem good_l1_32 : GoodT rnL cd3 (F_T10r8n ++ lem_l1_32) T_T10r8n.toS aG19 aX20 aD50 := by
  unfold GoodT
  rw [aD50paths]
  simp only [List.forall_mem_cons]
  exact ⟨good_l1_32_0, good_l1_32_1, good_l1_32_2, good_l1_32_3, good_l1_32_4, good_l1_32_5, fun _ h => absurd h List.not_mem_nil⟩
theorem good_l1_33 : GoodT rnL cd3 (F_T10w1n ++ lem_l1_33) T_T10w1n.toS aG19 aX20 aD50 := by
  unfold GoodT
  rw [aD50paths]
  simp only [List.forall_mem_cons]
  exact ⟨good_l1_33_0, good_l1_33_1, good_l1_33_2, good_l1_33_3, good_l1_33_4, good_l1_33_5, fun _ h => absurd h List.not_mem_nil⟩
theorem good_l1_34 : GoodT rnL cd3 (F_T10w8n ++ lem_l1_34) T_T10w8n.toS aG19 aX20 aD50 := by
  unfold GoodT
  rw [aD50paths]
  simp only [List.forall_mem_cons]
  exact ⟨good_l1_34_0, good_l1_34_1, good_l1_34_2, good_l1_34_3, good_l1_34_4, good_l1_34_5, fun _ h => absurd h List.not_mem_nil⟩
theorem good_l1_35 : GoodT rnL cd3 (F_T11r1n ++ lem_l1_35) T_T11r1n.toS aG19 aX20 aD50 := by
  unfold GoodT
  rw [aD50paths]
  simp only [List.forall_mem_cons]
  exact ⟨good_l1_35_0, good_l1_35_1, good_l1_35_2, good_l1_35_3, good_l1_35_4, good_l1_35_5, fun _ h => absurd h List.not_mem_nil⟩
theorem good_l1_36 : GoodT rnL cd3 (F_T11r8n ++ lem_l1_36) T_T11r8n.toS aG19 aX20 aD50 := by
  unfold GoodT
  rw [aD50paths]
  simp only [List.forall_mem_cons]
  exact ⟨good_l1_36_0, good_l1_36_1, good_l1_36_2, good_l1_36_3, good_l1_36_4, good_l1_36_5, fun _ h => absurd h List.not_mem_nil⟩
theorem good_l1_37 : GoodT rnL cd3 (F_T11w1n ++ lem_l1_37) T_T11w1n.toS aG19 aX20 aD50 := by
  unfold GoodT
  rw [aD50paths]
  simp only [List.forall_mem_cons]
  exact ⟨good_l1_37_0, good_l1_37_1, good_l1_37_2, good_l1_37_3, good_l1_37_4, good_l1_37_5, fun _ h => absurd h List.not_mem_nil⟩
theorem good_l1_38 : GoodT rnL cd3 (F_T11w8n ++ lem_l1_38) T_T11w8n.toS aG19 aX20 aD50 := by
  unfold GoodT
  rw [aD50paths]
  simp only [List.forall_mem_cons]
  exact ⟨good_l1_38_0, good_l1_38_1, good_l1_38_2, good_l1_38_3, good_l1_38_4, good_l1_38_5, fun _ h => absurd h List.not_mem_nil⟩
theorem good_l1_39 : GoodT rnL cd3 (F_T12r1n ++ lem_l1_39) T_T12r1n.toS aG19 aX20 aD50 := by
  unfold GoodT
  rw [aD50paths]
  simp only [List.forall_mem_cons]
  exact ⟨good_l1_39_0, good_l1_39_1, good_l1_39_2, good_l1_39_3, good_l1_39_4, good_l1_39_5, fun _ h => absurd h List.not_mem_nil⟩
theorem good_l1_40 : GoodT rnL cd3 (F_T12r8n ++ lem_l1_40) T_T12r8n.toS aG19 aX20 aD50 := by
  unfold GoodT
  rw [aD50paths]
  simp only [List.forall_mem_cons]
  exact ⟨good_l1_40_0, good_l1_40_1, good_l1_40_2, good_l1_40_3, good_l1_40_4, good_l1_40_5, fun _ h => absurd h List.not_mem_nil⟩
theorem good_l1_41 : GoodT rnL cd3 (F_T12w1n ++ lem_l1_41) T_T12w1n.toS aG19 aX20 aD50 := by
  unfold GoodT
  rw [aD50paths]
  simp only [List.forall_mem_cons]
  exact ⟨good_l1_41_0, good_l1_41_1, good_l1_41_2, good_l1_41_3, good_l1_41_4, good_l1_41_5, fun _ h => absurd h List.not_mem_nil⟩
theorem good_l1_42 : GoodT rnL cd3 (F_T12w8n ++ lem_l1_42) T_T12w8n.toS aG19 aX20 aD50 := by
  unfold GoodT
  rw [aD50paths]
  simp only [List.forall_mem_cons]
  exact ⟨good_l1_42_0, good_l1_42_1, good_l1_42_2, good_l1_42_3, good_l1_42_4, good_l1_42_5, fun _ h => absurd h List.not_mem_nil⟩
theorem good_l1_43 : GoodT rnL cd3 (F_T13r1n ++ lem_l1_43) T_T13r1n.toS aG19 aX20 aD50 := by
  unfold GoodT
  rw [aD50paths]
  simp only [List.forall_mem_cons]
  exact ⟨good_l1_43_0, good_l1_43_1, good_l1_43_2, good_l1_43_3, good_l1_43_4, good_l1_43_5, fun _ h => absurd h List.not_mem_nil⟩
theorem good_l1_44 : GoodT rnL cd3 (F_T13r8n ++ lem_l1_44) T_T13r8n.toS aG19 aX20 aD50 := by
  unfold GoodT
  rw [aD50paths]
  simp only [List.forall_mem_cons]
  exact ⟨good_l1_44_0, good_l1_44_1, good_l1_44_2, good_l1_44_3, good_l1_44_4, good_l1_44_5, fun _ h => absurd h List.not_mem_nil⟩
theorem good_l1_45 : GoodT rnL cd3 (F_T13w1n ++ lem_l1_45) T_T13w1n.toS aG19 aX20 aD50 := by
  unfold GoodT
  rw [aD50paths]
  simp only [List.forall_mem_cons]
  exact ⟨good_l1_45_0, good_l1_45_1, good_l1_45_2, good_l1_45_3, good_l1_45_4, good_l1_45_5, fun _ h => absurd h List.not_mem_nil⟩
theorem good_l1_46 : GoodT rnL cd3 (F_T13w8n ++ lem_l1_46) T_T13w8n.toS aG19 aX20 aD50 := by
  unfold GoodT
  rw [aD50paths]
  simp only [List.forall_mem_cons]
  exact ⟨good_l1_46_0, good_l1_46_1, good_l1_46_2, good_l1_46_3, good_l1_46_4, good_l1_46_5, fun _ h => absurd h List.not_mem_nil⟩
theorem good_l1_47 : GoodT rnL cd3 (F_T20r1n ++ lem_l1_47) T_T20r1n.toS aG19 aX20 aD50 := by
  unfold GoodT
  rw [aD50paths]
  simp only [List.forall_mem_cons]
  exact ⟨good_l1_47_0, good_l1_47_1, good_l1_47_2, good_l1_47_3, good_l1_47_4, good_l1_47_5, fun _ h => absurd h List.not_mem_nil⟩
theorem good_l1_48 : GoodT rnL cd3 (F_T20r8n ++ lem_l1_48) T_T20r8n.toS aG19 aX20 aD50 := by
  unfold GoodT
  rw [aD50paths]
  simp only [List.forall_mem_cons]
  exact ⟨good_l1_48_0, good_l1_48_1, good_l1_48_2, good_l1_48_3, good_l1_48_4, good_l1_48_5, fun _ h => absurd h List.not_mem_nil⟩
theorem good_l1_49 : GoodT rnL cd3 (F_T20w1n ++ lem_l1_49) T_T20w1n.toS aG19 aX20 aD50 := by
  unfold GoodT
  rw [aD50paths]
  simp only [List.forall_mem_cons]
  exact ⟨good_l1_49_0, good_l1_49_1, good_l1_49_2, good_l1_49_3, good_l1_49_4, good_l1_49_5, fun _ h => absurd h List.not_mem_nil⟩
theorem good_l1_50 : GoodT rnL cd3 (F_T20w8n ++ lem_l1_50) T_T20w8n.toS aG19 aX20 aD50 := by
  unfold GoodT
  rw [aD50paths]
  simp only [List.forall_mem_cons]
  exact ⟨good_l1_50_0, good_l1_50_1, good_l1_50_2, good_l1_50_3, good_l1_50_4, good_l1_50_5, fun _ h => absurd h List.not_mem_nil⟩
theorem good_l1_51 : GoodT rnL cd3 (F_T21r1n ++ lem_l1_51) T_T21r1n.toS aG19 aX20 aD50 := by
  unfold GoodT
  rw [aD50paths]
  simp only [List.forall_mem_cons]
  exact ⟨good_l1_51_0, good_l1_51_1, good_l1_51_2, good_l1_51_3, good_l1_51_4, good_l1_51_5, fun _ h => absurd h List.not_mem_nil⟩
theorem good_l1_52 : GoodT rnL cd3 (F_T21r8n ++ lem_l1_52) T_T21r8n.toS aG19 aX20 aD50 := by
  unfold GoodT
  rw [aD50paths]
  simp only [List.forall_mem_cons]
  exact ⟨good_l1_52_0, good_l1_52_1, good_l1_52_2, good_l1_52_3, good_l1_52_4, good_l1_52_5, fun _ h => absurd h List.not_mem_nil⟩
theorem good_l1_53 : GoodT rnL cd3 (F_T21w1n ++ lem_l1_53) T_T21w1n.toS aG19 aX20 aD50 := by
  unfold GoodT
  rw [aD50paths]
  simp only [List.forall_mem_cons]
  exact ⟨good_l1_53_0, good_l1_53_1, good_l1_53_2, good_l1_53_3, good_l1_53_4, good_l1_53_5, fun _ h => absurd h List.not_mem_nil⟩
theorem good_l1_54 : GoodT rnL cd3 (F_T21w8n ++ lem_l1_54) T_T21w8n.toS aG19 aX20 aD50 := by
  unfold GoodT
  rw [aD50paths]
  simp only [List.forall_mem_cons]
  exact ⟨good_l1_54_0, good_l1_54_1, good_l1_54_2, good_l1_54_3, good_l1_54_4, good_l1_54_5, fun _ h => absurd h List.not_mem_nil⟩
theorem good_l1_55 : GoodT rnL cd3 (F_T22r1n ++ lem_l1_55) T_T22r1n.toS aG19 aX20 aD50 := by
  unfold GoodT
  rw [aD50paths]
  simp only [List.forall_mem_cons]
  exact ⟨good_l1_55_0, good_l1_55_1, good_l1_55_2, good_l1_55_3, good_l1_55_4, good_l1_55_5, fun _ h => absurd h List.not_mem_nil⟩
theorem good_l1_56 : GoodT rnL cd3 (F_T22r8n ++ lem_l1_56) T_T22r8n.toS aG19 aX20 aD50 := by
  unfold GoodT
  rw [aD50paths]
  simp only [List.forall_mem_cons]
  exact ⟨good_l1_56_0, good_l1_56_1, good_l1_56_2, good_l1_56_3, good_l1_56_4, good_l1_56_5, fun _ h => absurd h List.not_mem_nil⟩
theorem good_l1_57 : GoodT rnL cd3 (F_T22w1n ++ lem_l1_57) T_T22w1n.toS aG19 aX20 aD50 := by
  unfold GoodT
  rw [aD50paths]
  simp only [List.forall_mem_cons]
  exact ⟨good_l1_57_0, good_l1_57_1, good_l1_57_2, good_l1_57_3, good_l1_57_4, good_l1_57_5, fun _ h => absurd h List.not_mem_nil⟩
theorem good_l1_58 : GoodT rnL cd3 (F_T22w8n ++ lem_l1_58) T_T22w8n.toS aG19 aX20 aD50 := by
  unfold GoodT
  rw [aD50paths]
  simp only [List.forall_mem_cons]
  exact ⟨good_l1_58_0, good_l1_58_1, good_l1_58_2, good_l1_58_3, good_l1_58_4, good_l1_58_5, fun _ h => absurd h List.not_mem_nil⟩
theorem good_l1_59 : GoodT rnL cd3 (F_T23r1n ++ lem_l1_59) T_T23r1n.toS aG19 aX20 aD50 := by
  unfold GoodT
  rw [aD50paths]
  simp only [List.forall_mem_cons]
  exact ⟨good_l1_59_0, good_l1_59_1, good_l1_59_2, good_l1_59_3, good_l1_59_4, good_l1_59_5, fun _ h => absurd h List.not_mem_nil⟩
theorem good_l1_60 : GoodT rnL cd3 (F_T23r8n ++ lem_l1_60) T_T23r8n.toS aG19 aX20 aD50 := by
  unfold GoodT
  rw [aD50paths]
  simp only [List.forall_mem_cons]
  exact ⟨good_l1_60_0, good_l1_60_1, good_l1_60_2, good_l1_60_3, good_l1_60_4, good_l1_60_5, fun _ h => absurd h List.not_mem_nil⟩
theorem good_l1_61 : GoodT rnL cd3 (F_T23w1n ++ lem_l1_61) T_T23w1n.toS aG19 aX20 aD50 := by
  unfold GoodT
  rw [aD50paths]
  simp only [List.forall_mem_cons]
  exact ⟨good_l1_61_0, good_l1_61_1, good_l1_61_2, good_l1_61_3, good_l1_61_4, good_l1_61_5, fun _ h => absurd h List.not_mem_nil⟩
theorem good_l1_62 : GoodT rnL cd3 (F_T23w8n ++ lem_l1_62) T_T23w8n.toS aG19 aX20 aD50 := by
  unfold GoodT
  rw [aD50paths]
  simp only [List.forall_mem_cons]
  exact ⟨good_l1_62_0, good_l1_62_1, good_l1_62_2, good_l1_62_3, good_l1_62_4, good_l1_62_5, fun _ h => absurd h List.not_mem_nil⟩
theorem aD51paths : DT.paths aD51 = [aP33, aP34, aP35] := by kernel_rfl
theorem good_l1_63 : GoodT rnL cd3 (F_Uen ++ lem_l1_63) T_Uen.toS aG19 aX20 aD51 := by
  unfold GoodT
  rw [aD51paths]
  simp only [List.forall_mem_cons]
  exact ⟨good_l1_63_0, good_l1_63_1, good_l1_63_2, fun _ h => absurd h List.not_mem_nil⟩
theorem good_l1_64 : GoodT rnL cd3 (F_Uwn ++ lem_l1_64) T_Uwn.toS aG19 aX20 aD51 := by
  unfold GoodT
  rw [aD51paths]
  simp only [List.forall_mem_cons]
  exact ⟨good_l1_64_0, good_l1_64_1, good_l1_64_2, fun _ h => absurd h List.not_mem_nil⟩
theorem good_l1_65 : GoodT rnL cd3 (F_Urn ++ lem_l1_65) T_Urn.toS aG19 aX20 aD51 := by
  unfold GoodT
  rw [aD51paths]
  simp only [List.forall_mem_cons]
  exact ⟨good_l1_65_0, good_l1_65_1, good_l1_65_2, fun _ h => absurd h List.not_mem_nil⟩
theorem good_l1_66 : GoodT rnL cd3 (F_URn ++ lem_l1_66) T_URn.toS aG19 aX20 aD51 := by
  unfold GoodT
  rw [aD51paths]
  simp only [List.forall_mem_cons]
  exact ⟨good_l1_66_0, good_l1_66_1, good_l1_66_2, fun _ h => absurd h List.not_mem_nil⟩
theorem good_l1_67paths : DT.paths .leaf = [[]] := by kernel_rfl
theorem good_l1_67 : GoodT rnL (cd2.drop 9) (F_Ven ++ lem_l1_67) T_Ven.toS aG36 aX3 .leaf := by
  unfold GoodT
  rw [good_l1_67paths]
  simp only [List.forall_mem_cons]
  exact ⟨good_l1_67_0, fun _ h => absurd h List.not_mem_nil⟩
theorem good_l1_68paths : DT.paths .leaf = [[]] := by kernel_rfl
theorem good_l1_68 : GoodT rnL (cd2.drop 9) (F_Vwn ++ lem_l1_68) T_Vwn.toS aG36 aX3 .leaf := by
  unfold GoodT
  rw [good_l1_68paths]
  simp only [List.forall_mem_cons]
  exact ⟨good_l1_68_0, fun _ h => absurd h List.not_mem_nil⟩
theorem good_l1_69paths : DT.paths .leaf = [[]] := by kernel_rfl
theorem good_l1_69 : GoodT rnL (cd2.drop 9) (F_Vrn ++ lem_l1_69) T_Vrn.toS aG36 aX3 .leaf := by
  unfold GoodT
  rw [good_l1_69paths]
  simp only [List.forall_mem_cons]
  exact ⟨good_l1_69_0, fun _ h => absurd h List.not_mem_nil⟩
theorem good_l1_70paths : DT.paths .leaf = [[]] := by kernel_rfl
theorem good_l1_70 : GoodT rnL (cd2.drop 9) (F_VRn ++ lem_l1_70) T_VRn.toS aG36 aX3 .leaf := by
  unfold GoodT
  rw [good_l1_70paths]
  simp only [List.forall_mem_cons]
  exact ⟨good_l1_70_0, fun _ h => absurd h List.not_mem_nil⟩
theorem good_l1_71paths : DT.paths .leaf = [[]] := by kernel_rfl
theorem good_l1_71 : GoodT rnL (cd1.drop 3) (F_C0n ++ lem_l1_71) T_C0n.toS aG37 [(0, ⟨T_E0n, F_E0n, [], []⟩)] .leaf := by
  unfold GoodT
  rw [good_l1_71paths]
  simp only [List.forall_mem_cons]
  exact ⟨good_l1_71_0, fun _ h => absurd h List.not_mem_nil⟩
theorem good_l1_72paths : DT.paths .leaf = [[]] := by kernel_rfl
theorem good_l1_72 : GoodT rnL (cd0.drop 7) (F_E0n ++ lem_l1_72) T_E0n.toS none [] .leaf := by
  unfold GoodT
  rw [good_l1_72paths]
  simp only [List.forall_mem_cons]
  exact ⟨good_l1_72_0, fun _ h => absurd h List.not_mem_nil⟩
theorem good_l2_73paths : DT.paths .leaf = [[]] := by kernel_rfl
theorem good_l2_73 : GoodT rnL cd0 (facts2 ++ lem_l2_73) st2 none [] .leaf := by
  unfold GoodT
  rw [good_l2_73paths]
  simp only [List.forall_mem_cons]
  exact ⟨good_l2_73_0, fun _ h => absurd h List.not_mem_nil⟩
theorem good_l3_74paths : DT.paths .leaf = [[]] := by kernel_rfl
theorem good_l3_74 : GoodT rnL (cd0.take 6) (facts3 ++ lem_l3_74) st3 (some ⟨T_A0, F_A0, [], []⟩) [] .leaf := by
  unfold GoodT
  rw [good_l3_74paths]
  simp only [List.forall_mem_cons]
  exact ⟨good_l3_74_0, fun _ h => absurd h List.not_mem_nil⟩
theorem good_l3_75paths : DT.paths .leaf = [[]] := by kernel_rfl
theorem good_l3_75 : GoodT rnL (cd1.take 2) (F_A0 ++ lem_l3_75) T_A0.toS aG38 [(0, ⟨T_E0, F_E0, [], []⟩)] .leaf := by
  unfold GoodT
  rw [good_l3_75paths]
  simp only [List.forall_mem_cons]
  exact ⟨good_l3_75_0, fun _ h => absurd h List.not_mem_nil⟩
theorem good_l3_76 : GoodT rnL ((cd2.take 8).drop 1) (F_B0 ++ lem_l3_76) aS39 aG40 aX41 aD49 := by
  unfold GoodT
  rw [aD49paths]
  simp only [List.forall_mem_cons]
  exact ⟨good_l3_76_0, good_l3_76_1, good_l3_76_2, good_l3_76_3, good_l3_76_4, good_l3_76_5, good_l3_76_6, good_l3_76_7, good_l3_76_8, good_l3_76_9, good_l3_76_10, good_l3_76_11, fun _ h => absurd h List.not_mem_nil⟩
theorem good_l3_77 : GoodT rnL ((cd2.take 8).drop 1) (F_B0 ++ lem_l3_77) aS42 aG40 aX41 aD49 := by
  unfold GoodT
  rw [aD49paths]
  simp only [List.forall_mem_cons]
  exact ⟨good_l3_77_0, good_l3_77_1, good_l3_77_2, good_l3_77_3, good_l3_77_4, good_l3_77_5, good_l3_77_6, good_l3_77_7, good_l3_77_8, good_l3_77_9, good_l3_77_10, good_l3_77_11, fun _ h => absurd h List.not_mem_nil⟩
theorem good_l3_78 : GoodT rnL ((cd2.take 8).drop 1) (F_B0 ++ lem_l3_78) aS43 aG40 aX41 aD49 := by
  unfold GoodT
  rw [aD49paths]
  simp only [List.forall_mem_cons]
  exact ⟨good_l3_78_0, good_l3_78_1, good_l3_78_2, good_l3_78_3, good_l3_78_4, good_l3_78_5, good_l3_78_6, good_l3_78_7, good_l3_78_8, good_l3_78_9, good_l3_78_10, good_l3_78_11, fun _ h => absurd h List.not_mem_nil⟩
theorem good_l3_79 : GoodT rnL ((cd2.take 8).drop 1) (F_B0 ++ lem_l3_79) aS44 aG40 aX41 aD49 := by
  unfold GoodT
  rw [aD49paths]
  simp only [List.forall_mem_cons]
  exact ⟨good_l3_79_0, good_l3_79_1, good_l3_79_2, good_l3_79_3, good_l3_79_4, good_l3_79_5, good_l3_79_6, good_l3_79_7, good_l3_79_8, good_l3_79_9, good_l3_79_10, good_l3_79_11, fun _ h => absurd h List.not_mem_nil⟩
theorem good_l3_80 : GoodT rnL cd3 (F_T00r1 ++ lem_l3_80) T_T00r1.toS aG45 aX46 aD50 := by
  unfold GoodT
  rw [aD50paths]
  simp only [List.forall_mem_cons]
  exact ⟨good_l3_80_0, good_l3_80_1, good_l3_80_2, good_l3_80_3, good_l3_80_4, good_l3_80_5, fun _ h => absurd h List.not_mem_nil⟩
theorem good_l3_81 : GoodT rnL cd3 (F_T00r8 ++ lem_l3_81) T_T00r8.toS aG45 aX46 aD50 := by
  unfold GoodT
  rw [aD50paths]
  simp only [List.forall_mem_cons]
  exact ⟨good_l3_81_0, good_l3_81_1, good_l3_81_2, good_l3_81_3, good_l3_81_4, good_l3_81_5, fun _ h => absurd h List.not_mem_nil⟩
theorem good_l3_82 : GoodT rnL cd3 (F_T00w1 ++ lem_l3_82) T_T00w1.toS aG45 aX46 aD50 := by
  unfold GoodT
  rw [aD50paths]
  simp only [List.forall_mem_cons]
  exact ⟨good_l3_82_0, good_l3_82_1, good_l3_82_2, good_l3_82_3, good_l3_82_4, good_l3_82_5, fun _ h => absurd h List.not_mem_nil⟩
theorem good_l3_83 : GoodT rnL cd3 (F_T00w8 ++ lem_l3_83) T_T00w8.toS aG45 aX46 aD50 := by
  unfold GoodT
  rw [aD50paths]
  simp only [List.forall_mem_cons]
  exact ⟨good_l3_83_0, good_l3_83_1, good_l3_83_2, good_l3_83_3, good_l3_83_4, good_l3_83_5, fun _ h => absurd h List.not_mem_nil⟩
theorem good_l3_84 : GoodT rnL cd3 (F_T01r1 ++ lem_l3_84) T_T01r1.toS aG45 aX46 aD50 := by
  unfold GoodT
  rw [aD50paths]
  simp only [List.forall_mem_cons]
  exact ⟨good_l3_84_0, good_l3_84_1, good_l3_84_2, good_l3_84_3, good_l3_84_4, good_l3_84_5, fun _ h => absurd h List.not_mem_nil⟩
theorem good_l3_85 : GoodT rnL cd3 (F_T01r8 ++ lem_l3_85) T_T01r8.toS aG45 aX46 aD50 := by
  unfold GoodT
  rw [aD50paths]
  simp only [List.forall_mem_cons]
  exact ⟨good_l3_85_0, good_l3_85_1, good_l3_85_2, good_l3_85_3, good_l3_85_4, good_l3_85_5, fun _ h => absurd h List.not_mem_nil⟩
theorem good_l3_86 : GoodT rnL cd3 (F_T01w1 ++ lem_l3_86) T_T01w1.toS aG45 aX46 aD50 := by
  unfold GoodT
  rw [aD50paths]
  simp only [List.forall_mem_cons]
  exact ⟨good_l3_86_0, good_l3_86_1, good_l3_86_2, good_l3_86_3, good_l3_86_4, good_l3_86_5, fun _ h => absurd h List.not_mem_nil⟩
theorem good_l3_87 : GoodT rnL cd3 (F_T01w8 ++ lem_l3_87) T_T01w8.toS aG45 aX46 aD50 := by
  unfold GoodT
  rw [aD50paths]
  simp only [List.forall_mem_cons]
  exact ⟨good_l3_87_0, good_l3_87_1, good_l3_87_2, good_l3_87_3, good_l3_87_4, good_l3_87_5, fun _ h => absurd h List.not_mem_nil⟩
theorem good_l3_88 : GoodT rnL cd3 (F_T02r1 ++ lem_l3_88) T_T02r1.toS aG45 aX46 aD50 := by
  unfold GoodT
  rw [aD50paths]
  simp only [List.forall_mem_cons]
  exact ⟨good_l3_88_0, good_l3_88_1, good_l3_88_2, good_l3_88_3, good_l3_88_4, good_l3_88_5, fun _ h => absurd h List.not_mem_nil⟩
theorem good_l3_89 : GoodT rnL cd3 (F_T02r8 ++ lem_l3_89) T_T02r8.toS aG45 aX46 aD50 := by
  unfold GoodT
  rw [aD50paths]
  simp only [List.forall_mem_cons]
  exact ⟨good_l3_89_0, good_l3_89_1, good_l3_89_2, good_l3_89_3, good_l3_89_4, good_l3_89_5, fun _ h => absurd h List.not_mem_nil⟩
theorem good_l3_90 : GoodT rnL cd3 (F_T02w1 ++ lem_l3_90) T_T02w1.toS aG45 aX46 aD50 := by
  unfold GoodT
  rw [aD50paths]
  simp only [List.forall_mem_cons]
  exact ⟨good_l3_90_0, good_l3_90_1, good_l3_90_2, good_l3_90_3, good_l3_90_4, good_l3_90_5, fun _ h => absurd h List.not_mem_nil⟩
theorem good_l3_91 : GoodT rnL cd3 (F_T02w8 ++ lem_l3_91) T_T02w8.toS aG45 aX46 aD50 := by
  unfold GoodT
  rw [aD50paths]
  simp only [List.forall_mem_cons]
  exact ⟨good_l3_91_0, good_l3_91_1, good_l3_91_2, good_l3_91_3, good_l3_91_4, good_l3_91_5, fun _ h => absurd h List.not_mem_nil⟩
theorem good_l3_92 : GoodT rnL cd3 (F_T03r1 ++ lem_l3_92) T_T03r1.toS aG45 aX46 aD50 := by
  unfold GoodT
  rw [aD50paths]
  simp only [List.forall_mem_cons]
  exact ⟨good_l3_92_0, good_l3_92_1, good_l3_92_2, good_l3_92_3, good_l3_92_4, good_l3_92_5, fun _ h => absurd h List.not_mem_nil⟩
theorem good_l3_93 : GoodT rnL cd3 (F_T03r8 ++ lem_l3_93) T_T03r8.toS aG45 aX46 aD50 := by
  unfold GoodT
  rw [aD50paths]
  simp only [List.forall_mem_cons]
  exact ⟨good_l3_93_0, good_l3_93_1, good_l3_93_2, good_l3_93_3, good_l3_93_4, good_l3_93_5, fun _ h => absurd h List.not_mem_nil⟩
theorem good_l3_94 : GoodT rnL cd3 (F_T03w1 ++ lem_l3_94) T_T03w1.toS aG45 aX46 aD50 := by
  unfold GoodT
  rw [aD50paths]
  simp only [List.forall_mem_cons]
  exact ⟨good_l3_94_0, good_l3_94_1, good_l3_94_2, good_l3_94_3, good_l3_94_4, good_l3_94_5, fun _ h => absurd h List.not_mem_nil⟩
theorem good_l3_95 : GoodT rnL cd3 (F_T03w8 ++ lem_l3_95) T_T03w8.toS aG45 aX46 aD50 := by
  unfold GoodT
  rw [aD50paths]
  simp only [List.forall_mem_cons]
  exact ⟨good_l3_95_0, good_l3_95_1, good_l3_95_2, good_l3_95_3, good_l3_95_4, good_l3_95_5, fun _ h => absurd h List.not_mem_nil⟩
theorem good_l3_96 : GoodT rnL cd3 (F_T10r1 ++ lem_l3_96) T_T10r1.toS aG45 aX46 aD50 := by
  unfold GoodT
  rw [aD50paths]
  simp only [List.forall_mem_cons]
  exact ⟨good_l3_96_0, good_l3_96_1, good_l3_96_2, good_l3_96_3, good_l3_96_4, good_l3_96_5, fun _ h => absurd h List.not_mem_nil⟩
theorem good_l3_97 : GoodT rnL cd3 (F_T10r8 ++ lem_l3_97) T_T10r8.toS aG45 aX46 aD50 := by
  unfold GoodT
  rw [aD50paths]
  simp only [List.forall_mem_cons]
  exact ⟨good_l3_97_0, good_l3_97_1, good_l3_97_2, good_l3_97_3, good_l3_97_4, good_l3_97_5, fun _ h => absurd h List.not_mem_nil⟩
theorem good_l3_98 : GoodT rnL cd3 (F_T10w1 ++ lem_l3_98) T_T10w1.toS aG45 aX46 aD50 := by
  unfold GoodT
  rw [aD50paths]
  simp only [List.forall_mem_cons]
  exact ⟨good_l3_98_0, good_l3_98_1, good_l3_98_2, good_l3_98_3, good_l3_98_4, good_l3_98_5, fun _ h => absurd h List.not_mem_nil⟩
theorem good_l3_99 : GoodT rnL cd3 (F_T10w8 ++ lem_l3_99) T_T10w8.toS aG45 aX46 aD50 := by
  unfold GoodT
  rw [aD50paths]
  simp only [List.forall_mem_cons]
  exact ⟨good_l3_99_0, good_l3_99_1, good_l3_99_2, good_l3_99_3, good_l3_99_4, good_l3_99_5, fun _ h => absurd h List.not_mem_nil⟩
theorem good_l3_100 : GoodT rnL cd3 (F_T11r1 ++ lem_l3_100) T_T11r1.toS aG45 aX46 aD50 := by
  unfold GoodT
  rw [aD50paths]
  simp only [List.forall_mem_cons]
  exact ⟨good_l3_100_0, good_l3_100_1, good_l3_100_2, good_l3_100_3, good_l3_100_4, good_l3_100_5, fun _ h => absurd h List.not_mem_nil⟩
theorem good_l3_101 : GoodT rnL cd3 (F_T11r8 ++ lem_l3_101) T_T11r8.toS aG45 aX46 aD50 := by
  unfold GoodT
  rw [aD50paths]
  simp only [List.forall_mem_cons]
  exact ⟨good_l3_101_0, good_l3_101_1, good_l3_101_2, good_l3_101_3, good_l3_101_4, good_l3_101_5, fun _ h => absurd h List.not_mem_nil⟩
theorem good_l3_102 : GoodT rnL cd3 (F_T11w1 ++ lem_l3_102) T_T11w1.toS aG45 aX46 aD50 := by
  unfold GoodT
  rw [aD50paths]
  simp only [List.forall_mem_cons]
  exact ⟨good_l3_102_0, good_l3_102_1, good_l3_102_2, good_l3_102_3, good_l3_102_4, good_l3_102_5, fun _ h => absurd h List.not_mem_nil⟩
theorem good_l3_103 : GoodT rnL cd3 (F_T11w8 ++ lem_l3_103) T_T11w8.toS aG45 aX46 aD50 := by
  unfold GoodT
  rw [aD50paths]
  simp only [List.forall_mem_cons]
  exact ⟨good_l3_103_0, good_l3_103_1, good_l3_103_2, good_l3_103_3, good_l3_103_4, good_l3_103_5, fun _ h => absurd h List.not_mem_nil⟩
theorem good_l3_104 : GoodT rnL cd3 (F_T12r1 ++ lem_l3_104) T_T12r1.toS aG45 aX46 aD50 := by
  unfold GoodT
  rw [aD50paths]
  simp only [List.forall_mem_cons]
  exact ⟨good_l3_104_0, good_l3_104_1, good_l3_104_2, good_l3_104_3, good_l3_104_4, good_l3_104_5, fun _ h => absurd h List.not_mem_nil⟩
theorem good_l3_105 : GoodT rnL cd3 (F_T12r8 ++ lem_l3_105) T_T12r8.toS aG45 aX46 aD50 := by
  unfold GoodT
  rw [aD50paths]
  simp only [List.forall_mem_cons]
  exact ⟨good_l3_105_0, good_l3_105_1, good_l3_105_2, good_l3_105_3, good_l3_105_4, good_l3_105_5, fun _ h => absurd h List.not_mem_nil⟩
theorem good_l3_106 : GoodT rnL cd3 (F_T12w1 ++ lem_l3_106) T_T12w1.toS aG45 aX46 aD50 := by
  unfold GoodT
  rw [aD50paths]
  simp only [List.forall_mem_cons]
  exact ⟨good_l3_106_0, good_l3_106_1, good_l3_106_2, good_l3_106_3, good_l3_106_4, good_l3_106_5, fun _ h => absurd h List.not_mem_nil⟩
theorem good_l3_107 : GoodT rnL cd3 (F_T12w8 ++ lem_l3_107) T_T12w8.toS aG45 aX46 aD50 := by
  unfold GoodT
  rw [aD50paths]
  simp only [List.forall_mem_cons]
  exact ⟨good_l3_107_0, good_l3_107_1, good_l3_107_2, good_l3_107_3, good_l3_107_4, good_l3_107_5, fun _ h => absurd h List.not_mem_nil⟩
theorem good_l3_108 : GoodT rnL cd3 (F_T13r1 ++ lem_l3_108) T_T13r1.toS aG45 aX46 aD50 := by
  unfold GoodT
  rw [aD50paths]
  simp only [List.forall_mem_cons]
  exact ⟨good_l3_108_0, good_l3_108_1, good_l3_108_2, good_l3_108_3, good_l3_108_4, good_l3_108_5, fun _ h => absurd h List.not_mem_nil⟩
theorem good_l3_109 : GoodT rnL cd3 (F_T13r8 ++ lem_l3_109) T_T13r8.toS aG45 aX46 aD50 := by
  unfold GoodT
  rw [aD50paths]
  simp only [List.forall_mem_cons]
  exact ⟨good_l3_109_0, good_l3_109_1, good_l3_109_2, good_l3_109_3, good_l3_109_4, good_l3_109_5, fun _ h => absurd h List.not_mem_nil⟩
theorem good_l3_110 : GoodT rnL cd3 (F_T13w1 ++ lem_l3_110) T_T13w1.toS aG45 aX46 aD50 := by
  unfold GoodT
  rw [aD50paths]
  simp only [List.forall_mem_cons]
  exact ⟨good_l3_110_0, good_l3_110_1, good_l3_110_2, good_l3_110_3, good_l3_110_4, good_l3_110_5, fun _ h => absurd h List.not_mem_nil⟩
theorem good_l3_111 : GoodT rnL cd3 (F_T13w8 ++ lem_l3_111) T_T13w8.toS aG45 aX46 aD50 := by
  unfold GoodT
  rw [aD50paths]
  simp only [List.forall_mem_cons]
  exact ⟨good_l3_111_0, good_l3_111_1, good_l3_111_2, good_l3_111_3, good_l3_111_4, good_l3_111_5, fun _ h => absurd h List.not_mem_nil⟩
theorem good_l3_112 : GoodT rnL cd3 (F_T20r1 ++ lem_l3_112) T_T20r1.toS aG45 aX46 aD50 := by
  unfold GoodT
  rw [aD50paths]
  simp only [List.forall_mem_cons]
  exact ⟨good_l3_112_0, good_l3_112_1, good_l3_112_2, good_l3_112_3, good_l3_112_4, good_l3_112_5, fun _ h => absurd h List.not_mem_nil⟩
theorem good_l3_113 : GoodT rnL cd3 (F_T20r8 ++ lem_l3_113) T_T20r8.toS aG45 aX46 aD50 := by
  unfold GoodT
  rw [aD50paths]
  simp only [List.forall_mem_cons]
  exact ⟨good_l3_113_0, good_l3_113_1, good_l3_113_2, good_l3_113_3, good_l3_113_4, good_l3_113_5, fun _ h => absurd h List.not_mem_nil⟩
theorem good_l3_114 : GoodT rnL cd3 (F_T20w1 ++ lem_l3_114) T_T20w1.toS aG45 aX46 aD50 := by
  unfold GoodT
  rw [aD50paths]
  simp only [List.forall_mem_cons]
  exact ⟨good_l3_114_0, good_l3_114_1, good_l3_114_2, good_l3_114_3, good_l3_114_4, good_l3_114_5, fun _ h => absurd h List.not_mem_nil⟩
theorem good_l3_115 : GoodT rnL cd3 (F_T20w8 ++ lem_l3_115) T_T20w8.toS aG45 aX46 aD50 := by
  unfold GoodT
  rw [aD50paths]
  simp only [List.forall_mem_cons]
  exact ⟨good_l3_115_0, good_l3_115_1, good_l3_115_2, good_l3_115_3, good_l3_115_4, good_l3_115_5, fun _ h => absurd h List.not_mem_nil⟩
theorem good_l3_116 : GoodT rnL cd3 (F_T21r1 ++ lem_l3_116) T_T21r1.toS aG45 aX46 aD50 := by
  unfold GoodT
  rw [aD50paths]
  simp only [List.forall_mem_cons]
  exact ⟨good_l3_116_0, good_l3_116_1, good_l3_116_2, good_l3_116_3, good_l3_116_4, good_l3_116_5, fun _ h => absurd h List.not_mem_nil⟩
theorem good_l3_117 : GoodT rnL cd3 (F_T21r8 ++ lem_l3_117) T_T21r8.toS aG45 aX46 aD50 := by
  unfold GoodT
  rw [aD50paths]
  simp only [List.forall_mem_cons]
  exact ⟨good_l3_117_0, good_l3_117_1, good_l3_117_2, good_l3_117_3, good_l3_117_4, good_l3_117_5, fun _ h => absurd h List.not_mem_nil⟩
theorem good_l3_118 : GoodT rnL cd3 (F_T21w1 ++ lem_l3_118) T_T21w1.toS aG45 aX46 aD50 := by
  unfold GoodT
  rw [aD50paths]
  simp only [List.forall_mem_cons]
  exact ⟨good_l3_118_0, good_l3_118_1, good_l3_118_2, good_l3_118_3, good_l3_118_4, good_l3_118_5, fun _ h => absurd h List.not_mem_nil⟩
theorem good_l3_119 : GoodT rnL cd3 (F_T21w8 ++ lem_l3_119) T_T21w8.toS aG45 aX46 aD50 := by
  unfold GoodT
  rw [aD50paths]
  simp only [List.forall_mem_cons]
  exact ⟨good_l3_119_0, good_l3_119_1, good_l3_119_2, good_l3_119_3, good_l3_119_4, good_l3_119_5, fun _ h => absurd h List.not_mem_nil⟩
theorem good_l3_120 : GoodT rnL cd3 (F_T22r1 ++ lem_l3_120) T_T22r1.toS aG45 aX46 aD50 := by
  unfold GoodT
  rw [aD50paths]
  simp only [List.forall_mem_cons]
  exact ⟨good_l3_120_0, good_l3_120_1, good_l3_120_2, good_l3_120_3, good_l3_120_4, good_l3_120_5, fun _ h => absurd h List.not_mem_nil⟩
theorem good_l3_121 : GoodT rnL cd3 (F_T22r8 ++ lem_l3_121) T_T22r8.toS aG45 aX46 aD50 := by
  unfold GoodT
  rw [aD50paths]
  simp only [List.forall_mem_cons]
  exact ⟨good_l3_121_0, good_l3_121_1, good_l3_121_2, good_l3_121_3, good_l3_121_4, good_l3_121_5, fun _ h => absurd h List.not_mem_nil⟩
theorem good_l3_122 : GoodT rnL cd3 (F_T22w1 ++ lem_l3_122) T_T22w1.toS aG45 aX46 aD50 := by
  unfold GoodT
  rw [aD50paths]
  simp only [List.forall_mem_cons]
  exact ⟨good_l3_122_0, good_l3_122_1, good_l3_122_2, good_l3_122_3, good_l3_122_4, good_l3_122_5, fun _ h => absurd h List.not_mem_nil⟩
theorem good_l3_123 : GoodT rnL cd3 (F_T22w8 ++ lem_l3_123) T_T22w8.toS aG45 aX46 aD50 := by
  unfold GoodT
  rw [aD50paths]
  simp only [List.forall_mem_cons]
  exact ⟨good_l3_123_0, good_l3_123_1, good_l3_123_2, good_l3_123_3, good_l3_123_4, good_l3_123_5, fun _ h => absurd h List.not_mem_nil⟩
theorem good_l3_124 : GoodT rnL cd3 (F_T23r1 ++ lem_l3_124) T_T23r1.toS aG45 aX46 aD50 := by
  unfold GoodT
  rw [aD50paths]
  simp only [List.forall_mem_cons]
  exact ⟨good_l3_124_0, good_l3_124_1, good_l3_124_2, good_l3_124_3, good_l3_124_4, good_l3_124_5, fun _ h => absurd h List.not_mem_nil⟩
theorem good_l3_125 : GoodT rnL cd3 (F_T23r8 ++ lem_l3_125) T_T23r8.toS aG45 aX46 aD50 := by
  unfold GoodT
  rw [aD50paths]
  simp only [List.forall_mem_cons]
  exact ⟨good_l3_125_0, good_l3_125_1, good_l3_125_2, good_l3_125_3, good_l3_125_4, good_l3_125_5, fun _ h => absurd h List.not_mem_nil⟩
theorem good_l3_126 : GoodT rnL cd3 (F_T23w1 ++ lem_l3_126) T_T23w1.toS aG45 aX46 aD50 := by
  unfold GoodT
  rw [aD50paths]
  simp only [List.forall_mem_cons]
  exact ⟨good_l3_126_0, good_l3_126_1, good_l3_126_2, good_l3_126_3, good_l3_126_4, good_l3_126_5, fun _ h => absurd h List.not_mem_nil⟩
theorem good_l3_127 : GoodT rnL cd3 (F_T23w8 ++ lem_l3_127) T_T23w8.toS aG45 aX46 aD50 := by
  unfold GoodT
  rw [aD50paths]
  simp only [List.forall_mem_cons]
  exact ⟨good_l3_127_0, good_l3_127_1, good_l3_127_2, good_l3_127_3, good_l3_127_4, good_l3_127_5, fun _ h => absurd h List.not_mem_nil⟩
theorem good_l3_128 : GoodT rnL cd3 (F_Ue ++ lem_l3_128) T_Ue.toS aG45 aX46 aD51 := by
  unfold GoodT
  rw [aD51paths]
  simp only [List.forall_mem_cons]
  exact ⟨good_l3_128_0, good_l3_128_1, good_l3_128_2, fun _ h => absurd h List.not_mem_nil⟩
theorem good_l3_129 : GoodT rnL cd3 (F_Uw ++ lem_l3_129) T_Uw.toS aG45 aX46 aD51 := by
  unfold GoodT
  rw [aD51paths]
  simp only [List.forall_mem_cons]
  exact ⟨good_l3_129_0, good_l3_129_1, good_l3_129_2, fun _ h => absurd h List.not_mem_nil⟩
theorem good_l3_130 : GoodT rnL cd3 (F_Ur ++ lem_l3_130) T_Ur.toS aG45 aX46 aD51 := by
  unfold GoodT
  rw [aD51paths]
  simp only [List.forall_mem_cons]
  exact ⟨good_l3_130_0, good_l3_130_1, good_l3_130_2, fun _ h => absurd h List.not_mem_nil⟩
theorem good_l3_131 : GoodT rnL cd3 (F_UR ++ lem_l3_131) T_UR.toS aG45 aX46 aD51 := by
  unfold GoodT
  rw [aD51paths]
  simp only [List.forall_mem_cons]
  exact ⟨good_l3_131_0, good_l3_131_1, good_l3_131_2, fun _ h => absurd h List.not_mem_nil⟩
theorem good_l3_132paths : DT.paths .leaf = [[]] := by kernel_rfl
theorem good_l3_132 : GoodT rnL (cd2.drop 9) (F_Ve ++ lem_l3_132) T_Ve.toS aG47 aX41 .leaf := by
  unfold GoodT
  rw [good_l3_132paths]
  simp only [List.forall_mem_cons]
  exact ⟨good_l3_132_0, fun _ h => absurd h List.not_mem_nil⟩
theorem good_l3_133paths : DT.paths .leaf = [[]] := by kernel_rfl
theorem good_l3_133 : GoodT rnL (cd2.drop 9) (F_Vw ++ lem_l3_133) T_Vw.toS aG47 aX41 .leaf := by
  unfold GoodT
  rw [good_l3_133paths]
  simp only [List.forall_mem_cons]
  exact ⟨good_l3_133_0, fun _ h => absurd h List.not_mem_nil⟩
theorem good_l3_134paths : DT.paths .leaf = [[]] := by kernel_rfl
theorem good_l3_134 : GoodT rnL (cd2.drop 9) (F_Vr ++ lem_l3_134) T_Vr.toS aG47 aX41 .leaf := by
  unfold GoodT
  rw [good_l3_134paths]
  simp only [List.forall_mem_cons]
  exact ⟨good_l3_134_0, fun _ h => absurd h List.not_mem_nil⟩
theorem good_l3_135paths : DT.paths .leaf = [[]] := by kernel_rfl
theorem good_l3_135 : GoodT rnL (cd2.drop 9) (F_VR ++ lem_l3_135) T_VR.toS aG47 aX41 .leaf := by
  unfold GoodT
  rw [good_l3_135paths]
  simp only [List.forall_mem_cons]
  exact ⟨good_l3_135_0, fun _ h => absurd h List.not_mem_nil⟩
theorem good_l3_136paths : DT.paths .leaf = [[]] := by kernel_rfl
theorem good_l3_136 : GoodT rnL (cd1.drop 3) (F_C0 ++ lem_l3_136) T_C0.toS aG48 [(0, ⟨T_E0, F_E0, [], []⟩)] .leaf := by
  unfold GoodT
  rw [good_l3_136paths]
  simp only [List.forall_mem_cons]
  exact ⟨good_l3_136_0, fun _ h => absurd h List.not_mem_nil⟩
theorem good_l3_137paths : DT.paths .leaf = [[]] := by kernel_rfl
theorem good_l3_137 : GoodT rnL (cd0.drop 7) (F_E0 ++ lem_l3_137) T_E0.toS none [] .leaf := by
  unfold GoodT
  rw [good_l3_137paths]
  simp only [List.forall_mem_cons]
  exact ⟨good_l3_137_0, fun _ h => absurd h List.not_mem_nil⟩
theorem rfl0 : rowFl askC = [[1, 1], [2, 1], [1, 2], [2, 2]] := by kernel_rfl
theorem rp0_0 : (oneRun rnL (((regOps (cd2.take 8) 0).take 3) ++ (regOp (cd2.take 8) 0 3) :: ((regOps (cd2.take 8) 0).drop 4)) ((regOps (cd2.take 8) 0).drop 4) F_B0n (rowState (oneS rnL (((regOps (cd2.take 8) 0).take 3) ++ (regOp (cd2.take 8) 0 3) :: ((regOps (cd2.take 8) 0).drop 4)) ((regOps (cd2.take 8) 0).take 3) F_B0n T_B0n.toS) 48 (.var 110) askC [1, 1])).isSome = true := by kernel_rfl
theorem rp0_1 : (oneRun rnL (((regOps (cd2.take 8) 0).take 3) ++ (regOp (cd2.take 8) 0 3) :: ((regOps (cd2.take 8) 0).drop 4)) ((regOps (cd2.take 8) 0).drop 4) F_B0n (rowState (oneS rnL (((regOps (cd2.take 8) 0).take 3) ++ (regOp (cd2.take 8) 0 3) :: ((regOps (cd2.take 8) 0).drop 4)) ((regOps (cd2.take 8) 0).take 3) F_B0n T_B0n.toS) 48 (.var 110) askC [2, 1])).isSome = true := by kernel_rfl
theorem rp0_2 : (oneRun rnL (((regOps (cd2.take 8) 0).take 3) ++ (regOp (cd2.take 8) 0 3) :: ((regOps (cd2.take 8) 0).drop 4)) ((regOps (cd2.take 8) 0).drop 4) F_B0n (rowState (oneS rnL (((regOps (cd2.take 8) 0).take 3) ++ (regOp (cd2.take 8) 0 3) :: ((regOps (cd2.take 8) 0).drop 4)) ((regOps (cd2.take 8) 0).take 3) F_B0n T_B0n.toS) 48 (.var 110) askC [1, 2])).isSome = true := by kernel_rfl
theorem rp0_3 : (oneRun rnL (((regOps (cd2.take 8) 0).take 3) ++ (regOp (cd2.take 8) 0 3) :: ((regOps (cd2.take 8) 0).drop 4)) ((regOps (cd2.take 8) 0).drop 4) F_B0n (rowState (oneS rnL (((regOps (cd2.take 8) 0).take 3) ++ (regOp (cd2.take 8) 0 3) :: ((regOps (cd2.take 8) 0).drop 4)) ((regOps (cd2.take 8) 0).take 3) F_B0n T_B0n.toS) 48 (.var 110) askC [2, 2])).isSome = true := by kernel_rfl
theorem rq0 : (oneRun rnL (((regOps (cd2.take 8) 0).take 3) ++ (regOp (cd2.take 8) 0 3) :: ((regOps (cd2.take 8) 0).drop 4)) ((regOps (cd2.take 8) 0).take 3) F_B0n T_B0n.toS).isSome = true := by kernel_rfl
theorem rs0 : (oneS rnL (((regOps (cd2.take 8) 0).take 3) ++ (regOp (cd2.take 8) 0 3) :: ((regOps (cd2.take 8) 0).drop 4)) ((regOps (cd2.take 8) 0).take 3) F_B0n T_B0n.toS).slots.get 47 = some (.v (.one (.tptr 0 (List.length askC) (.var 110) 0))) := by kernel_rfl
theorem rt0 : (TI.of Try.prog 35).isSome = true := by kernel_rfl
theorem hl1 : (cd2.take 8)[0]? = some (.region 8 (((regOps (cd2.take 8) 0).take 3) ++ (regOp (cd2.take 8) 0 3) :: ((regOps (cd2.take 8) 0).drop 4)).toArray false) := by kernel_rfl
theorem hl2 : cd2[8]? = some (.block 2 (.loop (loopBody cd2 8))) := by kernel_rfl
theorem hl3 : cd1[2]? = some (.block 1 (blockBody cd1 2)) := by kernel_rfl
theorem hl4 : cd0[6]? = some (.block 0 (.loop (loopBody cd0 6))) := by kernel_rfl
theorem rfl5 : rowFl askC = [[1, 1], [2, 1], [1, 2], [2, 2]] := by kernel_rfl
theorem rp5_0 : (oneRun rnL (((regOps (cd2.take 8) 0).take 3) ++ (regOp (cd2.take 8) 0 3) :: ((regOps (cd2.take 8) 0).drop 4)) ((regOps (cd2.take 8) 0).drop 4) F_B0 (rowState (oneS rnL (((regOps (cd2.take 8) 0).take 3) ++ (regOp (cd2.take 8) 0 3) :: ((regOps (cd2.take 8) 0).drop 4)) ((regOps (cd2.take 8) 0).take 3) F_B0 T_B0.toS) 48 (.var 110) askC [1, 1])).isSome = true := by kernel_rfl
theorem rp5_1 : (oneRun rnL (((regOps (cd2.take 8) 0).take 3) ++ (regOp (cd2.take 8) 0 3) :: ((regOps (cd2.take 8) 0).drop 4)) ((regOps (cd2.take 8) 0).drop 4) F_B0 (rowState (oneS rnL (((regOps (cd2.take 8) 0).take 3) ++ (regOp (cd2.take 8) 0 3) :: ((regOps (cd2.take 8) 0).drop 4)) ((regOps (cd2.take 8) 0).take 3) F_B0 T_B0.toS) 48 (.var 110) askC [2, 1])).isSome = true := by kernel_rfl
theorem rp5_2 : (oneRun rnL (((regOps (cd2.take 8) 0).take 3) ++ (regOp (cd2.take 8) 0 3) :: ((regOps (cd2.take 8) 0).drop 4)) ((regOps (cd2.take 8) 0).drop 4) F_B0 (rowState (oneS rnL (((regOps (cd2.take 8) 0).take 3) ++ (regOp (cd2.take 8) 0 3) :: ((regOps (cd2.take 8) 0).drop 4)) ((regOps (cd2.take 8) 0).take 3) F_B0 T_B0.toS) 48 (.var 110) askC [1, 2])).isSome = true := by kernel_rfl
theorem rp5_3 : (oneRun rnL (((regOps (cd2.take 8) 0).take 3) ++ (regOp (cd2.take 8) 0 3) :: ((regOps (cd2.take 8) 0).drop 4)) ((regOps (cd2.take 8) 0).drop 4) F_B0 (rowState (oneS rnL (((regOps (cd2.take 8) 0).take 3) ++ (regOp (cd2.take 8) 0 3) :: ((regOps (cd2.take 8) 0).drop 4)) ((regOps (cd2.take 8) 0).take 3) F_B0 T_B0.toS) 48 (.var 110) askC [2, 2])).isSome = true := by kernel_rfl
theorem rq5 : (oneRun rnL (((regOps (cd2.take 8) 0).take 3) ++ (regOp (cd2.take 8) 0 3) :: ((regOps (cd2.take 8) 0).drop 4)) ((regOps (cd2.take 8) 0).take 3) F_B0 T_B0.toS).isSome = true := by kernel_rfl
theorem rs5 : (oneS rnL (((regOps (cd2.take 8) 0).take 3) ++ (regOp (cd2.take 8) 0 3) :: ((regOps (cd2.take 8) 0).drop 4)) ((regOps (cd2.take 8) 0).take 3) F_B0 T_B0.toS).slots.get 47 = some (.v (.one (.tptr 0 (List.length askC) (.var 110) 0))) := by kernel_rfl
theorem rt5 : (TI.of Try.prog 35).isSome = true := by kernel_rfl
theorem hl6 : (cd2.take 8)[0]? = some (.region 8 (((regOps (cd2.take 8) 0).take 3) ++ (regOp (cd2.take 8) 0 3) :: ((regOps (cd2.take 8) 0).drop 4)).toArray false) := by kernel_rfl
theorem hl7 : cd2[8]? = some (.block 2 (.loop (loopBody cd2 8))) := by kernel_rfl
theorem hl8 : cd1[2]? = some (.block 1 (blockBody cd1 2)) := by kernel_rfl
theorem hl9 : cd0[6]? = some (.block 0 (.loop (loopBody cd0 6))) := by kernel_rfl
theorem hC_c_awake_0 {C : Ctx} (h : C.n0 = ct_awake.nx) : LabsOk C (some ct_awake.R) none [] := by
  refine ⟨fun g hg => ?_, fun i g hg => ?_, ?_⟩
  · first | cases hg; done | (cases hg; rw [h]; intro p hp; rcases List.mem_cons.1 hp with rfl | hp; decide; cases hp)
  · simp only [tgtOf] at hg; first | (cases hg; done) | (repeat' split at hg <;> first | (cases hg; done) | (cases hg; rw [h]; intro p hp; rcases List.mem_cons.1 hp with rfl | hp; decide; cases hp))
  · show C.n0 ≤ _; rw [h]; decide
theorem hC_c_serve8_1 {C : Ctx} (h : C.n0 = ct_serve8.nx) : LabsOk C (some ct_serve8.R) none [] := by
  refine ⟨fun g hg => ?_, fun i g hg => ?_, ?_⟩
  · first | cases hg; done | (cases hg; rw [h]; intro p hp; rcases List.mem_cons.1 hp with rfl | hp; decide; cases hp)
  · simp only [tgtOf] at hg; first | (cases hg; done) | (repeat' split at hg <;> first | (cases hg; done) | (cases hg; rw [h]; intro p hp; rcases List.mem_cons.1 hp with rfl | hp; decide; cases hp))
  · show C.n0 ≤ _; rw [h]; decide
theorem hC_c_clb0_2 {C : Ctx} (h : C.n0 = ct_clb0.nx) : LabsOk C (some ct_clb0.R) none [] := by
  refine ⟨fun g hg => ?_, fun i g hg => ?_, ?_⟩
  · first | cases hg; done | (cases hg; rw [h]; intro p hp; rcases List.mem_cons.1 hp with rfl | hp; decide; cases hp)
  · simp only [tgtOf] at hg; first | (cases hg; done) | (repeat' split at hg <;> first | (cases hg; done) | (cases hg; rw [h]; intro p hp; rcases List.mem_cons.1 hp with rfl | hp; decide; cases hp))
  · show C.n0 ≤ _; rw [h]; decide
theorem hC_c_clb1_3 {C : Ctx} (h : C.n0 = ct_clb1.nx) : LabsOk C (some ct_clb1.R) none [] := by
  refine ⟨fun g hg => ?_, fun i g hg => ?_, ?_⟩
  · first | cases hg; done | (cases hg; rw [h]; intro p hp; rcases List.mem_cons.1 hp with rfl | hp; decide; cases hp)
  · simp only [tgtOf] at hg; first | (cases hg; done) | (repeat' split at hg <;> first | (cases hg; done) | (cases hg; rw [h]; intro p hp; rcases List.mem_cons.1 hp with rfl | hp; decide; cases hp))
  · show C.n0 ≤ _; rw [h]; decide
theorem hC_c_clb2_4 {C : Ctx} (h : C.n0 = ct_clb2.nx) : LabsOk C (some ct_clb2.R) none [] := by
  refine ⟨fun g hg => ?_, fun i g hg => ?_, ?_⟩
  · first | cases hg; done | (cases hg; rw [h]; intro p hp; rcases List.mem_cons.1 hp with rfl | hp; decide; cases hp)
  · simp only [tgtOf] at hg; first | (cases hg; done) | (repeat' split at hg <;> first | (cases hg; done) | (cases hg; rw [h]; intro p hp; rcases List.mem_cons.1 hp with rfl | hp; decide; cases hp))
  · show C.n0 ≤ _; rw [h]; decide
theorem hC_c_clt0_5 {C : Ctx} (h : C.n0 = ct_clt0.nx) : LabsOk C (some ct_clt0.R) none [] := by
  refine ⟨fun g hg => ?_, fun i g hg => ?_, ?_⟩
  · first | cases hg; done | (cases hg; rw [h]; intro p hp; rcases List.mem_cons.1 hp with rfl | hp; decide; cases hp)
  · simp only [tgtOf] at hg; first | (cases hg; done) | (repeat' split at hg <;> first | (cases hg; done) | (cases hg; rw [h]; intro p hp; rcases List.mem_cons.1 hp with rfl | hp; decide; cases hp))
  · show C.n0 ≤ _; rw [h]; decide
theorem hC_c_clt1_6 {C : Ctx} (h : C.n0 = ct_clt1.nx) : LabsOk C (some ct_clt1.R) none [] := by
  refine ⟨fun g hg => ?_, fun i g hg => ?_, ?_⟩
  · first | cases hg; done | (cases hg; rw [h]; intro p hp; rcases List.mem_cons.1 hp with rfl | hp; decide; cases hp)
  · simp only [tgtOf] at hg; first | (cases hg; done) | (repeat' split at hg <;> first | (cases hg; done) | (cases hg; rw [h]; intro p hp; rcases List.mem_cons.1 hp with rfl | hp; decide; cases hp))
  · show C.n0 ≤ _; rw [h]; decide
theorem hC_c_clt2_7 {C : Ctx} (h : C.n0 = ct_clt2.nx) : LabsOk C (some ct_clt2.R) none [] := by
  refine ⟨fun g hg => ?_, fun i g hg => ?_, ?_⟩
  · first | cases hg; done | (cases hg; rw [h]; intro p hp; rcases List.mem_cons.1 hp with rfl | hp; decide; cases hp)
  · simp only [tgtOf] at hg; first | (cases hg; done) | (repeat' split at hg <;> first | (cases hg; done) | (cases hg; rw [h]; intro p hp; rcases List.mem_cons.1 hp with rfl | hp; decide; cases hp))
  · show C.n0 ≤ _; rw [h]; decide
theorem hC_l0_8 {C : Ctx} (h : C.n0 = 2) : LabsOk C none none [] := labsOk_of h (by kernel_rfl) (by kernel_rfl)
theorem hC_l1_9 {C : Ctx} (h : C.n0 = 2) : LabsOk C none (some ⟨T_A0n, F_A0n, [], []⟩) [] := labsOk_of h (by kernel_rfl) (by kernel_rfl)
theorem hC_l1_10 {C : Ctx} (h : C.n0 = 2) : LabsOk C none aG0 [(0, ⟨T_E0n, F_E0n, [], []⟩)] := labsOk_of h (by kernel_rfl) (by kernel_rfl)
theorem hC_l1_11 {C : Ctx} (h : C.n0 = 2) : LabsOk C none aG2 aX3 := labsOk_of h (by kernel_rfl) (by kernel_rfl)
theorem hC_l1_12 {C : Ctx} (h : C.n0 = 2) : LabsOk C none aG2 aX3 := labsOk_of h (by kernel_rfl) (by kernel_rfl)
theorem hC_l1_13 {C : Ctx} (h : C.n0 = 2) : LabsOk C none aG2 aX3 := labsOk_of h (by kernel_rfl) (by kernel_rfl)
theorem hC_l1_14 {C : Ctx} (h : C.n0 = 2) : LabsOk C none aG2 aX3 := labsOk_of h (by kernel_rfl) (by kernel_rfl)
theorem hC_l1_15 {C : Ctx} (h : C.n0 = 2) : LabsOk C none aG19 aX20 := labsOk_of h (by kernel_rfl) (by kernel_rfl)
theorem hC_l1_16 {C : Ctx} (h : C.n0 = 2) : LabsOk C none aG19 aX20 := labsOk_of h (by kernel_rfl) (by kernel_rfl)
theorem hC_l1_17 {C : Ctx} (h : C.n0 = 2) : LabsOk C none aG19 aX20 := labsOk_of h (by kernel_rfl) (by kernel_rfl)
theorem hC_l1_18 {C : Ctx} (h : C.n0 = 2) : LabsOk C none aG19 aX20 := labsOk_of h (by kernel_rfl) (by kernel_rfl)
theorem hC_l1_19 {C : Ctx} (h : C.n0 = 2) : LabsOk C none aG19 aX20 := labsOk_of h (by kernel_rfl) (by kernel_rfl)
theorem hC_l1_20 {C : Ctx} (h : C.n0 = 2) : LabsOk C none aG19 aX20 := labsOk_of h (by kernel_rfl) (by kernel_rfl)
theorem hC_l1_21 {C : Ctx} (h : C.n0 = 2) : LabsOk C none aG19 aX20 := labsOk_of h (by kernel_rfl) (by kernel_rfl)
theorem hC_l1_22 {C : Ctx} (h : C.n0 = 2) : LabsOk C none aG19 aX20 := labsOk_of h (by kernel_rfl) (by kernel_rfl)
theorem hC_l1_23 {C : Ctx} (h : C.n0 = 2) : LabsOk C none aG19 aX20 := labsOk_of h (by kernel_rfl) (by kernel_rfl)
theorem hC_l1_24 {C : Ctx} (h : C.n0 = 2) : LabsOk C none aG19 aX20 := labsOk_of h (by kernel_rfl) (by kernel_rfl)
theorem hC_l1_25 {C : Ctx} (h : C.n0 = 2) : LabsOk C none aG19 aX20 := labsOk_of h (by kernel_rfl) (by kernel_rfl)
theorem hC_l1_26 {C : Ctx} (h : C.n0 = 2) : LabsOk C none aG19 aX20 := labsOk_of h (by kernel_rfl) (by kernel_rfl)
theorem hC_l1_27 {C : Ctx} (h : C.n0 = 2) : LabsOk C none aG19 aX20 := labsOk_of h (by kernel_rfl) (by kernel_rfl)
theorem hC_l1_28 {C : Ctx} (h : C.n0 = 2) : LabsOk C none aG19 aX20 := labsOk_of h (by kernel_rfl) (by kernel_rfl)
theorem hC_l1_29 {C : Ctx} (h : C.n0 = 2) : LabsOk C none aG19 aX20 := labsOk_of h (by kernel_rfl) (by kernel_rfl)
theorem hC_l1_30 {C : Ctx} (h : C.n0 = 2) : LabsOk C none aG19 aX20 := labsOk_of h (by kernel_rfl) (by kernel_rfl)
theorem hC_l1_31 {C : Ctx} (h : C.n0 = 2) : LabsOk C none aG19 aX20 := labsOk_of h (by kernel_rfl) (by kernel_rfl)
theorem hC_l1_32 {C : Ctx} (h : C.n0 = 2) : LabsOk C none aG19 aX20 := labsOk_of h (by kernel_rfl) (by kernel_rfl)
theorem hC_l1_33 {C : Ctx} (h : C.n0 = 2) : LabsOk C none aG19 aX20 := labsOk_of h (by kernel_rfl) (by kernel_rfl)
theorem hC_l1_34 {C : Ctx} (h : C.n0 = 2) : LabsOk C none aG19 aX20 := labsOk_of h (by kernel_rfl) (by kernel_rfl)
theorem hC_l1_35 {C : Ctx} (h : C.n0 = 2) : LabsOk C none aG19 aX20 := labsOk_of h (by kernel_rfl) (by kernel_rfl)
theorem hC_l1_36 {C : Ctx} (h : C.n0 = 2) : LabsOk C none aG19 aX20 := labsOk_of h (by kernel_rfl) (by kernel_rfl)
theorem hC_l1_37 {C : Ctx} (h : C.n0 = 2) : LabsOk C none aG19 aX20 := labsOk_of h (by kernel_rfl) (by kernel_rfl)
theorem hC_l1_38 {C : Ctx} (h : C.n0 = 2) : LabsOk C none aG19 aX20 := labsOk_of h (by kernel_rfl) (by kernel_rfl)
theorem hC_l1_39 {C : Ctx} (h : C.n0 = 2) : LabsOk C none aG19 aX20 := labsOk_of h (by kernel_rfl) (by kernel_rfl)
theorem hC_l1_40 {C : Ctx} (h : C.n0 = 2) : LabsOk C none aG19 aX20 := labsOk_of h (by kernel_rfl) (by kernel_rfl)
theorem hC_l1_41 {C : Ctx} (h : C.n0 = 2) : LabsOk C none aG19 aX20 := labsOk_of h (by kernel_rfl) (by kernel_rfl)
theorem hC_l1_42 {C : Ctx} (h : C.n0 = 2) : LabsOk C none aG19 aX20 := labsOk_of h (by kernel_rfl) (by kernel_rfl)
theorem hC_l1_43 {C : Ctx} (h : C.n0 = 2) : LabsOk C none aG19 aX20 := labsOk_of h (by kernel_rfl) (by kernel_rfl)
theorem hC_l1_44 {C : Ctx} (h : C.n0 = 2) : LabsOk C none aG19 aX20 := labsOk_of h (by kernel_rfl) (by kernel_rfl)
theorem hC_l1_45 {C : Ctx} (h : C.n0 = 2) : LabsOk C none aG19 aX20 := labsOk_of h (by kernel_rfl) (by kernel_rfl)
theorem hC_l1_46 {C : Ctx} (h : C.n0 = 2) : LabsOk C none aG19 aX20 := labsOk_of h (by kernel_rfl) (by kernel_rfl)
theorem hC_l1_47 {C : Ctx} (h : C.n0 = 2) : LabsOk C none aG19 aX20 := labsOk_of h (by kernel_rfl) (by kernel_rfl)
theorem hC_l1_48 {C : Ctx} (h : C.n0 = 2) : LabsOk C none aG19 aX20 := labsOk_of h (by kernel_rfl) (by kernel_rfl)
theorem hC_l1_49 {C : Ctx} (h : C.n0 = 2) : LabsOk C none aG19 aX20 := labsOk_of h (by kernel_rfl) (by kernel_rfl)
theorem hC_l1_50 {C : Ctx} (h : C.n0 = 2) : LabsOk C none aG19 aX20 := labsOk_of h (by kernel_rfl) (by kernel_rfl)
theorem hC_l1_51 {C : Ctx} (h : C.n0 = 2) : LabsOk C none aG19 aX20 := labsOk_of h (by kernel_rfl) (by kernel_rfl)
theorem hC_l1_52 {C : Ctx} (h : C.n0 = 2) : LabsOk C none aG19 aX20 := labsOk_of h (by kernel_rfl) (by kernel_rfl)
theorem hC_l1_53 {C : Ctx} (h : C.n0 = 2) : LabsOk C none aG19 aX20 := labsOk_of h (by kernel_rfl) (by kernel_rfl)
theorem hC_l1_54 {C : Ctx} (h : C.n0 = 2) : LabsOk C none aG19 aX20 := labsOk_of h (by kernel_rfl) (by kernel_rfl)
theorem hC_l1_55 {C : Ctx} (h : C.n0 = 2) : LabsOk C none aG19 aX20 := labsOk_of h (by kernel_rfl) (by kernel_rfl)
theorem hC_l1_56 {C : Ctx} (h : C.n0 = 2) : LabsOk C none aG19 aX20 := labsOk_of h (by kernel_rfl) (by kernel_rfl)
theorem hC_l1_57 {C : Ctx} (h : C.n0 = 2) : LabsOk C none aG19 aX20 := labsOk_of h (by kernel_rfl) (by kernel_rfl)
theorem hC_l1_58 {C : Ctx} (h : C.n0 = 2) : LabsOk C none aG19 aX20 := labsOk_of h (by kernel_rfl) (by kernel_rfl)
theorem hC_l1_59 {C : Ctx} (h : C.n0 = 2) : LabsOk C none aG19 aX20 := labsOk_of h (by kernel_rfl) (by kernel_rfl)
theorem hC_l1_60 {C : Ctx} (h : C.n0 = 2) : LabsOk C none aG19 aX20 := labsOk_of h (by kernel_rfl) (by kernel_rfl)
theorem hC_l1_61 {C : Ctx} (h : C.n0 = 2) : LabsOk C none aG19 aX20 := labsOk_of h (by kernel_rfl) (by kernel_rfl)
theorem hC_l1_62 {C : Ctx} (h : C.n0 = 2) : LabsOk C none aG19 aX20 := labsOk_of h (by kernel_rfl) (by kernel_rfl)
theorem hC_l1_63 {C : Ctx} (h : C.n0 = 2) : LabsOk C none aG19 aX20 := labsOk_of h (by kernel_rfl) (by kernel_rfl)
theorem hC_l1_64 {C : Ctx} (h : C.n0 = 2) : LabsOk C none aG19 aX20 := labsOk_of h (by kernel_rfl) (by kernel_rfl)
theorem hC_l1_65 {C : Ctx} (h : C.n0 = 2) : LabsOk C none aG19 aX20 := labsOk_of h (by kernel_rfl) (by kernel_rfl)
theorem hC_l1_66 {C : Ctx} (h : C.n0 = 2) : LabsOk C none aG19 aX20 := labsOk_of h (by kernel_rfl) (by kernel_rfl)
theorem hC_l1_67 {C : Ctx} (h : C.n0 = 2) : LabsOk C none aG36 aX3 := labsOk_of h (by kernel_rfl) (by kernel_rfl)
theorem hC_l1_68 {C : Ctx} (h : C.n0 = 2) : LabsOk C none aG36 aX3 := labsOk_of h (by kernel_rfl) (by kernel_rfl)
theorem hC_l1_69 {C : Ctx} (h : C.n0 = 2) : LabsOk C none aG36 aX3 := labsOk_of h (by kernel_rfl) (by kernel_rfl)
theorem hC_l1_70 {C : Ctx} (h : C.n0 = 2) : LabsOk C none aG36 aX3 := labsOk_of h (by kernel_rfl) (by kernel_rfl)
theorem hC_l1_71 {C : Ctx} (h : C.n0 = 2) : LabsOk C none aG37 [(0, ⟨T_E0n, F_E0n, [], []⟩)] := labsOk_of h (by kernel_rfl) (by kernel_rfl)
theorem hC_l1_72 {C : Ctx} (h : C.n0 = 2) : LabsOk C none none [] := labsOk_of h (by kernel_rfl) (by kernel_rfl)
theorem hC_l2_73 {C : Ctx} (h : C.n0 = 2) : LabsOk C none none [] := labsOk_of h (by kernel_rfl) (by kernel_rfl)
theorem hC_l3_74 {C : Ctx} (h : C.n0 = 2) : LabsOk C none (some ⟨T_A0, F_A0, [], []⟩) [] := labsOk_of h (by kernel_rfl) (by kernel_rfl)
theorem hC_l3_75 {C : Ctx} (h : C.n0 = 2) : LabsOk C none aG38 [(0, ⟨T_E0, F_E0, [], []⟩)] := labsOk_of h (by kernel_rfl) (by kernel_rfl)
theorem hC_l3_76 {C : Ctx} (h : C.n0 = 2) : LabsOk C none aG40 aX41 := labsOk_of h (by kernel_rfl) (by kernel_rfl)
theorem hC_l3_77 {C : Ctx} (h : C.n0 = 2) : LabsOk C none aG40 aX41 := labsOk_of h (by kernel_rfl) (by kernel_rfl)
theorem hC_l3_78 {C : Ctx} (h : C.n0 = 2) : LabsOk C none aG40 aX41 := labsOk_of h (by kernel_rfl) (by kernel_rfl)
theorem hC_l3_79 {C : Ctx} (h : C.n0 = 2) : LabsOk C none aG40 aX41 := labsOk_of h (by kernel_rfl) (by kernel_rfl)
theorem hC_l3_80 {C : Ctx} (h : C.n0 = 2) : LabsOk C none aG45 aX46 := labsOk_of h (by kernel_rfl) (by kernel_rfl)
theorem hC_l3_81 {C : Ctx} (h : C.n0 = 2) : LabsOk C none aG45 aX46 := labsOk_of h (by kernel_rfl) (by kernel_rfl)
theorem hC_l3_82 {C : Ctx} (h : C.n0 = 2) : LabsOk C none aG45 aX46 := labsOk_of h (by kernel_rfl) (by kernel_rfl)
theorem hC_l3_83 {C : Ctx} (h : C.n0 = 2) : LabsOk C none aG45 aX46 := labsOk_of h (by kernel_rfl) (by kernel_rfl)
theorem hC_l3_84 {C : Ctx} (h : C.n0 = 2) : LabsOk C none aG45 aX46 := labsOk_of h (by kernel_rfl) (by kernel_rfl)
theorem hC_l3_85 {C : Ctx} (h : C.n0 = 2) : LabsOk C none aG45 aX46 := labsOk_of h (by kernel_rfl) (by kernel_rfl)
theorem hC_l3_86 {C : Ctx} (h : C.n0 = 2) : LabsOk C none aG45 aX46 := labsOk_of h (by kernel_rfl) (by kernel_rfl)
theorem hC_l3_87 {C : Ctx} (h : C.n0 = 2) : LabsOk C none aG45 aX46 := labsOk_of h (by kernel_rfl) (by kernel_rfl)
theorem hC_l3_88 {C : Ctx} (h : C.n0 = 2) : LabsOk C none aG45 aX46 := labsOk_of h (by kernel_rfl) (by kernel_rfl)
theorem hC_l3_89 {C : Ctx} (h : C.n0 = 2) : LabsOk C none aG45 aX46 := labsOk_of h (by kernel_rfl) (by kernel_rfl)
theorem hC_l3_90 {C : Ctx} (h : C.n0 = 2) : LabsOk C none aG45 aX46 := labsOk_of h (by kernel_rfl) (by kernel_rfl)
theorem hC_l3_91 {C : Ctx} (h : C.n0 = 2) : LabsOk C none aG45 aX46 := labsOk_of h (by kernel_rfl) (by kernel_rfl)
theorem hC_l3_92 {C : Ctx} (h : C.n0 = 2) : LabsOk C none aG45 aX46 := labsOk_of h (by kernel_rfl) (by kernel_rfl)
theorem hC_l3_93 {C : Ctx} (h : C.n0 = 2) : LabsOk C none aG45 aX46 := labsOk_of h (by kernel_rfl) (by kernel_rfl)
theorem hC_l3_94 {C : Ctx} (h : C.n0 = 2) : LabsOk C none aG45 aX46 := labsOk_of h (by kernel_rfl) (by kernel_rfl)
theorem hC_l3_95 {C : Ctx} (h : C.n0 = 2) : LabsOk C none aG45 aX46 := labsOk_of h (by kernel_rfl) (by kernel_rfl)
theorem hC_l3_96 {C : Ctx} (h : C.n0 = 2) : LabsOk C none aG45 aX46 := labsOk_of h (by kernel_rfl) (by kernel_rfl)
theorem hC_l3_97 {C : Ctx} (h : C.n0 = 2) : LabsOk C none aG45 aX46 := labsOk_of h (by kernel_rfl) (by kernel_rfl)
theorem hC_l3_98 {C : Ctx} (h : C.n0 = 2) : LabsOk C none aG45 aX46 := labsOk_of h (by kernel_rfl) (by kernel_rfl)
theorem hC_l3_99 {C : Ctx} (h : C.n0 = 2) : LabsOk C none aG45 aX46 := labsOk_of h (by kernel_rfl) (by kernel_rfl)
theorem hC_l3_100 {C : Ctx} (h : C.n0 = 2) : LabsOk C none aG45 aX46 := labsOk_of h (by kernel_rfl) (by kernel_rfl)
theorem hC_l3_101 {C : Ctx} (h : C.n0 = 2) : LabsOk C none aG45 aX46 := labsOk_of h (by kernel_rfl) (by kernel_rfl)
theorem hC_l3_102 {C : Ctx} (h : C.n0 = 2) : LabsOk C none aG45 aX46 := labsOk_of h (by kernel_rfl) (by kernel_rfl)
theorem hC_l3_103 {C : Ctx} (h : C.n0 = 2) : LabsOk C none aG45 aX46 := labsOk_of h (by kernel_rfl) (by kernel_rfl)
theorem hC_l3_104 {C : Ctx} (h : C.n0 = 2) : LabsOk C none aG45 aX46 := labsOk_of h (by kernel_rfl) (by kernel_rfl)
theorem hC_l3_105 {C : Ctx} (h : C.n0 = 2) : LabsOk C none aG45 aX46 := labsOk_of h (by kernel_rfl) (by kernel_rfl)
theorem hC_l3_106 {C : Ctx} (h : C.n0 = 2) : LabsOk C none aG45 aX46 := labsOk_of h (by kernel_rfl) (by kernel_rfl)
theorem hC_l3_107 {C : Ctx} (h : C.n0 = 2) : LabsOk C none aG45 aX46 := labsOk_of h (by kernel_rfl) (by kernel_rfl)
theorem hC_l3_108 {C : Ctx} (h : C.n0 = 2) : LabsOk C none aG45 aX46 := labsOk_of h (by kernel_rfl) (by kernel_rfl)
theorem hC_l3_109 {C : Ctx} (h : C.n0 = 2) : LabsOk C none aG45 aX46 := labsOk_of h (by kernel_rfl) (by kernel_rfl)
theorem hC_l3_110 {C : Ctx} (h : C.n0 = 2) : LabsOk C none aG45 aX46 := labsOk_of h (by kernel_rfl) (by kernel_rfl)
theorem hC_l3_111 {C : Ctx} (h : C.n0 = 2) : LabsOk C none aG45 aX46 := labsOk_of h (by kernel_rfl) (by kernel_rfl)
theorem hC_l3_112 {C : Ctx} (h : C.n0 = 2) : LabsOk C none aG45 aX46 := labsOk_of h (by kernel_rfl) (by kernel_rfl)
theorem hC_l3_113 {C : Ctx} (h : C.n0 = 2) : LabsOk C none aG45 aX46 := labsOk_of h (by kernel_rfl) (by kernel_rfl)
theorem hC_l3_114 {C : Ctx} (h : C.n0 = 2) : LabsOk C none aG45 aX46 := labsOk_of h (by kernel_rfl) (by kernel_rfl)
theorem hC_l3_115 {C : Ctx} (h : C.n0 = 2) : LabsOk C none aG45 aX46 := labsOk_of h (by kernel_rfl) (by kernel_rfl)
theorem hC_l3_116 {C : Ctx} (h : C.n0 = 2) : LabsOk C none aG45 aX46 := labsOk_of h (by kernel_rfl) (by kernel_rfl)
theorem hC_l3_117 {C : Ctx} (h : C.n0 = 2) : LabsOk C none aG45 aX46 := labsOk_of h (by kernel_rfl) (by kernel_rfl)
theorem hC_l3_118 {C : Ctx} (h : C.n0 = 2) : LabsOk C none aG45 aX46 := labsOk_of h (by kernel_rfl) (by kernel_rfl)
theorem hC_l3_119 {C : Ctx} (h : C.n0 = 2) : LabsOk C none aG45 aX46 := labsOk_of h (by kernel_rfl) (by kernel_rfl)
theorem hC_l3_120 {C : Ctx} (h : C.n0 = 2) : LabsOk C none aG45 aX46 := labsOk_of h (by kernel_rfl) (by kernel_rfl)
theorem hC_l3_121 {C : Ctx} (h : C.n0 = 2) : LabsOk C none aG45 aX46 := labsOk_of h (by kernel_rfl) (by kernel_rfl)
theorem hC_l3_122 {C : Ctx} (h : C.n0 = 2) : LabsOk C none aG45 aX46 := labsOk_of h (by kernel_rfl) (by kernel_rfl)
theorem hC_l3_123 {C : Ctx} (h : C.n0 = 2) : LabsOk C none aG45 aX46 := labsOk_of h (by kernel_rfl) (by kernel_rfl)
theorem hC_l3_124 {C : Ctx} (h : C.n0 = 2) : LabsOk C none aG45 aX46 := labsOk_of h (by kernel_rfl) (by kernel_rfl)
theorem hC_l3_125 {C : Ctx} (h : C.n0 = 2) : LabsOk C none aG45 aX46 := labsOk_of h (by kernel_rfl) (by kernel_rfl)
theorem hC_l3_126 {C : Ctx} (h : C.n0 = 2) : LabsOk C none aG45 aX46 := labsOk_of h (by kernel_rfl) (by kernel_rfl)
theorem hC_l3_127 {C : Ctx} (h : C.n0 = 2) : LabsOk C none aG45 aX46 := labsOk_of h (by kernel_rfl) (by kernel_rfl)
theorem hC_l3_128 {C : Ctx} (h : C.n0 = 2) : LabsOk C none aG45 aX46 := labsOk_of h (by kernel_rfl) (by kernel_rfl)
theorem hC_l3_129 {C : Ctx} (h : C.n0 = 2) : LabsOk C none aG45 aX46 := labsOk_of h (by kernel_rfl) (by kernel_rfl)
theorem hC_l3_130 {C : Ctx} (h : C.n0 = 2) : LabsOk C none aG45 aX46 := labsOk_of h (by kernel_rfl) (by kernel_rfl)
theorem hC_l3_131 {C : Ctx} (h : C.n0 = 2) : LabsOk C none aG45 aX46 := labsOk_of h (by kernel_rfl) (by kernel_rfl)
theorem hC_l3_132 {C : Ctx} (h : C.n0 = 2) : LabsOk C none aG47 aX41 := labsOk_of h (by kernel_rfl) (by kernel_rfl)
theorem hC_l3_133 {C : Ctx} (h : C.n0 = 2) : LabsOk C none aG47 aX41 := labsOk_of h (by kernel_rfl) (by kernel_rfl)
theorem hC_l3_134 {C : Ctx} (h : C.n0 = 2) : LabsOk C none aG47 aX41 := labsOk_of h (by kernel_rfl) (by kernel_rfl)
theorem hC_l3_135 {C : Ctx} (h : C.n0 = 2) : LabsOk C none aG47 aX41 := labsOk_of h (by kernel_rfl) (by kernel_rfl)
theorem hC_l3_136 {C : Ctx} (h : C.n0 = 2) : LabsOk C none aG48 [(0, ⟨T_E0, F_E0, [], []⟩)] := labsOk_of h (by kernel_rfl) (by kernel_rfl)
theorem hC_l3_137 {C : Ctx} (h : C.n0 = 2) : LabsOk C none none [] := labsOk_of h (by kernel_rfl) (by kernel_rfl)
theorem fit_awake : ct_awake.fit = true := by kernel_rfl
theorem c_awake_ct : ∀ ρ, CallOk Try.prog ρ (ctOf []) := ctOf_ok (fun _ h => absurd h List.not_mem_nil)
theorem ok_awake : ct_awake.ok Try.prog :=
  Ctr.ok_of (x := ⟨(TI.of Try.prog), (fnOf Try.prog), ⟨[], ctOf []⟩, 400, Try.f11, (some ct_awake.R)⟩) (body := bodyOf Try.f11) (by kernel_rfl) (by kernel_rfl) rfl (by kernel_rfl) (fun C hC => (From.run mixed (tysOf _) fnOk c_awake_ct (hC_c_awake_0 hC) good_c_awake_0 lem_c_awake_0_ok))
theorem fit_serve8 : ct_serve8.fit = true := by kernel_rfl
theorem c_serve8_ct : ∀ ρ, CallOk Try.prog ρ (ctOf []) := ctOf_ok (fun _ h => absurd h List.not_mem_nil)
theorem ok_serve8 : ct_serve8.ok Try.prog :=
  Ctr.ok_of (x := ⟨(TI.of Try.prog), (fnOf Try.prog), ⟨[], ctOf []⟩, 400, Try.f10, (some ct_serve8.R)⟩) (body := bodyOf Try.f10) (by kernel_rfl) (by kernel_rfl) rfl (by kernel_rfl) (fun C hC => (From.run mixed (tysOf _) fnOk c_serve8_ct (hC_c_serve8_1 hC) good_c_serve8_1 lem_c_serve8_1_ok))
theorem fit_clb0 : ct_clb0.fit = true := by kernel_rfl
theorem c_clb0_ct : ∀ ρ, CallOk Try.prog ρ (ctOf []) := ctOf_ok (fun _ h => absurd h List.not_mem_nil)
theorem ok_clb0 : ct_clb0.ok Try.prog :=
  Ctr.ok_of (x := ⟨(TI.of Try.prog), (fnOf Try.prog), ⟨[], ctOf []⟩, 400, Try.f46, (some ct_clb0.R)⟩) (body := bodyOf Try.f46) (by kernel_rfl) (by kernel_rfl) rfl (by kernel_rfl) (fun C hC => (From.run mixed (tysOf _) fnOk c_clb0_ct (hC_c_clb0_2 hC) good_c_clb0_2 lem_c_clb0_2_ok))
theorem fit_clb1 : ct_clb1.fit = true := by kernel_rfl
theorem c_clb1_ct : ∀ ρ, CallOk Try.prog ρ (ctOf []) := ctOf_ok (fun _ h => absurd h List.not_mem_nil)
theorem ok_clb1 : ct_clb1.ok Try.prog :=
  Ctr.ok_of (x := ⟨(TI.of Try.prog), (fnOf Try.prog), ⟨[], ctOf []⟩, 400, Try.f46, (some ct_clb1.R)⟩) (body := bodyOf Try.f46) (by kernel_rfl) (by kernel_rfl) rfl (by kernel_rfl) (fun C hC => (From.run mixed (tysOf _) fnOk c_clb1_ct (hC_c_clb1_3 hC) good_c_clb1_3 lem_c_clb1_3_ok))
theorem fit_clb2 : ct_clb2.fit = true := by kernel_rfl
theorem c_clb2_ct : ∀ ρ, CallOk Try.prog ρ (ctOf []) := ctOf_ok (fun _ h => absurd h List.not_mem_nil)
theorem ok_clb2 : ct_clb2.ok Try.prog :=
  Ctr.ok_of (x := ⟨(TI.of Try.prog), (fnOf Try.prog), ⟨[], ctOf []⟩, 400, Try.f46, (some ct_clb2.R)⟩) (body := bodyOf Try.f46) (by kernel_rfl) (by kernel_rfl) rfl (by kernel_rfl) (fun C hC => (From.run mixed (tysOf _) fnOk c_clb2_ct (hC_c_clb2_4 hC) good_c_clb2_4 lem_c_clb2_4_ok))
theorem fit_clb : ct_clb.fit = true := by kernel_rfl
theorem ok_clb : ct_clb.ok Try.prog := ok_em ok_clb0 ok_clb1 ok_clb2
theorem fit_clbt : ct_clbt.fit = true := by kernel_rfl
theorem ok_clbt : ct_clbt.ok Try.prog := ok_emT ok_clb2
theorem fit_clt0 : ct_clt0.fit = true := by kernel_rfl
theorem c_clt0_ct : ∀ ρ, CallOk Try.prog ρ (ctOf []) := ctOf_ok (fun _ h => absurd h List.not_mem_nil)
theorem ok_clt0 : ct_clt0.ok Try.prog :=
  Ctr.ok_of (x := ⟨(TI.of Try.prog), (fnOf Try.prog), ⟨[], ctOf []⟩, 400, Try.f47, (some ct_clt0.R)⟩) (body := bodyOf Try.f47) (by kernel_rfl) (by kernel_rfl) rfl (by kernel_rfl) (fun C hC => (From.run mixed (tysOf _) fnOk c_clt0_ct (hC_c_clt0_5 hC) good_c_clt0_5 lem_c_clt0_5_ok))
theorem fit_clt1 : ct_clt1.fit = true := by kernel_rfl
theorem c_clt1_ct : ∀ ρ, CallOk Try.prog ρ (ctOf []) := ctOf_ok (fun _ h => absurd h List.not_mem_nil)
theorem ok_clt1 : ct_clt1.ok Try.prog :=
  Ctr.ok_of (x := ⟨(TI.of Try.prog), (fnOf Try.prog), ⟨[], ctOf []⟩, 400, Try.f47, (some ct_clt1.R)⟩) (body := bodyOf Try.f47) (by kernel_rfl) (by kernel_rfl) rfl (by kernel_rfl) (fun C hC => (From.run mixed (tysOf _) fnOk c_clt1_ct (hC_c_clt1_6 hC) good_c_clt1_6 lem_c_clt1_6_ok))
theorem fit_clt2 : ct_clt2.fit = true := by kernel_rfl
theorem c_clt2_ct : ∀ ρ, CallOk Try.prog ρ (ctOf []) := ctOf_ok (fun _ h => absurd h List.not_mem_nil)
theorem ok_clt2 : ct_clt2.ok Try.prog :=
  Ctr.ok_of (x := ⟨(TI.of Try.prog), (fnOf Try.prog), ⟨[], ctOf []⟩, 400, Try.f47, (some ct_clt2.R)⟩) (body := bodyOf Try.f47) (by kernel_rfl) (by kernel_rfl) rfl (by kernel_rfl) (fun C hC => (From.run mixed (tysOf _) fnOk c_clt2_ct (hC_c_clt2_7 hC) good_c_clt2_7 lem_c_clt2_7_ok))
theorem fit_clt : ct_clt.fit = true := by kernel_rfl
theorem ok_clt : ct_clt.ok Try.prog := ok_em ok_clt0 ok_clt1 ok_clt2
theorem fit_cltt : ct_cltt.fit = true := by kernel_rfl
theorem ok_cltt : ct_cltt.ok Try.prog := ok_emT ok_clt2
theorem l0_ct : ∀ ρ, CallOk Try.prog ρ (ctOf [ct_awake, ct_serve8, ct_clb, ct_clt, ct_clbt, ct_cltt]) := ctOf_ok (by
  simp only [List.forall_mem_cons]
  exact ⟨⟨fit_awake, ok_awake⟩, ⟨fit_serve8, ok_serve8⟩, ⟨fit_clb, ok_clb⟩, ⟨fit_clt, ok_clt⟩, ⟨fit_clbt, ok_clbt⟩, ⟨fit_cltt, ok_cltt⟩, fun _ h => absurd h List.not_mem_nil⟩)
theorem hsym0 : symArgsT Try.prog Try.f5.params.toList 0 0 [false, true, true] = some (xs0, hs0, facts0, 5, 2) := by kernel_rfl
theorem run0 (ρ : Env) (β : Lab) (W : World) : From Try.prog rnL (Ctx.lawN W β ρ 2) st0 facts0 cd0 none [] :=
  have hC : (Ctx.lawN W β ρ 2).n0 = 2 := rfl
  (From.run mixed (tysOf _) fnOk l0_ct (hC_l0_8 hC) good_l0_8 lem_l0_8_ok)
theorem l1_ct : ∀ ρ, CallOk Try.prog ρ (ctOf [ct_awake, ct_serve8, ct_clb, ct_clt, ct_clbt, ct_cltt]) := ctOf_ok (by
  simp only [List.forall_mem_cons]
  exact ⟨⟨fit_awake, ok_awake⟩, ⟨fit_serve8, ok_serve8⟩, ⟨fit_clb, ok_clb⟩, ⟨fit_clt, ok_clt⟩, ⟨fit_clbt, ok_clbt⟩, ⟨fit_cltt, ok_cltt⟩, fun _ h => absurd h List.not_mem_nil⟩)
theorem hsym1 : symArgsT Try.prog Try.f5.params.toList 0 0 [false, false, true] = some (xs1, hs1, facts1, 5, 2) := by kernel_rfl
theorem run1 (ρ : Env) (β : Lab) (W : World) (hraw : RowsAt W ρ (β.b 0) (β.f 0) 1 askC) : From Try.prog rnL (Ctx.lawN W β ρ 2) st1 facts1 cd0 none [] :=
  have hC : (Ctx.lawN W β ρ 2).n0 = 2 := rfl
  (From.cutI (i := 6) hl4 (From.run mixed (tysOf _) fnOk l1_ct (hC_l1_9 hC) good_l1_9 lem_l1_9_ok) (From.loop (c := 110) (B := 21) (cs := []) (g := ⟨T_A0n, F_A0n, [(110, some 21)], []⟩) (g0 := ⟨T_A0n, F_A0n, [], []⟩) rfl rfl (AllF.one (From.cutI (i := 2) hl3 (From.run mixed (tysOf _) fnOk l1_ct (hC_l1_10 hC) good_l1_10 lem_l1_10_ok) (AllF.one (From.block (From.cutI (i := 8) hl2 (From.rowRegion (x := rnL) (pre := ((regOps (cd2.take 8) 0).take 3)) (post := ((regOps (cd2.take 8) 0).drop 4)) (o := (regOp (cd2.take 8) 0 3)) (cols := askC) (tysOf _) fnOk hl1 rq0 hraw (Nat.le_succ 1) (fun _ _ h => h) (t := 35) (tp := 47) (d := 48) (idx := (.var 110)) (ti := Option.get _ rt0) (by kernel_rfl) (by kernel_rfl) (by kernel_rfl) (Nat.le_of_ble_eq_true (by kernel_rfl)) rs0 (Option.some_get rt0).symm (by kernel_rfl) (by kernel_rfl) (nv := 1) (by omega) (fun ρ hk => by
      have b := rng_iff.1 (hk (r 110 0 19) (by simp [F_B0n]))
      have t := lt_iff.1 (hk (.tr (.bin .lt (.var 110) (.var 1)) true) (by simp [F_B0n]))
      simp only [E.den, iff_true, Int.ofNat_eq_natCast] at b t ⊢
      omega) (by decide) (by
    rw [rfl0]
    simp only [List.forall_mem_cons]
    exact ⟨rp0_0, rp0_1, rp0_2, rp0_3, fun _ h => absurd h List.not_mem_nil⟩) (by
    rw [rfl0]
    simp only [List.forall_mem_cons]
    exact ⟨(From.run mixed (tysOf _) fnOk l1_ct (hC_l1_11 hC) good_l1_11 lem_l1_11_ok), (From.run mixed (tysOf _) fnOk l1_ct (hC_l1_12 hC) good_l1_12 lem_l1_12_ok), (From.run mixed (tysOf _) fnOk l1_ct (hC_l1_13 hC) good_l1_13 lem_l1_13_ok), (From.run mixed (tysOf _) fnOk l1_ct (hC_l1_14 hC) good_l1_14 lem_l1_14_ok), fun _ h => absurd h List.not_mem_nil⟩)) (From.loop (c := 112) (B := 102) (cs := [110]) (g := ⟨T_T00r1n, F_T00r1n, [(112, some 102), (110, none)], fm0⟩) (g0 := ⟨T_T00r1n, F_T00r1n, [(110, none)], fm0⟩) rfl rfl (AllF.cons (From.run mixed (tysOf _) fnOk l1_ct (hC_l1_15 hC) good_l1_15 lem_l1_15_ok) (AllF.cons (From.run mixed (tysOf _) fnOk l1_ct (hC_l1_16 hC) good_l1_16 lem_l1_16_ok) (AllF.cons (From.run mixed (tysOf _) fnOk l1_ct (hC_l1_17 hC) good_l1_17 lem_l1_17_ok) (AllF.cons (From.run mixed (tysOf _) fnOk l1_ct (hC_l1_18 hC) good_l1_18 lem_l1_18_ok) (AllF.cons (From.run mixed (tysOf _) fnOk l1_ct (hC_l1_19 hC) good_l1_19 lem_l1_19_ok) (AllF.cons (From.run mixed (tysOf _) fnOk l1_ct (hC_l1_20 hC) good_l1_20 lem_l1_20_ok) (AllF.cons (From.run mixed (tysOf _) fnOk l1_ct (hC_l1_21 hC) good_l1_21 lem_l1_21_ok) (AllF.cons (From.run mixed (tysOf _) fnOk l1_ct (hC_l1_22 hC) good_l1_22 lem_l1_22_ok) (AllF.cons (From.run mixed (tysOf _) fnOk l1_ct (hC_l1_23 hC) good_l1_23 lem_l1_23_ok) (AllF.cons (From.run mixed (tysOf _) fnOk l1_ct (hC_l1_24 hC) good_l1_24 lem_l1_24_ok) (AllF.cons (From.run mixed (tysOf _) fnOk l1_ct (hC_l1_25 hC) good_l1_25 lem_l1_25_ok) (AllF.cons (From.run mixed (tysOf _) fnOk l1_ct (hC_l1_26 hC) good_l1_26 lem_l1_26_ok) (AllF.cons (From.run mixed (tysOf _) fnOk l1_ct (hC_l1_27 hC) good_l1_27 lem_l1_27_ok) (AllF.cons (From.run mixed (tysOf _) fnOk l1_ct (hC_l1_28 hC) good_l1_28 lem_l1_28_ok) (AllF.cons (From.run mixed (tysOf _) fnOk l1_ct (hC_l1_29 hC) good_l1_29 lem_l1_29_ok) (AllF.cons (From.run mixed (tysOf _) fnOk l1_ct (hC_l1_30 hC) good_l1_30 lem_l1_30_ok) (AllF.cons (From.run mixed (tysOf _) fnOk l1_ct (hC_l1_31 hC) good_l1_31 lem_l1_31_ok) (AllF.cons (From.run mixed (tysOf _) fnOk l1_ct (hC_l1_32 hC) good_l1_32 lem_l1_32_ok) (AllF.cons (From.run mixed (tysOf _) fnOk l1_ct (hC_l1_33 hC) good_l1_33 lem_l1_33_ok) (AllF.cons (From.run mixed (tysOf _) fnOk l1_ct (hC_l1_34 hC) good_l1_34 lem_l1_34_ok) (AllF.cons (From.run mixed (tysOf _) fnOk l1_ct (hC_l1_35 hC) good_l1_35 lem_l1_35_ok) (AllF.cons (From.run mixed (tysOf _) fnOk l1_ct (hC_l1_36 hC) good_l1_36 lem_l1_36_ok) (AllF.cons (From.run mixed (tysOf _) fnOk l1_ct (hC_l1_37 hC) good_l1_37 lem_l1_37_ok) (AllF.cons (From.run mixed (tysOf _) fnOk l1_ct (hC_l1_38 hC) good_l1_38 lem_l1_38_ok) (AllF.cons (From.run mixed (tysOf _) fnOk l1_ct (hC_l1_39 hC) good_l1_39 lem_l1_39_ok) (AllF.cons (From.run mixed (tysOf _) fnOk l1_ct (hC_l1_40 hC) good_l1_40 lem_l1_40_ok) (AllF.cons (From.run mixed (tysOf _) fnOk l1_ct (hC_l1_41 hC) good_l1_41 lem_l1_41_ok) (AllF.cons (From.run mixed (tysOf _) fnOk l1_ct (hC_l1_42 hC) good_l1_42 lem_l1_42_ok) (AllF.cons (From.run mixed (tysOf _) fnOk l1_ct (hC_l1_43 hC) good_l1_43 lem_l1_43_ok) (AllF.cons (From.run mixed (tysOf _) fnOk l1_ct (hC_l1_44 hC) good_l1_44 lem_l1_44_ok) (AllF.cons (From.run mixed (tysOf _) fnOk l1_ct (hC_l1_45 hC) good_l1_45 lem_l1_45_ok) (AllF.cons (From.run mixed (tysOf _) fnOk l1_ct (hC_l1_46 hC) good_l1_46 lem_l1_46_ok) (AllF.cons (From.run mixed (tysOf _) fnOk l1_ct (hC_l1_47 hC) good_l1_47 lem_l1_47_ok) (AllF.cons (From.run mixed (tysOf _) fnOk l1_ct (hC_l1_48 hC) good_l1_48 lem_l1_48_ok) (AllF.cons (From.run mixed (tysOf _) fnOk l1_ct (hC_l1_49 hC) good_l1_49 lem_l1_49_ok) (AllF.cons (From.run mixed (tysOf _) fnOk l1_ct (hC_l1_50 hC) good_l1_50 lem_l1_50_ok) (AllF.cons (From.run mixed (tysOf _) fnOk l1_ct (hC_l1_51 hC) good_l1_51 lem_l1_51_ok) (AllF.cons (From.run mixed (tysOf _) fnOk l1_ct (hC_l1_52 hC) good_l1_52 lem_l1_52_ok) (AllF.cons (From.run mixed (tysOf _) fnOk l1_ct (hC_l1_53 hC) good_l1_53 lem_l1_53_ok) (AllF.cons (From.run mixed (tysOf _) fnOk l1_ct (hC_l1_54 hC) good_l1_54 lem_l1_54_ok) (AllF.cons (From.run mixed (tysOf _) fnOk l1_ct (hC_l1_55 hC) good_l1_55 lem_l1_55_ok) (AllF.cons (From.run mixed (tysOf _) fnOk l1_ct (hC_l1_56 hC) good_l1_56 lem_l1_56_ok) (AllF.cons (From.run mixed (tysOf _) fnOk l1_ct (hC_l1_57 hC) good_l1_57 lem_l1_57_ok) (AllF.cons (From.run mixed (tysOf _) fnOk l1_ct (hC_l1_58 hC) good_l1_58 lem_l1_58_ok) (AllF.cons (From.run mixed (tysOf _) fnOk l1_ct (hC_l1_59 hC) good_l1_59 lem_l1_59_ok) (AllF.cons (From.run mixed (tysOf _) fnOk l1_ct (hC_l1_60 hC) good_l1_60 lem_l1_60_ok) (AllF.cons (From.run mixed (tysOf _) fnOk l1_ct (hC_l1_61 hC) good_l1_61 lem_l1_61_ok) (AllF.cons (From.run mixed (tysOf _) fnOk l1_ct (hC_l1_62 hC) good_l1_62 lem_l1_62_ok) (AllF.cons (From.run mixed (tysOf _) fnOk l1_ct (hC_l1_63 hC) good_l1_63 lem_l1_63_ok) (AllF.cons (From.run mixed (tysOf _) fnOk l1_ct (hC_l1_64 hC) good_l1_64 lem_l1_64_ok) (AllF.cons (From.run mixed (tysOf _) fnOk l1_ct (hC_l1_65 hC) good_l1_65 lem_l1_65_ok) (AllF.one (From.run mixed (tysOf _) fnOk l1_ct (hC_l1_66 hC) good_l1_66 lem_l1_66_ok))))))))))))))))))))))))))))))))))))))))))))))))))))) (by simp) (by intro i g' h; simp only [tgtOf] at h; (repeat' split at h) <;> first | (cases h; done) | (cases h; simp))) (AllF.cons (From.run mixed (tysOf _) fnOk l1_ct (hC_l1_67 hC) good_l1_67 lem_l1_67_ok) (AllF.cons (From.run mixed (tysOf _) fnOk l1_ct (hC_l1_68 hC) good_l1_68 lem_l1_68_ok) (AllF.cons (From.run mixed (tysOf _) fnOk l1_ct (hC_l1_69 hC) good_l1_69 lem_l1_69_ok) (AllF.one (From.run mixed (tysOf _) fnOk l1_ct (hC_l1_70 hC) good_l1_70 lem_l1_70_ok))))) (c := [110]) rfl rfl (by intro g' h; cases h; simp) (by intro i g' h; simp only [tgtOf] at h; (repeat' split at h) <;> first | (cases h; done) | (cases h; simp))))) (AllF.one (From.run mixed (tysOf _) fnOk l1_ct (hC_l1_71 hC) good_l1_71 lem_l1_71_ok)) (c := [110]) rfl rfl (by intro g' h; cases h; simp) (by intro i g' h; simp only [tgtOf] at h; (repeat' split at h) <;> first | (cases h; done) | (cases h; simp)))) (by simp) (by simp [tgtOf])) (AllF.one (From.run mixed (tysOf _) fnOk l1_ct (hC_l1_72 hC) good_l1_72 lem_l1_72_ok)) (c := []) rfl rfl (by simp) (by simp [tgtOf]))
theorem l2_ct : ∀ ρ, CallOk Try.prog ρ (ctOf [ct_awake, ct_serve8, ct_clb, ct_clt, ct_clbt, ct_cltt]) := ctOf_ok (by
  simp only [List.forall_mem_cons]
  exact ⟨⟨fit_awake, ok_awake⟩, ⟨fit_serve8, ok_serve8⟩, ⟨fit_clb, ok_clb⟩, ⟨fit_clt, ok_clt⟩, ⟨fit_clbt, ok_clbt⟩, ⟨fit_cltt, ok_cltt⟩, fun _ h => absurd h List.not_mem_nil⟩)
theorem hsym2 : symArgsT Try.prog Try.f5.params.toList 0 0 [false, true, false] = some (xs2, hs2, facts2, 5, 2) := by kernel_rfl
theorem run2 (ρ : Env) (β : Lab) (W : World) : From Try.prog rnL (Ctx.lawN W β ρ 2) st2 facts2 cd0 none [] :=
  have hC : (Ctx.lawN W β ρ 2).n0 = 2 := rfl
  (From.run mixed (tysOf _) fnOk l2_ct (hC_l2_73 hC) good_l2_73 lem_l2_73_ok)
theorem l3_ct : ∀ ρ, CallOk Try.prog ρ (ctOf [ct_awake, ct_serve8, ct_clb, ct_clt, ct_clbt, ct_cltt]) := ctOf_ok (by
  simp only [List.forall_mem_cons]
  exact ⟨⟨fit_awake, ok_awake⟩, ⟨fit_serve8, ok_serve8⟩, ⟨fit_clb, ok_clb⟩, ⟨fit_clt, ok_clt⟩, ⟨fit_clbt, ok_clbt⟩, ⟨fit_cltt, ok_cltt⟩, fun _ h => absurd h List.not_mem_nil⟩)
theorem hsym3 : symArgsT Try.prog Try.f5.params.toList 0 0 [false, false, false] = some (xs3, hs3, facts3, 5, 2) := by kernel_rfl
theorem run3 (ρ : Env) (β : Lab) (W : World) (hraw : RowsAt W ρ (β.b 0) (β.f 0) 1 askC) : From Try.prog rnL (Ctx.lawN W β ρ 2) st3 facts3 cd0 none [] :=
  have hC : (Ctx.lawN W β ρ 2).n0 = 2 := rfl
  (From.cutI (i := 6) hl9 (From.run mixed (tysOf _) fnOk l3_ct (hC_l3_74 hC) good_l3_74 lem_l3_74_ok) (From.loop (c := 110) (B := 21) (cs := []) (g := ⟨T_A0, F_A0, [(110, some 21)], []⟩) (g0 := ⟨T_A0, F_A0, [], []⟩) rfl rfl (AllF.one (From.cutI (i := 2) hl8 (From.run mixed (tysOf _) fnOk l3_ct (hC_l3_75 hC) good_l3_75 lem_l3_75_ok) (AllF.one (From.block (From.cutI (i := 8) hl7 (From.rowRegion (x := rnL) (pre := ((regOps (cd2.take 8) 0).take 3)) (post := ((regOps (cd2.take 8) 0).drop 4)) (o := (regOp (cd2.take 8) 0 3)) (cols := askC) (tysOf _) fnOk hl6 rq5 hraw (Nat.le_succ 1) (fun _ _ h => h) (t := 35) (tp := 47) (d := 48) (idx := (.var 110)) (ti := Option.get _ rt5) (by kernel_rfl) (by kernel_rfl) (by kernel_rfl) (Nat.le_of_ble_eq_true (by kernel_rfl)) rs5 (Option.some_get rt5).symm (by kernel_rfl) (by kernel_rfl) (nv := 1) (by omega) (fun ρ hk => by
      have b := rng_iff.1 (hk (r 110 0 19) (by simp [F_B0]))
      have t := lt_iff.1 (hk (.tr (.bin .lt (.var 110) (.var 1)) true) (by simp [F_B0]))
      simp only [E.den, iff_true, Int.ofNat_eq_natCast] at b t ⊢
      omega) (by decide) (by
    rw [rfl5]
    simp only [List.forall_mem_cons]
    exact ⟨rp5_0, rp5_1, rp5_2, rp5_3, fun _ h => absurd h List.not_mem_nil⟩) (by
    rw [rfl5]
    simp only [List.forall_mem_cons]
    exact ⟨(From.run mixed (tysOf _) fnOk l3_ct (hC_l3_76 hC) good_l3_76 lem_l3_76_ok), (From.run mixed (tysOf _) fnOk l3_ct (hC_l3_77 hC) good_l3_77 lem_l3_77_ok), (From.run mixed (tysOf _) fnOk l3_ct (hC_l3_78 hC) good_l3_78 lem_l3_78_ok), (From.run mixed (tysOf _) fnOk l3_ct (hC_l3_79 hC) good_l3_79 lem_l3_79_ok), fun _ h => absurd h List.not_mem_nil⟩)) (From.loop (c := 112) (B := 102) (cs := [110]) (g := ⟨T_T00r1, F_T00r1, [(112, some 102), (110, none)], fm2⟩) (g0 := ⟨T_T00r1, F_T00r1, [(110, none)], fm2⟩) rfl rfl (AllF.cons (From.run mixed (tysOf _) fnOk l3_ct (hC_l3_80 hC) good_l3_80 lem_l3_80_ok) (AllF.cons (From.run mixed (tysOf _) fnOk l3_ct (hC_l3_81 hC) good_l3_81 lem_l3_81_ok) (AllF.cons (From.run mixed (tysOf _) fnOk l3_ct (hC_l3_82 hC) good_l3_82 lem_l3_82_ok) (AllF.cons (From.run mixed (tysOf _) fnOk l3_ct (hC_l3_83 hC) good_l3_83 lem_l3_83_ok) (AllF.cons (From.run mixed (tysOf _) fnOk l3_ct (hC_l3_84 hC) good_l3_84 lem_l3_84_ok) (AllF.cons (From.run mixed (tysOf _) fnOk l3_ct (hC_l3_85 hC) good_l3_85 lem_l3_85_ok) (AllF.cons (From.run mixed (tysOf _) fnOk l3_ct (hC_l3_86 hC) good_l3_86 lem_l3_86_ok) (AllF.cons (From.run mixed (tysOf _) fnOk l3_ct (hC_l3_87 hC) good_l3_87 lem_l3_87_ok) (AllF.cons (From.run mixed (tysOf _) fnOk l3_ct (hC_l3_88 hC) good_l3_88 lem_l3_88_ok) (AllF.cons (From.run mixed (tysOf _) fnOk l3_ct (hC_l3_89 hC) good_l3_89 lem_l3_89_ok) (AllF.cons (From.run mixed (tysOf _) fnOk l3_ct (hC_l3_90 hC) good_l3_90 lem_l3_90_ok) (AllF.cons (From.run mixed (tysOf _) fnOk l3_ct (hC_l3_91 hC) good_l3_91 lem_l3_91_ok) (AllF.cons (From.run mixed (tysOf _) fnOk l3_ct (hC_l3_92 hC) good_l3_92 lem_l3_92_ok) (AllF.cons (From.run mixed (tysOf _) fnOk l3_ct (hC_l3_93 hC) good_l3_93 lem_l3_93_ok) (AllF.cons (From.run mixed (tysOf _) fnOk l3_ct (hC_l3_94 hC) good_l3_94 lem_l3_94_ok) (AllF.cons (From.run mixed (tysOf _) fnOk l3_ct (hC_l3_95 hC) good_l3_95 lem_l3_95_ok) (AllF.cons (From.run mixed (tysOf _) fnOk l3_ct (hC_l3_96 hC) good_l3_96 lem_l3_96_ok) (AllF.cons (From.run mixed (tysOf _) fnOk l3_ct (hC_l3_97 hC) good_l3_97 lem_l3_97_ok) (AllF.cons (From.run mixed (tysOf _) fnOk l3_ct (hC_l3_98 hC) good_l3_98 lem_l3_98_ok) (AllF.cons (From.run mixed (tysOf _) fnOk l3_ct (hC_l3_99 hC) good_l3_99 lem_l3_99_ok) (AllF.cons (From.run mixed (tysOf _) fnOk l3_ct (hC_l3_100 hC) good_l3_100 lem_l3_100_ok) (AllF.cons (From.run mixed (tysOf _) fnOk l3_ct (hC_l3_101 hC) good_l3_101 lem_l3_101_ok) (AllF.cons (From.run mixed (tysOf _) fnOk l3_ct (hC_l3_102 hC) good_l3_102 lem_l3_102_ok) (AllF.cons (From.run mixed (tysOf _) fnOk l3_ct (hC_l3_103 hC) good_l3_103 lem_l3_103_ok) (AllF.cons (From.run mixed (tysOf _) fnOk l3_ct (hC_l3_104 hC) good_l3_104 lem_l3_104_ok) (AllF.cons (From.run mixed (tysOf _) fnOk l3_ct (hC_l3_105 hC) good_l3_105 lem_l3_105_ok) (AllF.cons (From.run mixed (tysOf _) fnOk l3_ct (hC_l3_106 hC) good_l3_106 lem_l3_106_ok) (AllF.cons (From.run mixed (tysOf _) fnOk l3_ct (hC_l3_107 hC) good_l3_107 lem_l3_107_ok) (AllF.cons (From.run mixed (tysOf _) fnOk l3_ct (hC_l3_108 hC) good_l3_108 lem_l3_108_ok) (AllF.cons (From.run mixed (tysOf _) fnOk l3_ct (hC_l3_109 hC) good_l3_109 lem_l3_109_ok) (AllF.cons (From.run mixed (tysOf _) fnOk l3_ct (hC_l3_110 hC) good_l3_110 lem_l3_110_ok) (AllF.cons (From.run mixed (tysOf _) fnOk l3_ct (hC_l3_111 hC) good_l3_111 lem_l3_111_ok) (AllF.cons (From.run mixed (tysOf _) fnOk l3_ct (hC_l3_112 hC) good_l3_112 lem_l3_112_ok) (AllF.cons (From.run mixed (tysOf _) fnOk l3_ct (hC_l3_113 hC) good_l3_113 lem_l3_113_ok) (AllF.cons (From.run mixed (tysOf _) fnOk l3_ct (hC_l3_114 hC) good_l3_114 lem_l3_114_ok) (AllF.cons (From.run mixed (tysOf _) fnOk l3_ct (hC_l3_115 hC) good_l3_115 lem_l3_115_ok) (AllF.cons (From.run mixed (tysOf _) fnOk l3_ct (hC_l3_116 hC) good_l3_116 lem_l3_116_ok) (AllF.cons (From.run mixed (tysOf _) fnOk l3_ct (hC_l3_117 hC) good_l3_117 lem_l3_117_ok) (AllF.cons (From.run mixed (tysOf _) fnOk l3_ct (hC_l3_118 hC) good_l3_118 lem_l3_118_ok) (AllF.cons (From.run mixed (tysOf _) fnOk l3_ct (hC_l3_119 hC) good_l3_119 lem_l3_119_ok) (AllF.cons (From.run mixed (tysOf _) fnOk l3_ct (hC_l3_120 hC) good_l3_120 lem_l3_120_ok) (AllF.cons (From.run mixed (tysOf _) fnOk l3_ct (hC_l3_121 hC) good_l3_121 lem_l3_121_ok) (AllF.cons (From.run mixed (tysOf _) fnOk l3_ct (hC_l3_122 hC) good_l3_122 lem_l3_122_ok) (AllF.cons (From.run mixed (tysOf _) fnOk l3_ct (hC_l3_123 hC) good_l3_123 lem_l3_123_ok) (AllF.cons (From.run mixed (tysOf _) fnOk l3_ct (hC_l3_124 hC) good_l3_124 lem_l3_124_ok) (AllF.cons (From.run mixed (tysOf _) fnOk l3_ct (hC_l3_125 hC) good_l3_125 lem_l3_125_ok) (AllF.cons (From.run mixed (tysOf _) fnOk l3_ct (hC_l3_126 hC) good_l3_126 lem_l3_126_ok) (AllF.cons (From.run mixed (tysOf _) fnOk l3_ct (hC_l3_127 hC) good_l3_127 lem_l3_127_ok) (AllF.cons (From.run mixed (tysOf _) fnOk l3_ct (hC_l3_128 hC) good_l3_128 lem_l3_128_ok) (AllF.cons (From.run mixed (tysOf _) fnOk l3_ct (hC_l3_129 hC) good_l3_129 lem_l3_129_ok) (AllF.cons (From.run mixed (tysOf _) fnOk l3_ct (hC_l3_130 hC) good_l3_130 lem_l3_130_ok) (AllF.one (From.run mixed (tysOf _) fnOk l3_ct (hC_l3_131 hC) good_l3_131 lem_l3_131_ok))))))))))))))))))))))))))))))))))))))))))))))))))))) (by simp) (by intro i g' h; simp only [tgtOf] at h; (repeat' split at h) <;> first | (cases h; done) | (cases h; simp))) (AllF.cons (From.run mixed (tysOf _) fnOk l3_ct (hC_l3_132 hC) good_l3_132 lem_l3_132_ok) (AllF.cons (From.run mixed (tysOf _) fnOk l3_ct (hC_l3_133 hC) good_l3_133 lem_l3_133_ok) (AllF.cons (From.run mixed (tysOf _) fnOk l3_ct (hC_l3_134 hC) good_l3_134 lem_l3_134_ok) (AllF.one (From.run mixed (tysOf _) fnOk l3_ct (hC_l3_135 hC) good_l3_135 lem_l3_135_ok))))) (c := [110]) rfl rfl (by intro g' h; cases h; simp) (by intro i g' h; simp only [tgtOf] at h; (repeat' split at h) <;> first | (cases h; done) | (cases h; simp))))) (AllF.one (From.run mixed (tysOf _) fnOk l3_ct (hC_l3_136 hC) good_l3_136 lem_l3_136_ok)) (c := [110]) rfl rfl (by intro g' h; cases h; simp) (by intro i g' h; simp only [tgtOf] at h; (repeat' split at h) <;> first | (cases h; done) | (cases h; simp)))) (by simp) (by simp [tgtOf])) (AllF.one (From.run mixed (tysOf _) fnOk l3_ct (hC_l3_137 hC) good_l3_137 lem_l3_137_ok)) (c := []) rfl rfl (by simp) (by simp [tgtOf]))

theorem post_end {C : Ctx} {ρ : Env} {e : Exit} {a : Act} {w : World} (h : Post Try.prog rnL C ρ none [] e a w) : EndAt Try.prog Try.f5 C none e a w := by
  cases e with
  | normal => exact h
  | ret => exact h
  | exit b => exact h.elim
  | panic ch => exact h.elim
  | outgrown => exact h.elim
  | goto l => exact h.elim
theorem walk {base : Nat} : ∀ fl ∈ flagsAll Try.prog Try.f5.params.toList, ∃ xs hs k m q, symArgsT Try.prog Try.f5.params.toList 0 0 fl = some (xs, hs, k, m, q) ∧ q ≤ 50 ∧ ∀ ρ : Env, (∀ g ∈ k, Fact.holds ρ g) → ∀ (β : Lab) (W : World) (a : Act) (vs : List Value), xs.map (V1.den ρ β) = vs → (∃ (H : Type) (enc : TypeId × Value → H) (held : Bool) (ds : List (DataW H)) (ps : List MemPlace), DataW.TrodAll enc Try.prog W 0 (fun _ => true) held Try.f5.params.toList vs ds ps) →
      (∀ (j : Nat) (t : TypeId) (v : Value), Try.f5.params.toList[j]? = some t → vs[j]? = some v → Value.okWide Try.prog W .any base t v) → (∀ j, 50 ≤ j → j < 100 → ρ.t j = exOf W (vs.getD 1 .nilFunc) askC.length j) → TS (Ctx.lawN W β ρ q) ρ β Try.f5.ntmps ⟨argSlots xs 0 .nil, putSets .leaf hs, q, []⟩ a W → WPs Try.prog (Sx.flat (bodyOf Try.f5)) (EndAt Try.prog Try.f5 (Ctx.lawN W β ρ q) none) a W := by
  intro fl hfl
  rw [hfls] at hfl
  simp only [List.mem_cons, List.not_mem_nil, or_false] at hfl
  rcases hfl with rfl | rfl | rfl | rfl
  · exact ⟨xs0, hs0, facts0, 5, 2, hsym0, by decide, fun ρ hk β W a vs hx hT hv hex hs => (run0 ρ β W ρ β a W hk hs).mono fun e a w he => post_end he⟩
  · exact ⟨xs1, hs1, facts1, 5, 2, hsym1, by decide, fun ρ hk β W a vs hx hT hv hex hs => (run1 ρ β W (row_arg hx hT hv 1 (cols := askC) hex (t := 22) (e := 35) (fs := fsOf Try.prog 35) (by kernel_rfl) rfl (by kernel_rfl) (by kernel_rfl) (by kernel_rfl) (by kernel_rfl) (Nat.le_of_ble_eq_true (by kernel_rfl)) (by
      have := (rng_iff.1 (hk (.rng (.var 1) ((some (.ofNat 0)), (some (.ofNat 1466015503658)))) (by simp [facts1]))).1
      simpa [E.den] using this)) ρ β a W hk hs).mono fun e a w he => post_end he⟩
  · exact ⟨xs2, hs2, facts2, 5, 2, hsym2, by decide, fun ρ hk β W a vs hx hT hv hex hs => (run2 ρ β W ρ β a W hk hs).mono fun e a w he => post_end he⟩
  · exact ⟨xs3, hs3, facts3, 5, 2, hsym3, by decide, fun ρ hk β W a vs hx hT hv hex hs => (run3 ρ β W (row_arg hx hT hv 1 (cols := askC) hex (t := 22) (e := 35) (fs := fsOf Try.prog 35) (by kernel_rfl) rfl (by kernel_rfl) (by kernel_rfl) (by kernel_rfl) (by kernel_rfl) (Nat.le_of_ble_eq_true (by kernel_rfl)) (by
      have := (rng_iff.1 (hk (.rng (.var 1) ((some (.ofNat 0)), (some (.ofNat 1466015503658)))) (by simp [facts3]))).1
      simpa [E.den] using this)) ρ β a W hk hs).mono fun e a w he => post_end he⟩
theorem lifted (os : Os) (started : os.Started) (H : Type) (enc : TypeId × Value → H) :
    ReturnsInHanded {} Try.checked os 5 .any (Rows.busAloneSpec.pre6 enc Try.prog Try.f5 Rows.busAloneRow.domain false) (Rows.busAloneSpec.post enc Try.prog Try.f5 false true false false) := by
  refine returnsInHanded_of_change_sized (C := Try.checked) own started (by kernel_rfl) Try.func5
    (ChangeSpec.witness6 (enc := enc) (C := Try.checked) false ⟨#[], zeros Try.prog Try.f5.params.toList, []⟩ 16 (by kernel_rfl) (by kernel_rfl) (by kernel_rfl) (by kernel_rfl)) ?_
  intro W base args ds gs before hval0 hW hcnd hwt0 _
  have hval : ∀ (j : Nat) t v, Try.f5.params[j]? = some t → args[j]? = some v → Value.okWide Try.prog W .any base t v := hval0
  have hW' := hW
  have hlt := hW.lt
  obtain ⟨p, q, hA0, hV, rfl, hfz, hnd⟩ := hW
  have hA : DataW.TrodAll enc Try.prog W 0 (fun _ => true) true Try.f5.params.toList args.toList ds p := hA0
  obtain ⟨rfl, rfl⟩ := trodVars_none hV
  have hwt1 : (DataW.weightsEach Try.prog (Try.f5.params.toList ++ Rows.busAloneSpec.plain.varTypes Try.prog) (ds ++ [])).all (· ≤ reachBytes) = true := hwt0
  have hvt : Rows.busAloneSpec.plain.varTypes Try.prog = [] := by kernel_rfl
  rw [hvt, List.append_nil, List.append_nil] at hwt1
  have hwt : ∀ x ∈ DataW.weightsEach Try.prog Try.f5.params.toList ds, x ≤ reachBytes := fun x hx => by simpa using List.all_eq_true.1 hwt1 x hx
  have hlen := trodAll_length hA
  have hsz : args.size = Try.f5.params.toList.length := by simpa using hlen.1
  have hd : ds.length = 3 := hlen.2.trans (by kernel_rfl)
  refine (law_TSR 1 askC.length hfunc hbody walk hsz (fun j t v ht hv => hval j t v (by simpa using ht) hv) hA hwt).mono fun e W' ⟨he, hk⟩ => ?_
  obtain ⟨d0, d1, d2, rfl⟩ : ∃ d0 d1 d2, ds = [d0, d1, d2] := by
    match ds, hd with
    | [d0, d1, d2], _ => exact ⟨d0, d1, d2, rfl⟩
  subst he
  have hb : Value.okWide Try.prog W' .any 0 4 (.bool true) := okWide_bool_mk bool_ _
  refine ⟨_, rfl, post_of_same (pa := p) (pv := []) hW' (fun _ _ _ => ?_) (fun sp hsp => args_again kids full (of_decide_eq_true (by kernel_rfl)) hA hk.old (fun x hx => hlt x (by simpa using hx)) sp (fun x hx => hsp x (by simpa using hx))) (fun _ _ => rfl) rfl
    (hk.grown.frame _) hk.grown.2.1 (ok_one rets rfl hb)⟩
  rw [rets]
  exact trodAll_cons_mk (shut_bool bool_ _) trodAll_mk0

theorem over : Rows.busAloneRow.holds Try.pinned (OpenSpec.ofChange Rows.busAloneSpec) :=
  OpenClaim.holds_of_wide 5 Try.f5 rfl rfl rfl rfl rfl rfl rfl ⟨rfl, rfl, rfl, rfl, rfl⟩ rfl rfl rfl rfl rfl (by kernel_rfl) Try.func5 (by kernel_rfl)
    (of_decide_eq_true (by kernel_rfl)) (by unfold Func.isWrapper; first | (rw [if_pos (by decide +kernel)]; kernel_rfl) | (rw [if_neg (by decide +kernel)]; exact ⟨rfl, rfl⟩))
    (fun os started H enc _ => lifted os started H enc)

/-- THE STATEMENT -/
theorem proved : Rows.BusAloneSaid :=
  over
#print axioms proved
end Go.Proofs.Ytiocpbfbhbgfaaa.busAlone
