/-
  'HazardOrders' ('tappet/tappetlaw23.HazardOrders'): the executor's runs (Sx) of the parts, checked by the kernel, put together by the rules of loops and by contracts of what is called, are the walk. Printed by program.
-/
import Derived.Test.YtgjdhgmnkgbhiaaHazardOrdersR0
namespace Go.Proofs.Ytgjdhgmnkgbhiaa.hazardOrders
open Go.ChangeShapes Go.WideShapes Go.ChangeAt Go.RowKit Go.Sx
set_option linter.unusedVariables false
set_option linter.unusedSimpArgs false
theorem hbody : Try.f6.body = some (bodyOf Try.f6) := by kernel_rfl
theorem hfunc : Try.prog.funcs[6]? = some Try.f6 := by kernel_rfl
theorem hfls : flagsAll Try.prog Try.f6.params.toList = [[true], [false]] := by kernel_rfl
set_option maxRecDepth 100000
theorem own : ownKnob Try.prog.godebug = none := by kernel_rfl
theorem kids : Kids Try.prog (· < Try.prog.types.size) := kids_rows (by kernel_rfl) (by kernel_rfl)
theorem full : ∀ t e, t < Try.prog.types.size → Try.prog.underlying t = some (.slice e) → 0 < Try.prog.cellsOf e := slices_full_of Try.prog (by kernel_rfl)
theorem fnOk : FnOk Try.prog (fnOf Try.prog) := fnOf_ok (by kernel_rfl)
theorem mixed : Try.prog.follows .mixedOrders = true := by kernel_rfl
theorem rets : Try.f6.resultTypes = #[4] := by kernel_rfl
theorem bool_ : Try.prog.underlying 4 = some .bool := by kernel_rfl
theorem good_c_byp_0paths : DT.paths .leaf = [[]] := by kernel_rfl
theorem good_c_byp_0 : GoodT ⟨(TI.of Try.prog), (fnOf Try.prog), ⟨[], ctOf []⟩, 400, Try.f7, (some ct_byp.R)⟩ (flat (bodyOf Try.f7)) (ct_byp.facts ++ lem_c_byp_0) ct_byp.s0 none [] .leaf := by
  unfold GoodT
  rw [good_c_byp_0paths]
  simp only [List.forall_mem_cons]
  exact ⟨good_c_byp_0_0, fun _ h => absurd h List.not_mem_nil⟩
theorem good_c_rbyp_1paths : DT.paths .leaf = [[]] := by kernel_rfl
theorem good_c_rbyp_1 : GoodT ⟨(TI.of Try.prog), (fnOf Try.prog), ⟨[], ctOf []⟩, 400, Try.f9, (some ct_rbyp.R)⟩ (flat (bodyOf Try.f9)) (ct_rbyp.facts ++ lem_c_rbyp_1) ct_rbyp.s0 none [] .leaf := by
  unfold GoodT
  rw [good_c_rbyp_1paths]
  simp only [List.forall_mem_cons]
  exact ⟨good_c_rbyp_1_0, fun _ h => absurd h List.not_mem_nil⟩
theorem good_c_samei_2paths : DT.paths .leaf = [[]] := by kernel_rfl
theorem good_c_samei_2 : GoodT ⟨(TI.of Try.prog), (fnOf Try.prog), ⟨[], ctOf []⟩, 400, Try.f18, (some ct_samei.R)⟩ ((flat (bodyOf Try.f18)).take 4) (ct_samei.facts ++ lem_c_samei_2) ct_samei.s0 (some ⟨iT, iF, []⟩) [] .leaf := by
  unfold GoodT
  rw [good_c_samei_2paths]
  simp only [List.forall_mem_cons]
  exact ⟨good_c_samei_2_0, fun _ h => absurd h List.not_mem_nil⟩
theorem good_c_samei_3paths : DT.paths .leaf = [[]] := by kernel_rfl
theorem good_c_samei_3 : GoodT ⟨(TI.of Try.prog), (fnOf Try.prog), ⟨[], ctOf []⟩, 400, Try.f18, (some ct_samei.R)⟩ (flat (loopBody (flat (bodyOf Try.f18)) 4)) (iF ++ lem_c_samei_3) iT.toS (some ⟨iT, iF, [(101, some 140737488355329)]⟩) [(0, ⟨iE, iG, []⟩)] .leaf := by
  unfold GoodT
  rw [good_c_samei_3paths]
  simp only [List.forall_mem_cons]
  exact ⟨good_c_samei_3_0, fun _ h => absurd h List.not_mem_nil⟩
theorem good_c_samei_4paths : DT.paths .leaf = [[]] := by kernel_rfl
theorem good_c_samei_4 : GoodT ⟨(TI.of Try.prog), (fnOf Try.prog), ⟨[], ctOf []⟩, 400, Try.f18, (some ct_samei.R)⟩ ((flat (bodyOf Try.f18)).drop 5) (iG ++ lem_c_samei_4) iE.toS none [] .leaf := by
  unfold GoodT
  rw [good_c_samei_4paths]
  simp only [List.forall_mem_cons]
  exact ⟨good_c_samei_4_0, fun _ h => absurd h List.not_mem_nil⟩
theorem good_c_samer_5paths : DT.paths .leaf = [[]] := by kernel_rfl
theorem good_c_samer_5 : GoodT ⟨(TI.of Try.prog), (fnOf Try.prog), ⟨[], ctOf []⟩, 400, Try.f21, (some ct_samer.R)⟩ ((flat (bodyOf Try.f21)).take 4) (ct_samer.facts ++ lem_c_samer_5) ct_samer.s0 (some ⟨rT, rF, []⟩) [] .leaf := by
  unfold GoodT
  rw [good_c_samer_5paths]
  simp only [List.forall_mem_cons]
  exact ⟨good_c_samer_5_0, fun _ h => absurd h List.not_mem_nil⟩
theorem good_c_samer_6paths : DT.paths .leaf = [[]] := by kernel_rfl
theorem good_c_samer_6 : GoodT ⟨(TI.of Try.prog), (fnOf Try.prog), ⟨[], ctOf []⟩, 400, Try.f21, (some ct_samer.R)⟩ (flat (loopBody (flat (bodyOf Try.f21)) 4)) (rF ++ lem_c_samer_6) rT.toS (some ⟨rT, rF, [(101, some 140737488355329)]⟩) [(0, ⟨rE, rG, []⟩)] .leaf := by
  unfold GoodT
  rw [good_c_samer_6paths]
  simp only [List.forall_mem_cons]
  exact ⟨good_c_samer_6_0, fun _ h => absurd h List.not_mem_nil⟩
theorem good_c_samer_7paths : DT.paths .leaf = [[]] := by kernel_rfl
theorem good_c_samer_7 : GoodT ⟨(TI.of Try.prog), (fnOf Try.prog), ⟨[], ctOf []⟩, 400, Try.f21, (some ct_samer.R)⟩ ((flat (bodyOf Try.f21)).drop 5) (rG ++ lem_c_samer_7) rE.toS none [] .leaf := by
  unfold GoodT
  rw [good_c_samer_7paths]
  simp only [List.forall_mem_cons]
  exact ⟨good_c_samer_7_0, fun _ h => absurd h List.not_mem_nil⟩
theorem good_c_order_8paths : DT.paths .leaf = [[]] := by kernel_rfl
theorem good_c_order_8 : GoodT ⟨(TI.of Try.prog), (fnOf Try.prog), ⟨[], ctOf [ct_byp]⟩, 400, Try.f12, (some ct_order.R)⟩ ((flat (bodyOf Try.f12)).take 3) (ct_order.facts ++ lem_c_order_8) ct_order.s0 (some ⟨(oT (.var 101)), oF, []⟩) [] .leaf := by
  unfold GoodT
  rw [good_c_order_8paths]
  simp only [List.forall_mem_cons]
  exact ⟨good_c_order_8_0, fun _ h => absurd h List.not_mem_nil⟩
theorem good_c_order_9paths : DT.paths .leaf = [[]] := by kernel_rfl
theorem good_c_order_9 : GoodT ⟨(TI.of Try.prog), (fnOf Try.prog), ⟨[], ctOf [ct_byp]⟩, 400, Try.f12, (some ct_order.R)⟩ (flat (loopBody (flat (bodyOf Try.f12)) 3)) (oF ++ lem_c_order_9) (oT (.var 101)).toS (some ⟨(oT (.var 101)), oF, [(101, some 4398046511105)]⟩) [(0, ⟨(oT (.var 0)), oF0, []⟩)] .leaf := by
  unfold GoodT
  rw [good_c_order_9paths]
  simp only [List.forall_mem_cons]
  exact ⟨good_c_order_9_0, fun _ h => absurd h List.not_mem_nil⟩
theorem good_c_order_10paths : DT.paths .leaf = [[]] := by kernel_rfl
theorem good_c_order_10 : GoodT ⟨(TI.of Try.prog), (fnOf Try.prog), ⟨[], ctOf [ct_byp]⟩, 400, Try.f12, (some ct_order.R)⟩ ((flat (bodyOf Try.f12)).drop 4) (oF0 ++ lem_c_order_10) (oT (.var 0)).toS none [] .leaf := by
  unfold GoodT
  rw [good_c_order_10paths]
  simp only [List.forall_mem_cons]
  exact ⟨good_c_order_10_0, fun _ h => absurd h List.not_mem_nil⟩
theorem good_c_reford_11paths : DT.paths .leaf = [[]] := by kernel_rfl
theorem good_c_reford_11 : GoodT ⟨(TI.of Try.prog), (fnOf Try.prog), ⟨[], ctOf [ct_rbyp]⟩, 400, Try.f14, (some ct_reford.R)⟩ ((flat (bodyOf Try.f14)).take 3) (ct_reford.facts ++ lem_c_reford_11) ct_reford.s0 (some ⟨(pT (.var 101)), pF, []⟩) [] .leaf := by
  unfold GoodT
  rw [good_c_reford_11paths]
  simp only [List.forall_mem_cons]
  exact ⟨good_c_reford_11_0, fun _ h => absurd h List.not_mem_nil⟩
theorem good_c_reford_12paths : DT.paths .leaf = [[]] := by kernel_rfl
theorem good_c_reford_12 : GoodT ⟨(TI.of Try.prog), (fnOf Try.prog), ⟨[], ctOf [ct_rbyp]⟩, 400, Try.f14, (some ct_reford.R)⟩ (flat (loopBody (flat (bodyOf Try.f14)) 3)) (pF ++ lem_c_reford_12) (pT (.var 101)).toS (some ⟨(pT (.var 101)), pF, [(101, some 4398046511105)]⟩) [(0, ⟨(pT (.var 0)), pF0, []⟩)] .leaf := by
  unfold GoodT
  rw [good_c_reford_12paths]
  simp only [List.forall_mem_cons]
  exact ⟨good_c_reford_12_0, fun _ h => absurd h List.not_mem_nil⟩
theorem good_c_reford_13paths : DT.paths .leaf = [[]] := by kernel_rfl
theorem good_c_reford_13 : GoodT ⟨(TI.of Try.prog), (fnOf Try.prog), ⟨[], ctOf [ct_rbyp]⟩, 400, Try.f14, (some ct_reford.R)⟩ ((flat (bodyOf Try.f14)).drop 4) (pF0 ++ lem_c_reford_13) (pT (.var 0)).toS none [] .leaf := by
  unfold GoodT
  rw [good_c_reford_13paths]
  simp only [List.forall_mem_cons]
  exact ⟨good_c_reford_13_0, fun _ h => absurd h List.not_mem_nil⟩
theorem good_l0_14paths : DT.paths .leaf = [[]] := by kernel_rfl
theorem good_l0_14 : GoodT ⟨(TI.of Try.prog), (fnOf Try.prog), ⟨[], ctOf [ct_byp, ct_rbyp, ct_samei, ct_samer, ct_order, ct_reford]⟩, 400, Try.f6, none⟩ (flat (bodyOf Try.f6)) (facts0 ++ lem_l0_14) st0 none [] .leaf := by
  unfold GoodT
  rw [good_l0_14paths]
  simp only [List.forall_mem_cons]
  exact ⟨good_l0_14_0, fun _ h => absurd h List.not_mem_nil⟩
theorem good_l1_15paths : DT.paths .leaf = [[]] := by kernel_rfl
theorem good_l1_15 : GoodT ⟨(TI.of Try.prog), (fnOf Try.prog), ⟨[], ctOf [ct_byp, ct_rbyp, ct_samei, ct_samer, ct_order, ct_reford]⟩, 400, Try.f6, none⟩ ((flat (bodyOf Try.f6)).take 6) (facts1 ++ lem_l1_15) st1 (some ⟨T, F, []⟩) [] .leaf := by
  unfold GoodT
  rw [good_l1_15paths]
  simp only [List.forall_mem_cons]
  exact ⟨good_l1_15_0, fun _ h => absurd h List.not_mem_nil⟩
theorem good_l1_16paths : DT.paths .leaf = [[]] := by kernel_rfl
theorem good_l1_16 : GoodT ⟨(TI.of Try.prog), (fnOf Try.prog), ⟨[], ctOf [ct_byp, ct_rbyp, ct_samei, ct_samer, ct_order, ct_reford]⟩, 400, Try.f6, none⟩ (flat (loopBody (flat (bodyOf Try.f6)) 6)) (F ++ lem_l1_16) T.toS (some ⟨T, F, [(101, some 4398046511106)]⟩) [(0, ⟨TE, FE, []⟩)] .leaf := by
  unfold GoodT
  rw [good_l1_16paths]
  simp only [List.forall_mem_cons]
  exact ⟨good_l1_16_0, fun _ h => absurd h List.not_mem_nil⟩
theorem good_l1_17paths : DT.paths .leaf = [[]] := by kernel_rfl
theorem good_l1_17 : GoodT ⟨(TI.of Try.prog), (fnOf Try.prog), ⟨[], ctOf [ct_byp, ct_rbyp, ct_samei, ct_samer, ct_order, ct_reford]⟩, 400, Try.f6, none⟩ ((flat (bodyOf Try.f6)).drop 7) (FE ++ lem_l1_17) TE.toS none [] .leaf := by
  unfold GoodT
  rw [good_l1_17paths]
  simp only [List.forall_mem_cons]
  exact ⟨good_l1_17_0, fun _ h => absurd h List.not_mem_nil⟩
theorem hl0 : (flat (bodyOf Try.f18))[4]? = some (.block 0 (.loop (loopBody (flat (bodyOf Try.f18)) 4))) := by kernel_rfl
theorem hl1 : (flat (bodyOf Try.f21))[4]? = some (.block 0 (.loop (loopBody (flat (bodyOf Try.f21)) 4))) := by kernel_rfl
theorem hl2 : (flat (bodyOf Try.f12))[3]? = some (.block 0 (.loop (loopBody (flat (bodyOf Try.f12)) 3))) := by kernel_rfl
theorem hl3 : (flat (bodyOf Try.f14))[3]? = some (.block 0 (.loop (loopBody (flat (bodyOf Try.f14)) 3))) := by kernel_rfl
theorem hl4 : (flat (bodyOf Try.f6))[6]? = some (.block 0 (.loop (loopBody (flat (bodyOf Try.f6)) 6))) := by kernel_rfl
theorem hC_c_byp_0 {C : Ctx} (h : C.n0 = ct_byp.nx) : LabsOk C (some ct_byp.R) none [] := by
  refine ⟨fun g hg => ?_, fun i g hg => ?_, ?_⟩
  · first | cases hg; done | (cases hg; rw [h]; decide)
  · simp only [tgtOf] at hg; first | (cases hg; done) | (repeat' split at hg <;> first | (cases hg; done) | (cases hg; rw [h]; decide))
  · show C.n0 ≤ _; rw [h]; decide
theorem hC_c_rbyp_1 {C : Ctx} (h : C.n0 = ct_rbyp.nx) : LabsOk C (some ct_rbyp.R) none [] := by
  refine ⟨fun g hg => ?_, fun i g hg => ?_, ?_⟩
  · first | cases hg; done | (cases hg; rw [h]; decide)
  · simp only [tgtOf] at hg; first | (cases hg; done) | (repeat' split at hg <;> first | (cases hg; done) | (cases hg; rw [h]; decide))
  · show C.n0 ≤ _; rw [h]; decide
theorem hC_c_samei_2 {C : Ctx} (h : C.n0 = ct_samei.nx) : LabsOk C (some ct_samei.R) (some ⟨iT, iF, []⟩) [] := by
  refine ⟨fun g hg => ?_, fun i g hg => ?_, ?_⟩
  · first | cases hg; done | (cases hg; rw [h]; decide)
  · simp only [tgtOf] at hg; first | (cases hg; done) | (repeat' split at hg <;> first | (cases hg; done) | (cases hg; rw [h]; decide))
  · show C.n0 ≤ _; rw [h]; decide
theorem hC_c_samei_3 {C : Ctx} (h : C.n0 = ct_samei.nx) : LabsOk C (some ct_samei.R) (some ⟨iT, iF, [(101, some 140737488355329)]⟩) [(0, ⟨iE, iG, []⟩)] := by
  refine ⟨fun g hg => ?_, fun i g hg => ?_, ?_⟩
  · first | cases hg; done | (cases hg; rw [h]; decide)
  · simp only [tgtOf] at hg; first | (cases hg; done) | (repeat' split at hg <;> first | (cases hg; done) | (cases hg; rw [h]; decide))
  · show C.n0 ≤ _; rw [h]; decide
theorem hC_c_samei_4 {C : Ctx} (h : C.n0 = ct_samei.nx) : LabsOk C (some ct_samei.R) none [] := by
  refine ⟨fun g hg => ?_, fun i g hg => ?_, ?_⟩
  · first | cases hg; done | (cases hg; rw [h]; decide)
  · simp only [tgtOf] at hg; first | (cases hg; done) | (repeat' split at hg <;> first | (cases hg; done) | (cases hg; rw [h]; decide))
  · show C.n0 ≤ _; rw [h]; decide
theorem hC_c_samer_5 {C : Ctx} (h : C.n0 = ct_samer.nx) : LabsOk C (some ct_samer.R) (some ⟨rT, rF, []⟩) [] := by
  refine ⟨fun g hg => ?_, fun i g hg => ?_, ?_⟩
  · first | cases hg; done | (cases hg; rw [h]; decide)
  · simp only [tgtOf] at hg; first | (cases hg; done) | (repeat' split at hg <;> first | (cases hg; done) | (cases hg; rw [h]; decide))
  · show C.n0 ≤ _; rw [h]; decide
theorem hC_c_samer_6 {C : Ctx} (h : C.n0 = ct_samer.nx) : LabsOk C (some ct_samer.R) (some ⟨rT, rF, [(101, some 140737488355329)]⟩) [(0, ⟨rE, rG, []⟩)] := by
  refine ⟨fun g hg => ?_, fun i g hg => ?_, ?_⟩
  · first | cases hg; done | (cases hg; rw [h]; decide)
  · simp only [tgtOf] at hg; first | (cases hg; done) | (repeat' split at hg <;> first | (cases hg; done) | (cases hg; rw [h]; decide))
  · show C.n0 ≤ _; rw [h]; decide
theorem hC_c_samer_7 {C : Ctx} (h : C.n0 = ct_samer.nx) : LabsOk C (some ct_samer.R) none [] := by
  refine ⟨fun g hg => ?_, fun i g hg => ?_, ?_⟩
  · first | cases hg; done | (cases hg; rw [h]; decide)
  · simp only [tgtOf] at hg; first | (cases hg; done) | (repeat' split at hg <;> first | (cases hg; done) | (cases hg; rw [h]; decide))
  · show C.n0 ≤ _; rw [h]; decide
theorem hC_c_order_8 {C : Ctx} (h : C.n0 = ct_order.nx) : LabsOk C (some ct_order.R) (some ⟨(oT (.var 101)), oF, []⟩) [] := by
  refine ⟨fun g hg => ?_, fun i g hg => ?_, ?_⟩
  · first | cases hg; done | (cases hg; rw [h]; decide)
  · simp only [tgtOf] at hg; first | (cases hg; done) | (repeat' split at hg <;> first | (cases hg; done) | (cases hg; rw [h]; decide))
  · show C.n0 ≤ _; rw [h]; decide
theorem hC_c_order_9 {C : Ctx} (h : C.n0 = ct_order.nx) : LabsOk C (some ct_order.R) (some ⟨(oT (.var 101)), oF, [(101, some 4398046511105)]⟩) [(0, ⟨(oT (.var 0)), oF0, []⟩)] := by
  refine ⟨fun g hg => ?_, fun i g hg => ?_, ?_⟩
  · first | cases hg; done | (cases hg; rw [h]; decide)
  · simp only [tgtOf] at hg; first | (cases hg; done) | (repeat' split at hg <;> first | (cases hg; done) | (cases hg; rw [h]; decide))
  · show C.n0 ≤ _; rw [h]; decide
theorem hC_c_order_10 {C : Ctx} (h : C.n0 = ct_order.nx) : LabsOk C (some ct_order.R) none [] := by
  refine ⟨fun g hg => ?_, fun i g hg => ?_, ?_⟩
  · first | cases hg; done | (cases hg; rw [h]; decide)
  · simp only [tgtOf] at hg; first | (cases hg; done) | (repeat' split at hg <;> first | (cases hg; done) | (cases hg; rw [h]; decide))
  · show C.n0 ≤ _; rw [h]; decide
theorem hC_c_reford_11 {C : Ctx} (h : C.n0 = ct_reford.nx) : LabsOk C (some ct_reford.R) (some ⟨(pT (.var 101)), pF, []⟩) [] := by
  refine ⟨fun g hg => ?_, fun i g hg => ?_, ?_⟩
  · first | cases hg; done | (cases hg; rw [h]; decide)
  · simp only [tgtOf] at hg; first | (cases hg; done) | (repeat' split at hg <;> first | (cases hg; done) | (cases hg; rw [h]; decide))
  · show C.n0 ≤ _; rw [h]; decide
theorem hC_c_reford_12 {C : Ctx} (h : C.n0 = ct_reford.nx) : LabsOk C (some ct_reford.R) (some ⟨(pT (.var 101)), pF, [(101, some 4398046511105)]⟩) [(0, ⟨(pT (.var 0)), pF0, []⟩)] := by
  refine ⟨fun g hg => ?_, fun i g hg => ?_, ?_⟩
  · first | cases hg; done | (cases hg; rw [h]; decide)
  · simp only [tgtOf] at hg; first | (cases hg; done) | (repeat' split at hg <;> first | (cases hg; done) | (cases hg; rw [h]; decide))
  · show C.n0 ≤ _; rw [h]; decide
theorem hC_c_reford_13 {C : Ctx} (h : C.n0 = ct_reford.nx) : LabsOk C (some ct_reford.R) none [] := by
  refine ⟨fun g hg => ?_, fun i g hg => ?_, ?_⟩
  · first | cases hg; done | (cases hg; rw [h]; decide)
  · simp only [tgtOf] at hg; first | (cases hg; done) | (repeat' split at hg <;> first | (cases hg; done) | (cases hg; rw [h]; decide))
  · show C.n0 ≤ _; rw [h]; decide
theorem hC_l0_14 {C : Ctx} (h : C.n0 = 0) : LabsOk C none none [] := labsOk_zero h _ _ _
theorem hC_l1_15 {C : Ctx} (h : C.n0 = 0) : LabsOk C none (some ⟨T, F, []⟩) [] := labsOk_zero h _ _ _
theorem hC_l1_16 {C : Ctx} (h : C.n0 = 0) : LabsOk C none (some ⟨T, F, [(101, some 4398046511106)]⟩) [(0, ⟨TE, FE, []⟩)] := labsOk_zero h _ _ _
theorem hC_l1_17 {C : Ctx} (h : C.n0 = 0) : LabsOk C none none [] := labsOk_zero h _ _ _
theorem fit_byp : ct_byp.fit = true := by kernel_rfl
theorem c_byp_ct : ∀ ρ, CallOk Try.prog ρ (ctOf []) := ctOf_ok (fun _ h => absurd h List.not_mem_nil)
theorem ok_byp : ct_byp.ok Try.prog :=
  Ctr.ok_of (x := ⟨(TI.of Try.prog), (fnOf Try.prog), ⟨[], ctOf []⟩, 400, Try.f7, (some ct_byp.R)⟩) (body := bodyOf Try.f7) (by kernel_rfl) (by kernel_rfl) rfl (by kernel_rfl) (fun C hC => (From.run mixed (tysOf _) fnOk c_byp_ct (hC_c_byp_0 hC) good_c_byp_0 lem_c_byp_0_ok))
theorem fit_rbyp : ct_rbyp.fit = true := by kernel_rfl
theorem c_rbyp_ct : ∀ ρ, CallOk Try.prog ρ (ctOf []) := ctOf_ok (fun _ h => absurd h List.not_mem_nil)
theorem ok_rbyp : ct_rbyp.ok Try.prog :=
  Ctr.ok_of (x := ⟨(TI.of Try.prog), (fnOf Try.prog), ⟨[], ctOf []⟩, 400, Try.f9, (some ct_rbyp.R)⟩) (body := bodyOf Try.f9) (by kernel_rfl) (by kernel_rfl) rfl (by kernel_rfl) (fun C hC => (From.run mixed (tysOf _) fnOk c_rbyp_ct (hC_c_rbyp_1 hC) good_c_rbyp_1 lem_c_rbyp_1_ok))
theorem fit_samei : ct_samei.fit = true := by kernel_rfl
theorem c_samei_ct : ∀ ρ, CallOk Try.prog ρ (ctOf []) := ctOf_ok (fun _ h => absurd h List.not_mem_nil)
theorem ok_samei : ct_samei.ok Try.prog :=
  Ctr.ok_of (x := ⟨(TI.of Try.prog), (fnOf Try.prog), ⟨[], ctOf []⟩, 400, Try.f18, (some ct_samei.R)⟩) (body := bodyOf Try.f18) (by kernel_rfl) (by kernel_rfl) rfl (by kernel_rfl) (fun C hC => (From.cut (i := 4) hl0 (From.run mixed (tysOf _) fnOk c_samei_ct (hC_c_samei_2 hC) good_c_samei_2 lem_c_samei_2_ok) (From.loop (c := 101) (B := 140737488355329) (cs := []) (g := ⟨iT, iF, [(101, some 140737488355329)]⟩) rfl rfl rfl (From.run mixed (tysOf _) fnOk c_samei_ct (hC_c_samei_3 hC) good_c_samei_3 lem_c_samei_3_ok) (by simp) (by simp [tgtOf])) (From.run mixed (tysOf _) fnOk c_samei_ct (hC_c_samei_4 hC) good_c_samei_4 lem_c_samei_4_ok) (c := []) rfl rfl (by simp) (by simp [tgtOf])))
theorem fit_samer : ct_samer.fit = true := by kernel_rfl
theorem c_samer_ct : ∀ ρ, CallOk Try.prog ρ (ctOf []) := ctOf_ok (fun _ h => absurd h List.not_mem_nil)
theorem ok_samer : ct_samer.ok Try.prog :=
  Ctr.ok_of (x := ⟨(TI.of Try.prog), (fnOf Try.prog), ⟨[], ctOf []⟩, 400, Try.f21, (some ct_samer.R)⟩) (body := bodyOf Try.f21) (by kernel_rfl) (by kernel_rfl) rfl (by kernel_rfl) (fun C hC => (From.cut (i := 4) hl1 (From.run mixed (tysOf _) fnOk c_samer_ct (hC_c_samer_5 hC) good_c_samer_5 lem_c_samer_5_ok) (From.loop (c := 101) (B := 140737488355329) (cs := []) (g := ⟨rT, rF, [(101, some 140737488355329)]⟩) rfl rfl rfl (From.run mixed (tysOf _) fnOk c_samer_ct (hC_c_samer_6 hC) good_c_samer_6 lem_c_samer_6_ok) (by simp) (by simp [tgtOf])) (From.run mixed (tysOf _) fnOk c_samer_ct (hC_c_samer_7 hC) good_c_samer_7 lem_c_samer_7_ok) (c := []) rfl rfl (by simp) (by simp [tgtOf])))
theorem fit_order : ct_order.fit = true := by kernel_rfl
theorem c_order_ct : ∀ ρ, CallOk Try.prog ρ (ctOf [ct_byp]) := ctOf_ok (by
  simp only [List.forall_mem_cons]
  exact ⟨⟨fit_byp, ok_byp⟩, fun _ h => absurd h List.not_mem_nil⟩)
theorem ok_order : ct_order.ok Try.prog :=
  Ctr.ok_of (x := ⟨(TI.of Try.prog), (fnOf Try.prog), ⟨[], ctOf [ct_byp]⟩, 400, Try.f12, (some ct_order.R)⟩) (body := bodyOf Try.f12) (by kernel_rfl) (by kernel_rfl) rfl (by kernel_rfl) (fun C hC => (From.cut (i := 3) hl2 (From.run mixed (tysOf _) fnOk c_order_ct (hC_c_order_8 hC) good_c_order_8 lem_c_order_8_ok) (From.loop (c := 101) (B := 4398046511105) (cs := []) (g := ⟨(oT (.var 101)), oF, [(101, some 4398046511105)]⟩) rfl rfl rfl (From.run mixed (tysOf _) fnOk c_order_ct (hC_c_order_9 hC) good_c_order_9 lem_c_order_9_ok) (by simp) (by simp [tgtOf])) (From.run mixed (tysOf _) fnOk c_order_ct (hC_c_order_10 hC) good_c_order_10 lem_c_order_10_ok) (c := []) rfl rfl (by simp) (by simp [tgtOf])))
theorem fit_reford : ct_reford.fit = true := by kernel_rfl
theorem c_reford_ct : ∀ ρ, CallOk Try.prog ρ (ctOf [ct_rbyp]) := ctOf_ok (by
  simp only [List.forall_mem_cons]
  exact ⟨⟨fit_rbyp, ok_rbyp⟩, fun _ h => absurd h List.not_mem_nil⟩)
theorem ok_reford : ct_reford.ok Try.prog :=
  Ctr.ok_of (x := ⟨(TI.of Try.prog), (fnOf Try.prog), ⟨[], ctOf [ct_rbyp]⟩, 400, Try.f14, (some ct_reford.R)⟩) (body := bodyOf Try.f14) (by kernel_rfl) (by kernel_rfl) rfl (by kernel_rfl) (fun C hC => (From.cut (i := 3) hl3 (From.run mixed (tysOf _) fnOk c_reford_ct (hC_c_reford_11 hC) good_c_reford_11 lem_c_reford_11_ok) (From.loop (c := 101) (B := 4398046511105) (cs := []) (g := ⟨(pT (.var 101)), pF, [(101, some 4398046511105)]⟩) rfl rfl rfl (From.run mixed (tysOf _) fnOk c_reford_ct (hC_c_reford_12 hC) good_c_reford_12 lem_c_reford_12_ok) (by simp) (by simp [tgtOf])) (From.run mixed (tysOf _) fnOk c_reford_ct (hC_c_reford_13 hC) good_c_reford_13 lem_c_reford_13_ok) (c := []) rfl rfl (by simp) (by simp [tgtOf])))
theorem l0_ct : ∀ ρ, CallOk Try.prog ρ (ctOf [ct_byp, ct_rbyp, ct_samei, ct_samer, ct_order, ct_reford]) := ctOf_ok (by
  simp only [List.forall_mem_cons]
  exact ⟨⟨fit_byp, ok_byp⟩, ⟨fit_rbyp, ok_rbyp⟩, ⟨fit_samei, ok_samei⟩, ⟨fit_samer, ok_samer⟩, ⟨fit_order, ok_order⟩, ⟨fit_reford, ok_reford⟩, fun _ h => absurd h List.not_mem_nil⟩)
theorem hsym0 : symArgsT Try.prog Try.f6.params.toList 0 0 [true] = some (xs0, hs0, facts0, 2, 1) := by kernel_rfl
theorem run0 {C : Ctx} (hC : C.n0 = 0) : From Try.prog ⟨(TI.of Try.prog), (fnOf Try.prog), ⟨[], ctOf [ct_byp, ct_rbyp, ct_samei, ct_samer, ct_order, ct_reford]⟩, 400, Try.f6, none⟩ C st0 facts0 (flat (bodyOf Try.f6)) none [] :=
  (From.run mixed (tysOf _) fnOk l0_ct (hC_l0_14 hC) good_l0_14 lem_l0_14_ok)
theorem l1_ct : ∀ ρ, CallOk Try.prog ρ (ctOf [ct_byp, ct_rbyp, ct_samei, ct_samer, ct_order, ct_reford]) := ctOf_ok (by
  simp only [List.forall_mem_cons]
  exact ⟨⟨fit_byp, ok_byp⟩, ⟨fit_rbyp, ok_rbyp⟩, ⟨fit_samei, ok_samei⟩, ⟨fit_samer, ok_samer⟩, ⟨fit_order, ok_order⟩, ⟨fit_reford, ok_reford⟩, fun _ h => absurd h List.not_mem_nil⟩)
theorem hsym1 : symArgsT Try.prog Try.f6.params.toList 0 0 [false] = some (xs1, hs1, facts1, 2, 1) := by kernel_rfl
theorem run1 {C : Ctx} (hC : C.n0 = 0) : From Try.prog ⟨(TI.of Try.prog), (fnOf Try.prog), ⟨[], ctOf [ct_byp, ct_rbyp, ct_samei, ct_samer, ct_order, ct_reford]⟩, 400, Try.f6, none⟩ C st1 facts1 (flat (bodyOf Try.f6)) none [] :=
  (From.cut (i := 6) hl4 (From.run mixed (tysOf _) fnOk l1_ct (hC_l1_15 hC) good_l1_15 lem_l1_15_ok) (From.loop (c := 101) (B := 4398046511106) (cs := []) (g := ⟨T, F, [(101, some 4398046511106)]⟩) rfl rfl rfl (From.run mixed (tysOf _) fnOk l1_ct (hC_l1_16 hC) good_l1_16 lem_l1_16_ok) (by simp) (by simp [tgtOf])) (From.run mixed (tysOf _) fnOk l1_ct (hC_l1_17 hC) good_l1_17 lem_l1_17_ok) (c := []) rfl rfl (by simp) (by simp [tgtOf]))

theorem post_end {C : Ctx} {ρ : Env} {e : Exit} {a : Act} {w : World} (h : Post Try.prog ⟨(TI.of Try.prog), (fnOf Try.prog), ⟨[], ctOf [ct_byp, ct_rbyp, ct_samei, ct_samer, ct_order, ct_reford]⟩, 400, Try.f6, none⟩ C ρ none [] e a w) : EndAt Try.prog Try.f6 C none e a w := by
  cases e with
  | normal => exact h
  | ret => exact h
  | exit b => exact h.elim
  | panic ch => exact h.elim
  | outgrown => exact h.elim
  | goto l => exact h.elim
theorem walk : ∀ fl ∈ flagsAll Try.prog Try.f6.params.toList, ∃ xs hs k m q, symArgsT Try.prog Try.f6.params.toList 0 0 fl = some (xs, hs, k, m, q) ∧ ∀ ρ : Env, (∀ g ∈ k, Fact.holds ρ g) →
    ∀ (β : Lab) (W : World) (a : Act), TS (Ctx.law W β ρ) ρ β Try.f6.ntmps ⟨argSlots xs 0 .nil, putSets .leaf hs, q, []⟩ a W → WPs Try.prog (Sx.flat (bodyOf Try.f6)) (EndAt Try.prog Try.f6 (Ctx.law W β ρ) none) a W := by
  intro fl hfl
  rw [hfls] at hfl
  simp only [List.mem_cons, List.not_mem_nil, or_false] at hfl
  rcases hfl with rfl | rfl
  · exact ⟨xs0, hs0, facts0, 2, 1, hsym0, fun ρ hk β W a hs => (run0 (C := Ctx.law W β ρ) rfl ρ β a W hk hs).mono fun e a w he => post_end he⟩
  · exact ⟨xs1, hs1, facts1, 2, 1, hsym1, fun ρ hk β W a hs => (run1 (C := Ctx.law W β ρ) rfl ρ β a W hk hs).mono fun e a w he => post_end he⟩
theorem lifted (os : Os) (started : os.Started) (H : Type) (enc : TypeId × Value → H) :
    ReturnsInHanded {} Try.checked os 6 .any (Rows.hazardOrdersSpec.pre6 enc Try.prog Try.f6 Rows.hazardOrdersRow.domain false) (Rows.hazardOrdersSpec.post enc Try.prog Try.f6 false true false false) := by
  refine returnsInHanded_of_change_sized (C := Try.checked) own started (by kernel_rfl) Try.func6
    (ChangeSpec.witness6 (enc := enc) (C := Try.checked) false ⟨#[], zeros Try.prog Try.f6.params.toList, []⟩ 16 (by kernel_rfl) (by kernel_rfl) (by kernel_rfl) (by kernel_rfl)) ?_
  intro W base args ds gs before hval0 hW hcnd hwt0 _
  have hval : ∀ (j : Nat) t v, Try.f6.params[j]? = some t → args[j]? = some v → Value.okWide Try.prog W .any base t v := hval0
  have hW' := hW
  have hlt := hW.lt
  obtain ⟨p, q, hA0, hV, rfl, hfz, hnd⟩ := hW
  have hA : DataW.TrodAll enc Try.prog W 0 (fun _ => true) true Try.f6.params.toList args.toList ds p := hA0
  obtain ⟨rfl, rfl⟩ := trodVars_none hV
  have hwt1 : (DataW.weightsEach Try.prog (Try.f6.params.toList ++ Rows.hazardOrdersSpec.plain.varTypes Try.prog) (ds ++ [])).all (· ≤ reachBytes) = true := hwt0
  have hvt : Rows.hazardOrdersSpec.plain.varTypes Try.prog = [] := by kernel_rfl
  rw [hvt, List.append_nil, List.append_nil] at hwt1
  have hwt : ∀ x ∈ DataW.weightsEach Try.prog Try.f6.params.toList ds, x ≤ reachBytes := fun x hx => by simpa using List.all_eq_true.1 hwt1 x hx
  have hlen := trodAll_length hA
  have hsz : args.size = Try.f6.params.toList.length := by simpa using hlen.1
  have hd : ds.length = 1 := hlen.2.trans (by kernel_rfl)
  refine (law_TST hfunc hbody walk hsz (fun j t v ht hv => hval j t v (by simpa using ht) hv) hA hwt).mono fun e W' ⟨he, hk⟩ => ?_
  obtain ⟨d0, rfl⟩ : ∃ d0, ds = [d0] := by
    match ds, hd with
    | [d0], _ => exact ⟨d0, rfl⟩
  subst he
  have hb : Value.okWide Try.prog W' .any 0 4 (.bool true) := okWide_bool_mk bool_ _
  refine ⟨_, rfl, post_of_same (pa := p) (pv := []) hW' (fun _ _ _ => ?_) (fun sp hsp => args_again kids full (of_decide_eq_true (by kernel_rfl)) hA hk.old (fun x hx => hlt x (by simpa using hx)) sp (fun x hx => hsp x (by simpa using hx))) (fun _ _ => rfl) rfl
    (hk.grown.frame _) hk.grown.2.1 (ok_one rets rfl hb)⟩
  rw [rets]
  exact trodAll_cons_mk (shut_bool bool_ _) trodAll_mk0

theorem over : Rows.hazardOrdersRow.holds Try.pinned (OpenSpec.ofChange Rows.hazardOrdersSpec) :=
  OpenClaim.holds_of_wide 6 Try.f6 rfl rfl rfl rfl rfl rfl rfl ⟨rfl, rfl, rfl, rfl, rfl⟩ rfl rfl rfl rfl rfl (by kernel_rfl) Try.func6 (by kernel_rfl)
    (of_decide_eq_true (by kernel_rfl)) (by unfold Func.isWrapper; first | (rw [if_pos (by decide +kernel)]; kernel_rfl) | (rw [if_neg (by decide +kernel)]; exact ⟨rfl, rfl⟩))
    (fun os started H enc _ => lifted os started H enc)

/-- THE STATEMENT -/
theorem proved : Rows.HazardOrdersSaid :=
  over
#print axioms proved
end Go.Proofs.Ytgjdhgmnkgbhiaa.hazardOrders
