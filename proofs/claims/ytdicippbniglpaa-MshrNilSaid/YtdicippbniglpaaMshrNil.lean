/-
  'MshrNil' ('tappet/tappetlaw19.MshrNil'): the executor's runs (Sx) of the parts, checked by the kernel, put together by the rules of loops and by contracts of what is called, are the walk. Printed by program.
-/
import Derived.Test.YtdicippbniglpaaMshrNilR0
namespace Go.Proofs.Ytdicippbniglpaa.mshrNil
open Go.ChangeShapes Go.WideShapes Go.ChangeAt Go.RowKit Go.Sx
set_option linter.unusedVariables false
set_option linter.unusedSimpArgs false
theorem hbody : Try.f6.body = some (bodyOf Try.f6) := by kernel_rfl
theorem hfunc : Try.prog.funcs[6]? = some Try.f6 := by kernel_rfl
theorem hfls : flagsAll Try.prog Try.f6.params.toList = [[false, false, true], [false, false, false]] := by kernel_rfl
set_option maxRecDepth 100000
theorem own : ownKnob Try.prog.godebug = none := by kernel_rfl
theorem kids : Kids Try.prog (· < Try.prog.types.size) := kids_rows (by kernel_rfl) (by kernel_rfl)
theorem full : ∀ t e, t < Try.prog.types.size → Try.prog.underlying t = some (.slice e) → 0 < Try.prog.cellsOf e := slices_full_of Try.prog (by kernel_rfl)
theorem fnOk : FnOk Try.prog (fnOf Try.prog) := fnOf_ok (by kernel_rfl)
theorem mixed : Try.prog.follows .mixedOrders = true := by kernel_rfl
theorem rets : Try.f6.resultTypes = #[4] := by kernel_rfl
theorem bool_ : Try.prog.underlying 4 = some .bool := by kernel_rfl
theorem good_c_awake_0paths : DT.paths .leaf = [[]] := by kernel_rfl
theorem good_c_awake_0 : GoodT ⟨(TI.of Try.prog), (fnOf Try.prog), ⟨[], ctOf []⟩, 400, Try.f8, (some ct_awake.R)⟩ (flat (bodyOf Try.f8)) (ct_awake.facts ++ lem_c_awake_0) ct_awake.s0 none [] .leaf := by
  unfold GoodT
  rw [good_c_awake_0paths]
  simp only [List.forall_mem_cons]
  exact ⟨good_c_awake_0_0, fun _ h => absurd h List.not_mem_nil⟩
theorem good_c_All_1paths : DT.paths .leaf = [[]] := by kernel_rfl
theorem good_c_All_1 : GoodT ⟨(TI.of Try.prog), (fnOf Try.prog), ⟨[], ctOf []⟩, 400, Try.f38, (some ct_All.R)⟩ (flat (bodyOf Try.f38)) (ct_All.facts ++ lem_c_All_1) ct_All.s0 none [] .leaf := by
  unfold GoodT
  rw [good_c_All_1paths]
  simp only [List.forall_mem_cons]
  exact ⟨good_c_All_1_0, fun _ h => absurd h List.not_mem_nil⟩
theorem good_c_Find_2paths : DT.paths .leaf = [[]] := by kernel_rfl
theorem good_c_Find_2 : GoodT ⟨(TI.of Try.prog), (fnOf Try.prog), ⟨[], ctOf []⟩, 400, Try.f24, (some ct_Find.R)⟩ ((flat (bodyOf Try.f24)).take 3) (ct_Find.facts ++ lem_c_Find_2) ct_Find.s0 (some ⟨fT, FE, [], []⟩) [] .leaf := by
  unfold GoodT
  rw [good_c_Find_2paths]
  simp only [List.forall_mem_cons]
  exact ⟨good_c_Find_2_0, fun _ h => absurd h List.not_mem_nil⟩
theorem good_c_Find_3paths : DT.paths .leaf = [[]] := by kernel_rfl
theorem good_c_Find_3 : GoodT ⟨(TI.of Try.prog), (fnOf Try.prog), ⟨[], ctOf []⟩, 400, Try.f24, (some ct_Find.R)⟩ ((flat (bodyOf Try.f24)).drop 4) (FE ++ lem_c_Find_3) fT.toS none [] .leaf := by
  unfold GoodT
  rw [good_c_Find_3paths]
  simp only [List.forall_mem_cons]
  exact ⟨good_c_Find_3_0, fun _ h => absurd h List.not_mem_nil⟩
theorem good_l0_4paths : DT.paths .leaf = [[]] := by kernel_rfl
theorem good_l0_4 : GoodT ⟨(TI.of Try.prog), (fnOf Try.prog), ⟨[], ctOf [ct_awake, ct_Find]⟩, 400, Try.f6, none⟩ ((flat (bodyOf Try.f6)).take 12) (facts0 ++ lem_l0_4) st0 (some ⟨T0, F0, [], []⟩) [] .leaf := by
  unfold GoodT
  rw [good_l0_4paths]
  simp only [List.forall_mem_cons]
  exact ⟨good_l0_4_0, fun _ h => absurd h List.not_mem_nil⟩
theorem good_l0_5paths : DT.paths .leaf = [[]] := by kernel_rfl
theorem good_l0_5 : GoodT ⟨(TI.of Try.prog), (fnOf Try.prog), ⟨[], ctOf [ct_awake, ct_Find]⟩, 400, Try.f6, none⟩ ((flat (bodyOf Try.f6)).drop 13) (F0 ++ lem_l0_5) T0.toS none [] .leaf := by
  unfold GoodT
  rw [good_l0_5paths]
  simp only [List.forall_mem_cons]
  exact ⟨good_l0_5_0, fun _ h => absurd h List.not_mem_nil⟩
theorem good_l1_6paths : DT.paths .leaf = [[]] := by kernel_rfl
theorem good_l1_6 : GoodT ⟨(TI.of Try.prog), (fnOf Try.prog), ⟨[], ctOf [ct_awake, ct_Find]⟩, 400, Try.f6, none⟩ ((flat (bodyOf Try.f6)).take 12) (facts1 ++ lem_l1_6) st1 (some ⟨T1, F1, [], []⟩) [] .leaf := by
  unfold GoodT
  rw [good_l1_6paths]
  simp only [List.forall_mem_cons]
  exact ⟨good_l1_6_0, fun _ h => absurd h List.not_mem_nil⟩
theorem good_l1_7paths : DT.paths .leaf = [[]] := by kernel_rfl
theorem good_l1_7 : GoodT ⟨(TI.of Try.prog), (fnOf Try.prog), ⟨[], ctOf [ct_awake, ct_Find]⟩, 400, Try.f6, none⟩ ((flat (bodyOf Try.f6)).drop 13) (F1 ++ lem_l1_7) T1.toS none [] .leaf := by
  unfold GoodT
  rw [good_l1_7paths]
  simp only [List.forall_mem_cons]
  exact ⟨good_l1_7_0, fun _ h => absurd h List.not_mem_nil⟩
theorem hC_c_awake_0 {C : Ctx} (h : C.n0 = ct_awake.nx) : LabsOk C (some ct_awake.R) none [] := by
  refine ⟨fun g hg => ?_, fun i g hg => ?_, ?_⟩
  · first | cases hg; done | (cases hg; rw [h]; intro p hp; rcases List.mem_cons.1 hp with rfl | hp; decide; cases hp)
  · simp only [tgtOf] at hg; first | (cases hg; done) | (repeat' split at hg <;> first | (cases hg; done) | (cases hg; rw [h]; intro p hp; rcases List.mem_cons.1 hp with rfl | hp; decide; cases hp))
  · show C.n0 ≤ _; rw [h]; decide
theorem hC_c_All_1 {C : Ctx} (h : C.n0 = ct_All.nx) : LabsOk C (some ct_All.R) none [] := by
  refine ⟨fun g hg => ?_, fun i g hg => ?_, ?_⟩
  · first | cases hg; done | (cases hg; rw [h]; intro p hp; rcases List.mem_cons.1 hp with rfl | hp; decide; cases hp)
  · simp only [tgtOf] at hg; first | (cases hg; done) | (repeat' split at hg <;> first | (cases hg; done) | (cases hg; rw [h]; intro p hp; rcases List.mem_cons.1 hp with rfl | hp; decide; cases hp))
  · show C.n0 ≤ _; rw [h]; decide
theorem hC_c_Find_2 {C : Ctx} (h : C.n0 = 0) : LabsOk C (some ct_Find.R) (some ⟨fT, FE, [], []⟩) [] := labsOk_zero h _ _ _
theorem hC_c_Find_3 {C : Ctx} (h : C.n0 = 0) : LabsOk C (some ct_Find.R) none [] := labsOk_zero h _ _ _
theorem hC_l0_4 {C : Ctx} (h : C.n0 = 0) : LabsOk C none (some ⟨T0, F0, [], []⟩) [] := labsOk_zero h _ _ _
theorem hC_l0_5 {C : Ctx} (h : C.n0 = 0) : LabsOk C none none [] := labsOk_zero h _ _ _
theorem hC_l1_6 {C : Ctx} (h : C.n0 = 0) : LabsOk C none (some ⟨T1, F1, [], []⟩) [] := labsOk_zero h _ _ _
theorem hC_l1_7 {C : Ctx} (h : C.n0 = 0) : LabsOk C none none [] := labsOk_zero h _ _ _
theorem fit_awake : ct_awake.fit = true := by kernel_rfl
theorem c_awake_ct : ∀ ρ, CallOk Try.prog ρ (ctOf []) := ctOf_ok (fun _ h => absurd h List.not_mem_nil)
theorem ok_awake : ct_awake.ok Try.prog :=
  Ctr.ok_of (x := ⟨(TI.of Try.prog), (fnOf Try.prog), ⟨[], ctOf []⟩, 400, Try.f8, (some ct_awake.R)⟩) (body := bodyOf Try.f8) (by kernel_rfl) (by kernel_rfl) rfl (by kernel_rfl) (fun C hC => (From.run mixed (tysOf _) fnOk c_awake_ct (hC_c_awake_0 hC) good_c_awake_0 lem_c_awake_0_ok))
theorem fit_All : ct_All.fit = true := by kernel_rfl
theorem c_All_ct : ∀ ρ, CallOk Try.prog ρ (ctOf []) := ctOf_ok (fun _ h => absurd h List.not_mem_nil)
theorem ok_All : ct_All.ok Try.prog :=
  Ctr.ok_of (x := ⟨(TI.of Try.prog), (fnOf Try.prog), ⟨[], ctOf []⟩, 400, Try.f38, (some ct_All.R)⟩) (body := bodyOf Try.f38) (by kernel_rfl) (by kernel_rfl) rfl (by kernel_rfl) (fun C hC => (From.run mixed (tysOf _) fnOk c_All_ct (hC_c_All_1 hC) good_c_All_1 lem_c_All_1_ok))
theorem fit_Find : ct_Find.fit = true := by kernel_rfl
theorem c_Find_ct : ∀ ρ, CallOk Try.prog ρ (ctOf []) := ctOf_ok (fun _ h => absurd h List.not_mem_nil)
theorem nvr_Find : (flat (bodyOf Try.f24))[3]? = some (.block 0 (.rangeFunc (.tmp 10) (rngPs (flat (bodyOf Try.f24)) 3) (rngAs (flat (bodyOf Try.f24)) 3) (rngBd (flat (bodyOf Try.f24)) 3))) := by kernel_rfl
theorem nvs_Find : fT.toS.slots.get 10 = some (.v (.one (.fn 38 [] [(1, 0)]))) := by kernel_rfl
theorem nvh_Find : fT.toS.heap.get 1 = some ⟨true, .cells [.nils] 89⟩ := by kernel_rfl
theorem nvf_Find : fnOf Try.prog 38 = some Try.f38 := by kernel_rfl
theorem nvb_Find : Try.f38.body.isNone = false := by kernel_rfl
theorem ok_Find : ct_Find.ok Try.prog :=
  Ctr.ok_never (x := ⟨(TI.of Try.prog), (fnOf Try.prog), ⟨[], ctOf []⟩, 400, Try.f24, (some ct_Find.R)⟩) (body := bodyOf Try.f24) (by kernel_rfl) (by kernel_rfl) (by kernel_rfl) fun ρ β w hk a ht => by
    rw [cut_at nvr_Find]
    have hC : (ct_Find.ctx ρ β w).n0 = 0 := rfl
    exact never_wps (From.run mixed (tysOf _) fnOk c_Find_ct (hC_c_Find_2 hC) good_c_Find_2 lem_c_Find_2_ok) nvs_Find nvh_Find ok_All (fnOk _ _ nvf_Find).1 (fnOk _ _ nvf_Find).2 nvb_Find (fun _ _ h => h) (behind_of (fun C' hC => (From.run mixed (tysOf _) fnOk c_Find_ct (hC_c_Find_3 hC) good_c_Find_3 lem_c_Find_3_ok)) fun C' e w2 w3 h hf => REnd_flat rfl (fun _ _ _ _ => rfl) h hf) rfl ρ β a w hk ht
theorem l0_ct : ∀ ρ, CallOk Try.prog ρ (ctOf [ct_awake, ct_Find]) := ctOf_ok (by
  simp only [List.forall_mem_cons]
  exact ⟨⟨fit_awake, ok_awake⟩, ⟨fit_Find, ok_Find⟩, fun _ h => absurd h List.not_mem_nil⟩)
theorem hsym0 : symArgsT Try.prog Try.f6.params.toList 0 0 [false, false, true] = some (xs0, hs0, facts0, 4, 1) := by kernel_rfl
theorem nvr_l0 : (flat (bodyOf Try.f6))[12]? = some (.block 0 (.rangeFunc (.tmp 64) (rngPs (flat (bodyOf Try.f6)) 12) (rngAs (flat (bodyOf Try.f6)) 12) (rngBd (flat (bodyOf Try.f6)) 12))) := by kernel_rfl
theorem nvs_l0 : T0.toS.slots.get 64 = some (.v (.one (.fn 38 [] [(1, 0)]))) := by kernel_rfl
theorem nvh_l0 : T0.toS.heap.get 1 = some ⟨true, .cells [.nils] 89⟩ := by kernel_rfl
theorem nvf_l0 : fnOf Try.prog 38 = some Try.f38 := by kernel_rfl
theorem nvb_l0 : Try.f38.body.isNone = false := by kernel_rfl
theorem run0 (ρ : Env) (β : Lab) (W : World) (a : Act) (hk : ∀ g ∈ facts0, Fact.holds ρ g) (hs : TS (Ctx.law W β ρ) ρ β Try.f6.ntmps st0 a W) : WPs Try.prog (flat (bodyOf Try.f6)) (bodyPostM Fence.wide 0 Try.prog Try.f6 fun e w' => e = .returned (.bool true) ∧ Kept W w') a W := by
  rw [cut_at nvr_l0]
  have hC : (Ctx.law W β ρ).n0 = 0 := rfl
  exact never_wps (x := ⟨(TI.of Try.prog), (fnOf Try.prog), ⟨[], ctOf [ct_awake, ct_Find]⟩, 400, Try.f6, none⟩) (From.run mixed (tysOf _) fnOk l0_ct (hC_l0_4 hC) good_l0_4 lem_l0_4_ok) nvs_l0 nvh_l0 ok_All (fnOk _ _ nvf_l0).1 (fnOk _ _ nvf_l0).2 nvb_l0 (fun _ _ h => ⟨h.1, law_kept h.2⟩) (behind_of (fun C' hC => (From.run mixed (tysOf _) fnOk l0_ct (hC_l0_5 hC) good_l0_5 lem_l0_5_ok)) fun C' e w2 w3 h hf => ⟨h.1, law_kept hf⟩) rfl ρ β a W hk hs
theorem l1_ct : ∀ ρ, CallOk Try.prog ρ (ctOf [ct_awake, ct_Find]) := ctOf_ok (by
  simp only [List.forall_mem_cons]
  exact ⟨⟨fit_awake, ok_awake⟩, ⟨fit_Find, ok_Find⟩, fun _ h => absurd h List.not_mem_nil⟩)
theorem hsym1 : symArgsT Try.prog Try.f6.params.toList 0 0 [false, false, false] = some (xs1, hs1, facts1, 4, 1) := by kernel_rfl
theorem nvr_l1 : (flat (bodyOf Try.f6))[12]? = some (.block 0 (.rangeFunc (.tmp 64) (rngPs (flat (bodyOf Try.f6)) 12) (rngAs (flat (bodyOf Try.f6)) 12) (rngBd (flat (bodyOf Try.f6)) 12))) := by kernel_rfl
theorem nvs_l1 : T1.toS.slots.get 64 = some (.v (.one (.fn 38 [] [(1, 0)]))) := by kernel_rfl
theorem nvh_l1 : T1.toS.heap.get 1 = some ⟨true, .cells [.nils] 89⟩ := by kernel_rfl
theorem nvf_l1 : fnOf Try.prog 38 = some Try.f38 := by kernel_rfl
theorem nvb_l1 : Try.f38.body.isNone = false := by kernel_rfl
theorem run1 (ρ : Env) (β : Lab) (W : World) (a : Act) (hk : ∀ g ∈ facts1, Fact.holds ρ g) (hs : TS (Ctx.law W β ρ) ρ β Try.f6.ntmps st1 a W) : WPs Try.prog (flat (bodyOf Try.f6)) (bodyPostM Fence.wide 0 Try.prog Try.f6 fun e w' => e = .returned (.bool true) ∧ Kept W w') a W := by
  rw [cut_at nvr_l1]
  have hC : (Ctx.law W β ρ).n0 = 0 := rfl
  exact never_wps (x := ⟨(TI.of Try.prog), (fnOf Try.prog), ⟨[], ctOf [ct_awake, ct_Find]⟩, 400, Try.f6, none⟩) (From.run mixed (tysOf _) fnOk l1_ct (hC_l1_6 hC) good_l1_6 lem_l1_6_ok) nvs_l1 nvh_l1 ok_All (fnOk _ _ nvf_l1).1 (fnOk _ _ nvf_l1).2 nvb_l1 (fun _ _ h => ⟨h.1, law_kept h.2⟩) (behind_of (fun C' hC => (From.run mixed (tysOf _) fnOk l1_ct (hC_l1_7 hC) good_l1_7 lem_l1_7_ok)) fun C' e w2 w3 h hf => ⟨h.1, law_kept hf⟩) rfl ρ β a W hk hs

theorem post_end {C : Ctx} {ρ : Env} {e : Exit} {a : Act} {w : World} (h : Post Try.prog ⟨(TI.of Try.prog), (fnOf Try.prog), ⟨[], ctOf [ct_awake, ct_Find]⟩, 400, Try.f6, none⟩ C ρ none [] e a w) : EndAt Try.prog Try.f6 C none e a w := by
  cases e with
  | normal => exact h
  | ret => exact h
  | exit b => exact h.elim
  | panic ch => exact h.elim
  | outgrown => exact h.elim
  | goto l => exact h.elim
theorem walk : ∀ fl ∈ flagsAll Try.prog Try.f6.params.toList, ∃ xs hs k m q, symArgsT Try.prog Try.f6.params.toList 0 0 fl = some (xs, hs, k, m, q) ∧ ∀ ρ : Env, (∀ g ∈ k, Fact.holds ρ g) →
    ∀ (β : Lab) (W : World) (a : Act), TS (Ctx.law W β ρ) ρ β Try.f6.ntmps ⟨argSlots xs 0 .nil, putSets .leaf hs, q, []⟩ a W → WPs Try.prog (Sx.flat (bodyOf Try.f6)) (bodyPostM Fence.wide 0 Try.prog Try.f6 fun e w' => e = .returned (.bool true) ∧ Kept W w') a W := by
  intro fl hfl
  rw [hfls] at hfl
  simp only [List.mem_cons, List.not_mem_nil, or_false] at hfl
  rcases hfl with rfl | rfl
  · exact ⟨xs0, hs0, facts0, 4, 1, hsym0, fun ρ hk β W a hs => run0 ρ β W a hk hs⟩
  · exact ⟨xs1, hs1, facts1, 4, 1, hsym1, fun ρ hk β W a hs => run1 ρ β W a hk hs⟩
theorem lifted (os : Os) (started : os.Started) (H : Type) (enc : TypeId × Value → H) :
    ReturnsInHanded {} Try.checked os 6 .any (Rows.mshrNilSpec.pre6 enc Try.prog Try.f6 Rows.mshrNilRow.domain false) (Rows.mshrNilSpec.post enc Try.prog Try.f6 false true false false) := by
  refine returnsInHanded_of_change_sized (C := Try.checked) own started (by kernel_rfl) Try.func6
    (ChangeSpec.witness6 (enc := enc) (C := Try.checked) false ⟨#[], zeros Try.prog Try.f6.params.toList, []⟩ 16 (by kernel_rfl) (by kernel_rfl) (by kernel_rfl) (by kernel_rfl)) ?_
  intro W base args ds gs before hval0 hW hcnd hwt0 _
  have hval : ∀ (j : Nat) t v, Try.f6.params[j]? = some t → args[j]? = some v → Value.okWide Try.prog W .any base t v := hval0
  have hW' := hW
  have hlt := hW.lt
  obtain ⟨p, q, hA0, hV, rfl, hfz, hnd⟩ := hW
  have hA : DataW.TrodAll enc Try.prog W 0 (fun _ => true) true Try.f6.params.toList args.toList ds p := hA0
  obtain ⟨rfl, rfl⟩ := trodVars_none hV
  have hwt1 : (DataW.weightsEach Try.prog (Try.f6.params.toList ++ Rows.mshrNilSpec.plain.varTypes Try.prog) (ds ++ [])).all (· ≤ reachBytes) = true := hwt0
  have hvt : Rows.mshrNilSpec.plain.varTypes Try.prog = [] := by kernel_rfl
  rw [hvt, List.append_nil, List.append_nil] at hwt1
  have hwt : ∀ x ∈ DataW.weightsEach Try.prog Try.f6.params.toList ds, x ≤ reachBytes := fun x hx => by simpa using List.all_eq_true.1 hwt1 x hx
  have hlen := trodAll_length hA
  have hsz : args.size = Try.f6.params.toList.length := by simpa using hlen.1
  have hd : ds.length = 3 := hlen.2.trans (by kernel_rfl)
  refine (law_TSM hfunc hbody walk hsz (fun j t v ht hv => hval j t v (by simpa using ht) hv) hA hwt).mono fun e W' ⟨he, hk⟩ => ?_
  obtain ⟨d0, d1, d2, rfl⟩ : ∃ d0 d1 d2, ds = [d0, d1, d2] := by
    match ds, hd with
    | [d0, d1, d2], _ => exact ⟨d0, d1, d2, rfl⟩
  subst he
  have hb : Value.okWide Try.prog W' .any 0 4 (.bool true) := okWide_bool_mk bool_ _
  refine ⟨_, rfl, post_of_same (pa := p) (pv := []) hW' (fun _ _ _ => ?_) (fun sp hsp => args_again kids full (of_decide_eq_true (by kernel_rfl)) hA hk.old (fun x hx => hlt x (by simpa using hx)) sp (fun x hx => hsp x (by simpa using hx))) (fun _ _ => rfl) rfl
    (hk.grown.frame _) hk.grown.2.1 (ok_one rets rfl hb)⟩
  rw [rets]
  exact trodAll_cons_mk (shut_bool bool_ _) trodAll_mk0

theorem over : Rows.mshrNilRow.holds Try.pinned (OpenSpec.ofChange Rows.mshrNilSpec) :=
  OpenClaim.holds_of_wide 6 Try.f6 rfl rfl rfl rfl rfl rfl rfl ⟨rfl, rfl, rfl, rfl, rfl⟩ rfl rfl rfl rfl rfl (by kernel_rfl) Try.func6 (by kernel_rfl)
    (of_decide_eq_true (by kernel_rfl)) (by unfold Func.isWrapper; first | (rw [if_pos (by decide +kernel)]; kernel_rfl) | (rw [if_neg (by decide +kernel)]; exact ⟨rfl, rfl⟩))
    (fun os started H enc _ => lifted os started H enc)

/-- THE STATEMENT -/
theorem proved : Rows.MshrNilSaid :=
  over
#print axioms proved
end Go.Proofs.Ytdicippbniglpaa.mshrNil
