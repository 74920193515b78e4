/-
  'HazardTrue' ('tappet/tappetlaw23.HazardTrue'): one loop over what came in, counted; the executor's runs (Sx) of the parts, checked by the kernel, are the walk. Printed by program.
-/
import Derived.Test.YtgjdhgmnkgbhiaaHazardTrueR0
import Derived.Test.YtgjdhgmnkgbhiaaHazardTrueR1
namespace Go.Proofs.Ytgjdhgmnkgbhiaa.hazardTrue
open Go.ChangeShapes Go.WideShapes Go.ChangeAt Go.RowKit Go.Sx
set_option linter.unusedVariables false
set_option linter.unusedSimpArgs false
theorem hloop : (flat (bodyOf Try.f5))[10]? = some (.block 2 (.loop (loopBody (flat (bodyOf Try.f5)) 10))) := by kernel_rfl
theorem hbody : Try.f5.body = some (bodyOf Try.f5) := by kernel_rfl
theorem hfunc : Try.prog.funcs[5]? = some Try.f5 := by kernel_rfl
theorem hfls : flagsAll Try.prog Try.f5.params.toList = [[true], [false]] := by kernel_rfl
set_option maxRecDepth 100000
theorem goodTLpaths : DT.paths (.node (.bin .lt (.lit (.ofNat 0)) (.var 112)) (.node (.bin .lt (.lit (.ofNat 0)) (.var 116)) .leaf .leaf) (.node (.bin .lt (.lit (.ofNat 0)) (.var 116)) .leaf .leaf)) = [[((.bin .lt (.lit (.ofNat 0)) (.var 112)), true), ((.bin .lt (.lit (.ofNat 0)) (.var 116)), true)], [((.bin .lt (.lit (.ofNat 0)) (.var 112)), true), ((.bin .lt (.lit (.ofNat 0)) (.var 116)), false)], [((.bin .lt (.lit (.ofNat 0)) (.var 112)), false), ((.bin .lt (.lit (.ofNat 0)) (.var 116)), true)], [((.bin .lt (.lit (.ofNat 0)) (.var 112)), false), ((.bin .lt (.lit (.ofNat 0)) (.var 116)), false)]] := by kernel_rfl
theorem goodTLT : GoodT (TI.of Try.prog) (fnOf Try.prog) mbl 400 Try.f5 (flat (loopBody (flat (bodyOf Try.f5)) 10)) (factsL ++ lemL) T.toS (some T) factsL (some (101, 101)) (some (2, TE)) factsE (.node (.bin .lt (.lit (.ofNat 0)) (.var 112)) (.node (.bin .lt (.lit (.ofNat 0)) (.var 116)) .leaf .leaf) (.node (.bin .lt (.lit (.ofNat 0)) (.var 116)) .leaf .leaf)) := by
  unfold GoodT
  rw [goodTLpaths]
  simp only [List.forall_mem_cons]
  exact ⟨goodTL_0, goodTL_1, goodTL_2, goodTL_3, fun _ h => absurd h List.not_mem_nil⟩
theorem good2paths : DT.paths .leaf = [[]] := by kernel_rfl
theorem good2T : GoodT (TI.of Try.prog) (fnOf Try.prog) mbl 400 Try.f5 ((flat (bodyOf Try.f5)).drop (10 + 1)) (factsE ++ lemE) TE.toS none [] none none [] .leaf := by
  unfold GoodT
  rw [good2paths]
  simp only [List.forall_mem_cons]
  exact ⟨good2_0, fun _ h => absurd h List.not_mem_nil⟩
theorem hsym0 : symArgsT Try.prog Try.f5.params.toList 0 0 [true] = some (xs0, hs0, facts0, 2, 1) := by kernel_rfl
theorem good0n0paths : DT.paths .leaf = [[]] := by kernel_rfl
theorem good0n0T : GoodT (TI.of Try.prog) (fnOf Try.prog) mbl 400 Try.f5 ((flat (bodyOf Try.f5)).take (10 + 1)) (facts0 ++ []) ⟨argSlots xs0 0 .nil, putSets .leaf hs0, 1, []⟩ (some TE) factsE none none [] .leaf := by
  unfold GoodT
  rw [good0n0paths]
  simp only [List.forall_mem_cons]
  exact ⟨good0n0_0, fun _ h => absurd h List.not_mem_nil⟩
theorem hsym1 : symArgsT Try.prog Try.f5.params.toList 0 0 [false] = some (xs1, hs1, facts1, 2, 1) := by kernel_rfl
theorem good0n1paths : DT.paths .leaf = [[]] := by kernel_rfl
theorem good0n1T : GoodT (TI.of Try.prog) (fnOf Try.prog) mbl 400 Try.f5 ((flat (bodyOf Try.f5)).take 10) (facts1 ++ []) ⟨argSlots xs1 0 .nil, putSets .leaf hs1, 1, []⟩ (some T) factsL none none [] .leaf := by
  unfold GoodT
  rw [good0n1paths]
  simp only [List.forall_mem_cons]
  exact ⟨good0n1_0, fun _ h => absurd h List.not_mem_nil⟩

theorem own : ownKnob Try.prog.godebug = none := by kernel_rfl
theorem kids : Kids Try.prog (· < Try.prog.types.size) := kids_rows (by kernel_rfl) (by kernel_rfl)
theorem full : ∀ t e, t < Try.prog.types.size → Try.prog.underlying t = some (.slice e) → 0 < Try.prog.cellsOf e := slices_full_of Try.prog (by kernel_rfl)
theorem fnOk : FnOk Try.prog (fnOf Try.prog) := fnOf_ok (by kernel_rfl)
theorem mixed : Try.prog.follows .mixedOrders = true := by kernel_rfl
theorem rets : Try.f5.resultTypes = #[4] := by kernel_rfl
theorem bool_ : Try.prog.underlying 4 = some .bool := by kernel_rfl
theorem walk : ∀ fl ∈ flagsAll Try.prog Try.f5.params.toList, ∃ xs hs k m q, symArgsT Try.prog Try.f5.params.toList 0 0 fl = some (xs, hs, k, m, q) ∧ ∀ ρ : Env, (∀ g ∈ k, Fact.holds ρ g) →
    ∀ (β : Lab) (W : World) (a : Act), TS W ρ β Try.f5.ntmps ⟨argSlots xs 0 .nil, putSets .leaf hs, q, []⟩ a W → WPs Try.prog (Sx.flat (bodyOf Try.f5)) (TrueEnd Try.prog Try.f5 W) a W := by
  intro fl hfl
  rw [hfls] at hfl
  simp only [List.mem_cons, List.not_mem_nil, or_false] at hfl
  rcases hfl with rfl | rfl
  · exact ⟨xs0, hs0, facts0, 2, 1, hsym0, fun ρ hk β W a hs => loopNil mixed (tysOf _) fnOk good0n0T good2T lemE_ok hk hs⟩
  · exact ⟨xs1, hs1, facts1, 2, 1, hsym1, fun ρ hk β W a hs => loopT mixed (tysOf _) fnOk hloop good0n1T goodTLT good2T lemL_ok lemE_ok hk hs⟩
theorem lifted (os : Os) (started : os.Started) (H : Type) (enc : TypeId × Value → H) :
    ReturnsInHanded {} Try.checked os 5 .any (Rows.hazardTrueSpec.pre6 enc Try.prog Try.f5 Rows.hazardTrueRow.domain false) (Rows.hazardTrueSpec.post enc Try.prog Try.f5 false true false false) := by
  refine returnsInHanded_of_change (C := Try.checked) own started (by kernel_rfl) Try.func5
    (ChangeSpec.witness6 (enc := enc) (C := Try.checked) false ⟨#[], zeros Try.prog Try.f5.params.toList, []⟩ 16 (by kernel_rfl) (by kernel_rfl) (by kernel_rfl) (by kernel_rfl)) ?_
  intro W base args ds gs before hval0 hW hcnd _
  have hval : ∀ (j : Nat) t v, Try.f5.params[j]? = some t → args[j]? = some v → Value.okWide Try.prog W .any base t v := hval0
  have hW' := hW
  have hlt := hW.lt
  obtain ⟨p, q, hA0, hV, rfl, hfz, hnd⟩ := hW
  have hA : DataW.TrodAll enc Try.prog W 0 (fun _ => true) true Try.f5.params.toList args.toList ds p := hA0
  obtain ⟨rfl, rfl⟩ := trodVars_none hV
  have hlen := trodAll_length hA
  have hsz : args.size = Try.f5.params.toList.length := by simpa using hlen.1
  have hd : ds.length = 1 := hlen.2.trans (by kernel_rfl)
  refine (law_TST hfunc hbody walk hsz (fun j t v ht hv => hval j t v (by simpa using ht) hv) hA).mono fun e W' ⟨he, hk⟩ => ?_
  obtain ⟨d0, rfl⟩ : ∃ d0, ds = [d0] := by
    match ds, hd with
    | [d0], _ => exact ⟨d0, rfl⟩
  subst he
  have hb : Value.okWide Try.prog W' .any 0 4 (.bool true) := okWide_bool_mk bool_ _
  refine ⟨_, rfl, post_of_same (pa := p) (pv := []) hW' (fun _ _ _ => ?_) (fun sp hsp => args_again kids full (of_decide_eq_true (by kernel_rfl)) hA hk.old (fun x hx => hlt x (by simpa using hx)) sp (fun x hx => hsp x (by simpa using hx))) (fun _ _ => rfl) rfl
    (hk.grown.frame _) hk.grown.2.1 (ok_one rets rfl hb)⟩
  rw [rets]
  exact trodAll_cons_mk (shut_bool bool_ _) trodAll_mk0

theorem over : Rows.hazardTrueRow.holds Try.pinned (OpenSpec.ofChange Rows.hazardTrueSpec) :=
  OpenClaim.holds_of_wide 5 Try.f5 rfl rfl rfl rfl rfl rfl rfl ⟨rfl, rfl, rfl, rfl, rfl⟩ rfl rfl rfl rfl rfl (by kernel_rfl) Try.func5 (by kernel_rfl)
    (of_decide_eq_true (by kernel_rfl)) (by unfold Func.isWrapper; first | (rw [if_pos (by decide +kernel)]; kernel_rfl) | (rw [if_neg (by decide +kernel)]; exact ⟨rfl, rfl⟩))
    (fun os started H enc _ => lifted os started H enc)

/-- THE STATEMENT -/
theorem proved : Rows.HazardTrueSaid :=
  over
#print axioms proved
end Go.Proofs.Ytgjdhgmnkgbhiaa.hazardTrue
