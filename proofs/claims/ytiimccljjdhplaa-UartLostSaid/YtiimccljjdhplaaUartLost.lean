/-
  'UartLost' ('tappet/tappetlaw13.UartLost'): one loop over what came in, counted; the executor's runs (Sx) of the parts, checked by the kernel, are the walk. Printed by program.
-/
import Derived.Test.YtiimccljjdhplaaUartLostR0
namespace Go.Proofs.Ytiimccljjdhplaa.uartLost
open Go.ChangeShapes Go.WideShapes Go.ChangeAt Go.RowKit Go.Sx
set_option linter.unusedVariables false
set_option linter.unusedSimpArgs false
theorem hloop : (flat (bodyOf Try.f7))[6]? = some (.block 0 (.loop (loopBody (flat (bodyOf Try.f7)) 6))) := by kernel_rfl
theorem hbody : Try.f7.body = some (bodyOf Try.f7) := by kernel_rfl
theorem hfunc : Try.prog.funcs[7]? = some Try.f7 := by kernel_rfl
theorem hfls : flagsAll Try.prog Try.f7.params.toList = [[true, false], [false, false]] := by kernel_rfl
set_option maxRecDepth 100000
theorem goodLpaths : DT.paths (.node (.bin .lt (.var 101) (.lit (.ofNat 1))) .leaf (.node (.bin .lt (.var 101) (.lit (.ofNat 2))) .leaf (.node (.bin .lt (.var 101) (.lit (.ofNat 3))) .leaf (.node (.bin .lt (.var 101) (.lit (.ofNat 4))) .leaf (.node (.bin .lt (.var 101) (.lit (.ofNat 5))) .leaf (.node (.bin .lt (.var 101) (.lit (.ofNat 6))) .leaf (.node (.bin .lt (.var 101) (.lit (.ofNat 7))) .leaf (.node (.bin .lt (.var 101) (.lit (.ofNat 8))) .leaf (.node (.bin .lt (.var 101) (.lit (.ofNat 9))) .leaf .leaf))))))))) = [[((.bin .lt (.var 101) (.lit (.ofNat 1))), true)], [((.bin .lt (.var 101) (.lit (.ofNat 1))), false), ((.bin .lt (.var 101) (.lit (.ofNat 2))), true)], [((.bin .lt (.var 101) (.lit (.ofNat 1))), false), ((.bin .lt (.var 101) (.lit (.ofNat 2))), false), ((.bin .lt (.var 101) (.lit (.ofNat 3))), true)], [((.bin .lt (.var 101) (.lit (.ofNat 1))), false), ((.bin .lt (.var 101) (.lit (.ofNat 2))), false), ((.bin .lt (.var 101) (.lit (.ofNat 3))), false), ((.bin .lt (.var 101) (.lit (.ofNat 4))), true)], [((.bin .lt (.var 101) (.lit (.ofNat 1))), false), ((.bin .lt (.var 101) (.lit (.ofNat 2))), false), ((.bin .lt (.var 101) (.lit (.ofNat 3))), false), ((.bin .lt (.var 101) (.lit (.ofNat 4))), false), ((.bin .lt (.var 101) (.lit (.ofNat 5))), true)], [((.bin .lt (.var 101) (.lit (.ofNat 1))), false), ((.bin .lt (.var 101) (.lit (.ofNat 2))), false), ((.bin .lt (.var 101) (.lit (.ofNat 3))), false), ((.bin .lt (.var 101) (.lit (.ofNat 4))), false), ((.bin .lt (.var 101) (.lit (.ofNat 5))), false), ((.bin .lt (.var 101) (.lit (.ofNat 6))), true)], [((.bin .lt (.var 101) (.lit (.ofNat 1))), false), ((.bin .lt (.var 101) (.lit (.ofNat 2))), false), ((.bin .lt (.var 101) (.lit (.ofNat 3))), false), ((.bin .lt (.var 101) (.lit (.ofNat 4))), false), ((.bin .lt (.var 101) (.lit (.ofNat 5))), false), ((.bin .lt (.var 101) (.lit (.ofNat 6))), false), ((.bin .lt (.var 101) (.lit (.ofNat 7))), true)], [((.bin .lt (.var 101) (.lit (.ofNat 1))), false), ((.bin .lt (.var 101) (.lit (.ofNat 2))), false), ((.bin .lt (.var 101) (.lit (.ofNat 3))), false), ((.bin .lt (.var 101) (.lit (.ofNat 4))), false), ((.bin .lt (.var 101) (.lit (.ofNat 5))), false), ((.bin .lt (.var 101) (.lit (.ofNat 6))), false), ((.bin .lt (.var 101) (.lit (.ofNat 7))), false), ((.bin .lt (.var 101) (.lit (.ofNat 8))), true)], [((.bin .lt (.var 101) (.lit (.ofNat 1))), false), ((.bin .lt (.var 101) (.lit (.ofNat 2))), false), ((.bin .lt (.var 101) (.lit (.ofNat 3))), false), ((.bin .lt (.var 101) (.lit (.ofNat 4))), false), ((.bin .lt (.var 101) (.lit (.ofNat 5))), false), ((.bin .lt (.var 101) (.lit (.ofNat 6))), false), ((.bin .lt (.var 101) (.lit (.ofNat 7))), false), ((.bin .lt (.var 101) (.lit (.ofNat 8))), false), ((.bin .lt (.var 101) (.lit (.ofNat 9))), true)], [((.bin .lt (.var 101) (.lit (.ofNat 1))), false), ((.bin .lt (.var 101) (.lit (.ofNat 2))), false), ((.bin .lt (.var 101) (.lit (.ofNat 3))), false), ((.bin .lt (.var 101) (.lit (.ofNat 4))), false), ((.bin .lt (.var 101) (.lit (.ofNat 5))), false), ((.bin .lt (.var 101) (.lit (.ofNat 6))), false), ((.bin .lt (.var 101) (.lit (.ofNat 7))), false), ((.bin .lt (.var 101) (.lit (.ofNat 8))), false), ((.bin .lt (.var 101) (.lit (.ofNat 9))), false)]] := by kernel_rfl
theorem goodLT : GoodT (TI.of Try.prog) (fnOf Try.prog) mbl 400 Try.f7 (flat (loopBody (flat (bodyOf Try.f7)) 6)) (factsL ++ lemL) T.toS (some T) factsL (some (101, 29)) (some (0, TE)) factsE (.node (.bin .lt (.var 101) (.lit (.ofNat 1))) .leaf (.node (.bin .lt (.var 101) (.lit (.ofNat 2))) .leaf (.node (.bin .lt (.var 101) (.lit (.ofNat 3))) .leaf (.node (.bin .lt (.var 101) (.lit (.ofNat 4))) .leaf (.node (.bin .lt (.var 101) (.lit (.ofNat 5))) .leaf (.node (.bin .lt (.var 101) (.lit (.ofNat 6))) .leaf (.node (.bin .lt (.var 101) (.lit (.ofNat 7))) .leaf (.node (.bin .lt (.var 101) (.lit (.ofNat 8))) .leaf (.node (.bin .lt (.var 101) (.lit (.ofNat 9))) .leaf .leaf))))))))) := by
  unfold GoodT
  rw [goodLpaths]
  simp only [List.forall_mem_cons]
  exact ⟨goodL_0, goodL_1, goodL_2, goodL_3, goodL_4, goodL_5, goodL_6, goodL_7, goodL_8, goodL_9, fun _ h => absurd h List.not_mem_nil⟩
theorem good2paths : DT.paths .leaf = [[]] := by kernel_rfl
theorem good2T : GoodT (TI.of Try.prog) (fnOf Try.prog) mbl 400 Try.f7 ((flat (bodyOf Try.f7)).drop (6 + 1)) (factsE ++ lemE) TE.toS none [] none none [] .leaf := by
  unfold GoodT
  rw [good2paths]
  simp only [List.forall_mem_cons]
  exact ⟨good2_0, fun _ h => absurd h List.not_mem_nil⟩
theorem hsym0 : symArgsT Try.prog Try.f7.params.toList 0 0 [true, false] = some (xs0, hs0, facts0, 3, 1) := by kernel_rfl
theorem good0n0paths : DT.paths .leaf = [[]] := by kernel_rfl
theorem good0n0T : GoodT (TI.of Try.prog) (fnOf Try.prog) mbl 400 Try.f7 ((flat (bodyOf Try.f7)).take (6 + 1)) (facts0 ++ []) ⟨argSlots xs0 0 .nil, putSets .leaf hs0, 1, []⟩ (some TE) factsE none none [] .leaf := by
  unfold GoodT
  rw [good0n0paths]
  simp only [List.forall_mem_cons]
  exact ⟨good0n0_0, fun _ h => absurd h List.not_mem_nil⟩
theorem hsym1 : symArgsT Try.prog Try.f7.params.toList 0 0 [false, false] = some (xs1, hs1, facts1, 3, 1) := by kernel_rfl
theorem good0n1paths : DT.paths .leaf = [[]] := by kernel_rfl
theorem good0n1T : GoodT (TI.of Try.prog) (fnOf Try.prog) mbl 400 Try.f7 ((flat (bodyOf Try.f7)).take 6) (facts1 ++ []) ⟨argSlots xs1 0 .nil, putSets .leaf hs1, 1, []⟩ (some T) factsL none none [] .leaf := by
  unfold GoodT
  rw [good0n1paths]
  simp only [List.forall_mem_cons]
  exact ⟨good0n1_0, fun _ h => absurd h List.not_mem_nil⟩

theorem own : ownKnob Try.prog.godebug = none := by kernel_rfl
theorem kids : Kids Try.prog (· < Try.prog.types.size) := kids_rows (by kernel_rfl) (by kernel_rfl)
theorem full : ∀ t e, t < Try.prog.types.size → Try.prog.underlying t = some (.slice e) → 0 < Try.prog.cellsOf e := slices_full_of Try.prog (by kernel_rfl)
theorem fnOk : FnOk Try.prog (fnOf Try.prog) := fnOf_ok (by kernel_rfl)
theorem mixed : Try.prog.follows .mixedOrders = true := by kernel_rfl
theorem rets : Try.f7.resultTypes = #[4] := by kernel_rfl
theorem bool_ : Try.prog.underlying 4 = some .bool := by kernel_rfl
theorem walk : ∀ fl ∈ flagsAll Try.prog Try.f7.params.toList, ∃ xs hs k m q, symArgsT Try.prog Try.f7.params.toList 0 0 fl = some (xs, hs, k, m, q) ∧ ∀ ρ : Env, (∀ g ∈ k, Fact.holds ρ g) →
    ∀ (β : Lab) (W : World) (a : Act), TS W ρ β Try.f7.ntmps ⟨argSlots xs 0 .nil, putSets .leaf hs, q, []⟩ a W → WPs Try.prog (Sx.flat (bodyOf Try.f7)) (TrueEnd Try.prog Try.f7 W) a W := by
  intro fl hfl
  rw [hfls] at hfl
  simp only [List.mem_cons, List.not_mem_nil, or_false] at hfl
  rcases hfl with rfl | rfl
  · exact ⟨xs0, hs0, facts0, 3, 1, hsym0, fun ρ hk β W a hs => loopNil mixed (tysOf _) fnOk good0n0T good2T lemE_ok hk hs⟩
  · exact ⟨xs1, hs1, facts1, 3, 1, hsym1, fun ρ hk β W a hs => loopT mixed (tysOf _) fnOk hloop good0n1T goodLT good2T lemL_ok lemE_ok hk hs⟩
theorem lifted (os : Os) (started : os.Started) (H : Type) (enc : TypeId × Value → H) :
    ReturnsInHanded {} Try.checked os 7 .any (Rows.uartLostSpec.pre6 enc Try.prog Try.f7 Rows.uartLostRow.domain false) (Rows.uartLostSpec.post enc Try.prog Try.f7 false true false false) := by
  refine returnsInHanded_of_change (C := Try.checked) own started (by kernel_rfl) Try.func7
    (ChangeSpec.witness6 (enc := enc) (C := Try.checked) false ⟨#[], zeros Try.prog Try.f7.params.toList, []⟩ 16 (by kernel_rfl) (by kernel_rfl) (by kernel_rfl) (by kernel_rfl)) ?_
  intro W base args ds gs before hval0 hW hcnd _
  have hval : ∀ (j : Nat) t v, Try.f7.params[j]? = some t → args[j]? = some v → Value.okWide Try.prog W .any base t v := hval0
  have hW' := hW
  have hlt := hW.lt
  obtain ⟨p, q, hA0, hV, rfl, hfz, hnd⟩ := hW
  have hA : DataW.TrodAll enc Try.prog W 0 (fun _ => true) true Try.f7.params.toList args.toList ds p := hA0
  obtain ⟨rfl, rfl⟩ := trodVars_none hV
  have hlen := trodAll_length hA
  have hsz : args.size = Try.f7.params.toList.length := by simpa using hlen.1
  have hd : ds.length = 2 := hlen.2.trans (by kernel_rfl)
  refine (law_TST hfunc hbody walk hsz (fun j t v ht hv => hval j t v (by simpa using ht) hv) hA).mono fun e W' ⟨he, hk⟩ => ?_
  obtain ⟨d0, d1, rfl⟩ : ∃ d0 d1, ds = [d0, d1] := by
    match ds, hd with
    | [d0, d1], _ => exact ⟨d0, d1, rfl⟩
  subst he
  have hb : Value.okWide Try.prog W' .any 0 4 (.bool true) := okWide_bool_mk bool_ _
  refine ⟨_, rfl, post_of_same (pa := p) (pv := []) hW' (fun _ _ _ => ?_) (fun sp hsp => args_again kids full (of_decide_eq_true (by kernel_rfl)) hA hk.old (fun x hx => hlt x (by simpa using hx)) sp (fun x hx => hsp x (by simpa using hx))) (fun _ _ => rfl) rfl
    (hk.grown.frame _) hk.grown.2.1 (ok_one rets rfl hb)⟩
  rw [rets]
  exact trodAll_cons_mk (shut_bool bool_ _) trodAll_mk0

theorem over : Rows.uartLostRow.holds Try.pinned (OpenSpec.ofChange Rows.uartLostSpec) :=
  OpenClaim.holds_of_wide 7 Try.f7 rfl rfl rfl rfl rfl rfl rfl ⟨rfl, rfl, rfl, rfl, rfl⟩ rfl rfl rfl rfl rfl (by kernel_rfl) Try.func7 (by kernel_rfl)
    (of_decide_eq_true (by kernel_rfl)) (by unfold Func.isWrapper; first | (rw [if_pos (by decide +kernel)]; kernel_rfl) | (rw [if_neg (by decide +kernel)]; exact ⟨rfl, rfl⟩))
    (fun os started H enc _ => lifted os started H enc)

/-- THE STATEMENT -/
theorem proved : Rows.UartLostSaid :=
  over
#print axioms proved
end Go.Proofs.Ytiimccljjdhplaa.uartLost
