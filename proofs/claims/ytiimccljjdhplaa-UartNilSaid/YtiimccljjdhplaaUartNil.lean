/-
  'UartNil' ('tappet/tappetlaw13.UartNil'): the executor's runs (Sx), checked by the kernel, are the walk. Printed by program.
-/
import Derived.Test.YtiimccljjdhplaaUartNilR0
namespace Go.Proofs.Ytiimccljjdhplaa.uartNil
open Go.ChangeShapes Go.WideShapes Go.ChangeAt Go.RowKit Go.Sx
set_option linter.unusedVariables false
set_option linter.unusedSimpArgs false
theorem own : ownKnob Try.prog.godebug = none := by kernel_rfl
theorem kids : Kids Try.prog (· < Try.prog.types.size) := kids_rows (by kernel_rfl) (by kernel_rfl)
theorem full : ∀ t e, t < Try.prog.types.size → Try.prog.underlying t = some (.slice e) → 0 < Try.prog.cellsOf e := slices_full_of Try.prog (by kernel_rfl)
theorem fnOk : FnOk Try.prog (fnOf Try.prog) := fnOf_ok (by kernel_rfl)
theorem mixed : Try.prog.follows .mixedOrders = true := by kernel_rfl
theorem hpaths : tree.paths = [[]] := by kernel_rfl
theorem hruns : ∀ path ∈ tree.paths, RunOk Try.prog (TI.of Try.prog) (fnOf Try.prog) 400 6 Try.f6.params.toList (lem ++ path) := by
  rw [hpaths]
  simp only [List.forall_mem_cons]
  exact ⟨ok0, fun _ h => absurd h List.not_mem_nil⟩
theorem rets : Try.f6.resultTypes = #[4] := by kernel_rfl
theorem bool_ : Try.prog.underlying 4 = some .bool := by kernel_rfl
set_option maxRecDepth 100000 in
theorem lifted (os : Os) (started : os.Started) (H : Type) (enc : TypeId × Value → H) :
    ReturnsInHanded {} Try.checked os 6 .any (Rows.uartNilSpec.pre6 enc Try.prog Try.f6 Rows.uartNilRow.domain false) (Rows.uartNilSpec.post enc Try.prog Try.f6 false true false false) := by
  refine returnsInHanded_of_change (C := Try.checked) own started (by kernel_rfl) Try.func6
    (ChangeSpec.witness6 (enc := enc) (C := Try.checked) false ⟨#[], zeros Try.prog Try.f6.params.toList, []⟩ 16 (by kernel_rfl) (by kernel_rfl) (by kernel_rfl) (by kernel_rfl)) ?_
  intro W base args ds gs before hval0 hW hcnd _
  have hval : ∀ (j : Nat) t v, Try.f6.params[j]? = some t → args[j]? = some v → Value.okWide Try.prog W .any base t v := hval0
  have hW' := hW
  have hlt := hW.lt
  obtain ⟨p, q, hA0, hV, rfl, hfz, hnd⟩ := hW
  have hA : DataW.TrodAll enc Try.prog W 0 (fun _ => true) true Try.f6.params.toList args.toList ds p := hA0
  obtain ⟨rfl, rfl⟩ := trodVars_none hV
  have hlen := trodAll_length hA
  have hsz : args.size = Try.f6.params.toList.length := by simpa using hlen.1
  have hd : ds.length = 4 := hlen.2.trans (by kernel_rfl)
  obtain ⟨d0, d1, d2, d3, rfl⟩ : ∃ d0 d1 d2 d3, ds = [d0, d1, d2, d3] := by
    match ds, hd with
    | [d0, d1, d2, d3], _ => exact ⟨d0, d1, d2, d3, rfl⟩
  refine (law_walk_tree mixed (tysOf _) fnOk tree lem (fun ρ _ => hlem ρ) hruns hsz (fun j t v ht hv => hval j t v (by simpa using ht) hv) (by kernel_rfl)).mono fun e W' ⟨he, hk⟩ => ?_
  subst he
  have hb : Value.okWide Try.prog W' .any 0 4 (.bool true) := okWide_bool_mk bool_ _
  refine ⟨_, rfl, post_of_same (pa := p) (pv := []) hW' (fun _ _ _ => ?_) (fun sp hsp => args_again kids full (of_decide_eq_true (by kernel_rfl)) hA hk.old (fun x hx => hlt x (by simpa using hx)) sp (fun x hx => hsp x (by simpa using hx))) (fun _ _ => rfl) rfl
    (hk.grown.frame _) hk.grown.2.1 (ok_one rets rfl hb)⟩
  rw [rets]
  exact trodAll_cons_mk (shut_bool bool_ _) trodAll_mk0

theorem over : Rows.uartNilRow.holds Try.pinned (OpenSpec.ofChange Rows.uartNilSpec) :=
  OpenClaim.holds_of_wide 6 Try.f6 rfl rfl rfl rfl rfl rfl rfl ⟨rfl, rfl, rfl, rfl, rfl⟩ rfl rfl rfl rfl rfl (by kernel_rfl) Try.func6 (by kernel_rfl)
    (of_decide_eq_true (by kernel_rfl)) (by unfold Func.isWrapper; first | (rw [if_pos (by decide +kernel)]; kernel_rfl) | (rw [if_neg (by decide +kernel)]; exact ⟨rfl, rfl⟩))
    (fun os started H enc _ => lifted os started H enc)

/-- THE STATEMENT -/
theorem proved : Rows.UartNilSaid :=
  over
#print axioms proved
end Go.Proofs.Ytiimccljjdhplaa.uartNil
