/-
  'ClintRises' ('tappet/tappetlaw11.ClintRises'): one loop, by an invariant; the executor's runs (Sx) of the parts, checked by the kernel, are the walk. Printed by program but for the invariant's proofs.
-/
import Derived.Test.YthgpmdgbgoaldaaRows
import Derived.Test.YthgpmdgbgoaldaaSxU
namespace Go.Proofs.Ythgpmdgbgoaldaa.clintRises
open Go.ChangeShapes Go.WideShapes Go.ChangeAt Go.RowKit Go.Sx
set_option linter.unusedVariables false
set_option linter.unusedSimpArgs false
def xs : List V1 := [(.one (.int .u64 (.var 0))), (.one (.int .i64 (.var 1)))]
def facts0 : List Fact := [(.rng (.var 0) ((some (.ofNat 0)), (some (.ofNat 18446744073709551615)))), (.rng (.var 1) ((some (.negSucc 9223372036854775807)), (some (.ofNat 9223372036854775807))))]

/-- How many rounds; the time. -/
def nE : E := .bin .rem (.un (.wrap .u64) (.var 1)) (.lit (.ofNat 300))
def timeE (i : E) : E := .bin (.add .u64) (.var 0) i
def blkE (i : E) : Ent := ⟨true, .cells [.bool (.lit (.ofNat 0)), .int .u64 (timeE i), .int .u64 (timeE nE)] 46⟩
def slotsE : List (Nat × SV) := [(0, .v (.one (.int .u64 (.var 0)))), (5, .v (.one (.ptr 0 0))), (6, .v (.one (.int .i64 nE)))]
def T : Tm := ⟨(7, .v (.one (.int .i64 (.var 100)))) :: slotsE, [(0, blkE (.var 100))], 1⟩
def TE : Tm := ⟨slotsE, [(0, blkE nE)], 1⟩
def factsE : List Fact := [.rng (.var 0) (some (.ofNat 0), some (.ofNat 9223372036854775808)), .rng (.var 1) (some (.negSucc 9223372036854775807), some (.ofNat 9223372036854775807))]
def factsL : List Fact := .rng (.var 100) (some (.ofNat 0), some (.ofNat 300)) :: factsE

def obs0 : List Ob := [([((.bin .lt (.var 0) (.lit (.ofNat 9223372036854775809))), true)], (.next [((.lit (.ofNat 0)), (.var 100)), ((.var 0), (.var 0)), ((.bin .rem (.un (.wrap .u64) (.var 1)) (.lit (.ofNat 300))), (.bin .rem (.un (.wrap .u64) (.var 1)) (.lit (.ofNat 300)))), ((.lit (.ofNat 0)), (.lit (.ofNat 0))), ((.var 0), (.bin (.add .u64) (.var 0) (.var 100))), ((.bin (.add .u64) (.var 0) (.bin .rem (.un (.wrap .u64) (.var 1)) (.lit (.ofNat 300)))), (.bin (.add .u64) (.var 0) (.bin .rem (.un (.wrap .u64) (.var 1)) (.lit (.ofNat 300)))))]))]
def obsL : List Ob := [([((.bin .lt (.bin (.add .u64) (.var 100) (.var 0)) (.bin (.add .u64) (.var 0) (.bin .rem (.un (.wrap .u64) (.var 1)) (.lit (.ofNat 300))))), false), ((.bin .lt (.var 100) (.bin .rem (.un (.wrap .u64) (.var 1)) (.lit (.ofNat 300)))), true)], (.done (.lit (.ofNat 0)))),
  ([((.bin .lt (.bin (.add .u64) (.var 100) (.var 0)) (.bin (.add .u64) (.var 0) (.bin .rem (.un (.wrap .u64) (.var 1)) (.lit (.ofNat 300))))), true), ((.bin .lt (.var 100) (.bin .rem (.un (.wrap .u64) (.var 1)) (.lit (.ofNat 300)))), true)], (.next [((.bin (.add .i64) (.var 100) (.lit (.ofNat 1))), (.var 100)), ((.var 0), (.var 0)), ((.bin .rem (.un (.wrap .u64) (.var 1)) (.lit (.ofNat 300))), (.bin .rem (.un (.wrap .u64) (.var 1)) (.lit (.ofNat 300)))), ((.lit (.ofNat 0)), (.lit (.ofNat 0))), ((.bin (.add .u64) (.bin (.add .u64) (.var 0) (.var 100)) (.lit (.ofNat 1))), (.bin (.add .u64) (.var 0) (.var 100))), ((.bin (.add .u64) (.var 0) (.bin .rem (.un (.wrap .u64) (.var 1)) (.lit (.ofNat 300)))), (.bin (.add .u64) (.var 0) (.bin .rem (.un (.wrap .u64) (.var 1)) (.lit (.ofNat 300)))))])),
  ([((.bin .lt (.var 100) (.bin .rem (.un (.wrap .u64) (.var 1)) (.lit (.ofNat 300)))), false)], (.out [((.var 0), (.var 0)), ((.bin .rem (.un (.wrap .u64) (.var 1)) (.lit (.ofNat 300))), (.bin .rem (.un (.wrap .u64) (.var 1)) (.lit (.ofNat 300)))), ((.lit (.ofNat 0)), (.lit (.ofNat 0))), ((.bin (.add .u64) (.var 0) (.var 100)), (.bin (.add .u64) (.var 0) (.bin .rem (.un (.wrap .u64) (.var 1)) (.lit (.ofNat 300))))), ((.bin (.add .u64) (.var 0) (.bin .rem (.un (.wrap .u64) (.var 1)) (.lit (.ofNat 300)))), (.bin (.add .u64) (.var 0) (.bin .rem (.un (.wrap .u64) (.var 1)) (.lit (.ofNat 300)))))]))]
def obs2 : List Ob := [([((.bin .lt (.bin (.add .u64) (.var 0) (.bin .rem (.un (.wrap .u64) (.var 1)) (.lit (.ofNat 300)))) (.bin (.add .u64) (.bin (.add .u64) (.var 0) (.bin .rem (.un (.wrap .u64) (.var 1)) (.lit (.ofNat 300)))) (.lit (.ofNat 1)))), false)], (.done (.lit (.ofNat 0))))]
theorem hsym : symArgs Try.prog Try.f3.params.toList 0 = some (xs, facts0, 2) := by kernel_rfl
theorem hloop : (flat (bodyOf Try.f3))[8]? = some (.block 0 (.loop (loopBody (flat (bodyOf Try.f3)) 8))) := by kernel_rfl
theorem hbody : Try.f3.body = some (bodyOf Try.f3) := by kernel_rfl
theorem hfunc : Try.prog.funcs[3]? = some Try.f3 := by kernel_rfl
set_option maxRecDepth 100000
theorem run0 : runOb (TI.of Try.prog) (fnOf Try.prog) 400 Try.f3 ((flat (bodyOf Try.f3)).take 8) facts0 ⟨argSlots xs 0 .nil, .leaf, 0, []⟩ (some T) none = some obs0 := by kernel_rfl
theorem runL : runOb (TI.of Try.prog) (fnOf Try.prog) 400 Try.f3 (flat (loopBody (flat (bodyOf Try.f3)) 8)) factsL T.toS (some T) (some (0, TE)) = some obsL := by kernel_rfl
theorem run2 : runOb (TI.of Try.prog) (fnOf Try.prog) 400 Try.f3 ((flat (bodyOf Try.f3)).drop (8 + 1)) factsE TE.toS none none = some obs2 := by kernel_rfl

theorem nE_den (ρ : Env) : nE.den ρ = (ρ.v 1 % 18446744073709551616) % 300 := by
  simp only [nE, E.den, UO.den, BO.den, wrap_u64]
  rw [Int.tmod_eq_emod_of_nonneg (Int.emod_nonneg _ (by decide))]
  rfl
theorem nE_put (ρ : Env) (x : Int) : nE.den (ρ.put 100 x) = nE.den ρ := rfl
def InvE (ρ : Env) : Prop := ∀ g ∈ factsE, Fact.holds ρ g
def Inv (ρ : Env) : Prop := InvE ρ ∧ 0 ≤ ρ.v 100 ∧ ρ.v 100 ≤ nE.den ρ
def m (ρ : Env) : Nat := (300 - ρ.v 100).toNat
theorem InvE_put (ρ : Env) (x : Int) (h : InvE ρ) : InvE (ρ.put 100 x) := by
  intro g hg
  have := h g hg
  simp only [factsE, List.mem_cons, List.not_mem_nil, or_false] at hg
  rcases hg with rfl | rfl <;> exact this
theorem InvE_x0 {ρ : Env} (h : InvE ρ) : 0 ≤ ρ.v 0 ∧ ρ.v 0 ≤ 9223372036854775808 := by
  have := h _ (List.mem_cons_self ..)
  rw [rng_iff] at this
  exact this
theorem h0 : ∀ ρ, (∀ g ∈ facts0, Fact.holds ρ g) → ObsOk ρ obs0 Inv (fun _ => True) := by
  intro ρ hk ob hob hp
  have hx : 0 ≤ ρ.v 0 ∧ ρ.v 0 ≤ 18446744073709551615 := by
    have := hk _ (List.mem_cons_self ..)
    rw [rng_iff] at this
    exact this
  simp only [obs0, List.mem_cons, List.not_mem_nil, or_false] at hob
  subst hob
  have hlt : ρ.v 0 < 9223372036854775809 := (lt_iff.1 (hp _ (List.mem_cons_self ..))).2 rfl
  have hE : InvE ρ := by
    intro g hg
    simp only [factsE, List.mem_cons, List.not_mem_nil, or_false] at hg
    rcases hg with rfl | rfl
    · rw [rng_iff]; exact ⟨hx.1, by show ρ.v 0 ≤ 9223372036854775808; omega⟩
    · exact hk _ (by simp [facts0])
  refine ⟨ρ.put 100 0, ?_, InvE_put ρ 0 hE, ?_, ?_⟩
  · unfold Eqs
    simp only [List.forall_mem_cons]
    refine ⟨rfl, rfl, rfl, rfl, ?_, rfl, fun _ h => absurd h List.not_mem_nil⟩
    show ρ.v 0 = IntKind.u64.wrap (ρ.v 0 + 0)
    rw [wrap_u64]; omega
  · show (0 : Int) ≤ 0
    exact Int.le_refl _
  · rw [nE_put, nE_den]
    show (0 : Int) ≤ _
    omega
theorem hI : ∀ ρ, Inv ρ → ∀ g ∈ factsL, Fact.holds ρ g := by
  intro ρ h g hg
  have hn := nE_den ρ
  simp only [factsL, List.mem_cons] at hg
  rcases hg with rfl | hg
  · rw [rng_iff]
    have := h.2
    simp only [E.den]
    exact ⟨this.1, by show ρ.v 100 ≤ 300; omega⟩
  · exact h.1 g hg
theorem hL : ∀ ρ, Inv ρ → ObsOk ρ obsL (fun ρ' => Inv ρ' ∧ m ρ' < m ρ) InvE := by
  intro ρ h ob hob hp
  have hn := nE_den ρ
  obtain ⟨hE, h1, h2⟩ := h
  have hx := InvE_x0 hE
  simp only [obsL, List.mem_cons, List.not_mem_nil, or_false] at hob
  rcases hob with rfl | rfl | rfl
  · exfalso
    have hlt : ρ.v 100 < nE.den ρ := (lt_iff.1 (hp _ (List.mem_cons_of_mem _ (List.mem_cons_self ..)))).2 rfl
    have hno : ¬ (IntKind.u64.wrap (ρ.v 100 + ρ.v 0) < IntKind.u64.wrap (ρ.v 0 + nE.den ρ)) := fun h => by
      have := (lt_iff.1 (hp _ (List.mem_cons_self ..))).1 h
      cases this
    rw [wrap_u64, wrap_u64] at hno
    omega
  · have hlt : ρ.v 100 < nE.den ρ := (lt_iff.1 (hp _ (List.mem_cons_of_mem _ (List.mem_cons_self ..)))).2 rfl
    refine ⟨ρ.put 100 (ρ.v 100 + 1), ?_, ⟨InvE_put ρ _ hE, ?_, ?_⟩, ?_⟩
    · unfold Eqs
      simp only [List.forall_mem_cons]
      refine ⟨?_, rfl, rfl, rfl, ?_, rfl, fun _ h => absurd h List.not_mem_nil⟩
      · show IntKind.i64.wrap (ρ.v 100 + 1) = ρ.v 100 + 1
        exact wrap_i64 (by omega)
      · show IntKind.u64.wrap (IntKind.u64.wrap (ρ.v 0 + ρ.v 100) + 1) = IntKind.u64.wrap (ρ.v 0 + (ρ.v 100 + 1))
        rw [wrap_u64, wrap_u64, wrap_u64]; omega
    · show 0 ≤ ρ.v 100 + 1
      omega
    · rw [nE_put]
      show ρ.v 100 + 1 ≤ _
      omega
    · show (300 - (ρ.v 100 + 1)).toNat < (300 - ρ.v 100).toNat
      omega
  · have hge : ¬ ρ.v 100 < nE.den ρ := fun h => by
      have := (lt_iff.1 (hp _ (List.mem_cons_self ..))).1 h
      cases this
    have he : ρ.v 100 = nE.den ρ := by omega
    refine ⟨ρ, ?_, hE⟩
    unfold Eqs
    simp only [List.forall_mem_cons]
    refine ⟨trivial, trivial, trivial, ?_, trivial, fun _ h => absurd h List.not_mem_nil⟩
    show IntKind.u64.wrap (ρ.v 0 + ρ.v 100) = IntKind.u64.wrap (ρ.v 0 + nE.den ρ)
    rw [he]
theorem hE : ∀ ρ, InvE ρ → ∀ g ∈ factsE, Fact.holds ρ g := fun ρ h => h
theorem h2 : ∀ ρ, InvE ρ → ObsOk ρ obs2 (fun _ => True) (fun _ => True) := by
  intro ρ h ob hob hp
  exfalso
  have hx := InvE_x0 h
  have hn := nE_den ρ
  simp only [obs2, List.mem_cons, List.not_mem_nil, or_false] at hob
  subst hob
  have hno : ¬ (IntKind.u64.wrap (ρ.v 0 + nE.den ρ) < IntKind.u64.wrap (IntKind.u64.wrap (ρ.v 0 + nE.den ρ) + 1)) := fun h => by
    have := (lt_iff.1 (hp _ (List.mem_cons_self ..))).1 h
    cases this
  rw [wrap_u64, wrap_u64] at hno
  omega

theorem own : ownKnob Try.prog.godebug = none := by kernel_rfl
theorem kids : Kids Try.prog (· < Try.prog.types.size) := kids_rows (by kernel_rfl) (by kernel_rfl)
theorem full : ∀ t e, t < Try.prog.types.size → Try.prog.underlying t = some (.slice e) → 0 < Try.prog.cellsOf e := slices_full_of Try.prog (by kernel_rfl)
theorem fnOk : FnOk Try.prog (fnOf Try.prog) := fnOf_ok (by kernel_rfl)
theorem mixed : Try.prog.follows .mixedOrders = true := by kernel_rfl
theorem rets : Try.f3.resultTypes = #[4] := by kernel_rfl
theorem bool_ : Try.prog.underlying 4 = some .bool := by kernel_rfl
theorem lifted (os : Os) (started : os.Started) (H : Type) (enc : TypeId × Value → H) :
    ReturnsInHanded {} Try.checked os 3 .any (Rows.clintRisesSpec.pre6 enc Try.prog Try.f3 Rows.clintRisesRow.domain false) (Rows.clintRisesSpec.post enc Try.prog Try.f3 false true false false) := by
  refine returnsInHanded_of_change (C := Try.checked) own started (by kernel_rfl) Try.func3
    (ChangeSpec.witness6 (enc := enc) (C := Try.checked) false ⟨#[], zeros Try.prog Try.f3.params.toList, []⟩ 16 (by kernel_rfl) (by kernel_rfl) (by kernel_rfl) (by kernel_rfl)) ?_
  intro W base args ds gs before hval0 hW hcnd _
  have hval : ∀ (j : Nat) t v, Try.f3.params[j]? = some t → args[j]? = some v → Value.okWide Try.prog W .any base t v := hval0
  have hW' := hW
  have hlt := hW.lt
  obtain ⟨p, q, hA0, hV, rfl, hfz, hnd⟩ := hW
  have hA : DataW.TrodAll enc Try.prog W 0 (fun _ => true) true Try.f3.params.toList args.toList ds p := hA0
  obtain ⟨rfl, rfl⟩ := trodVars_none hV
  have hlen := trodAll_length hA
  have hsz : args.size = Try.f3.params.toList.length := by simpa using hlen.1
  have hd : ds.length = 2 := hlen.2.trans (by kernel_rfl)
  obtain ⟨d0, d1, rfl⟩ : ∃ d0 d1, ds = [d0, d1] := by
    match ds, hd with
    | [d0, d1], _ => exact ⟨d0, d1, rfl⟩
  refine (law_TS hfunc hbody hsym (fun ρ hk β W a hs => loop3 mixed (tysOf _) fnOk hloop run0 runL run2 h0 hI hL hE h2 hk hs) hsz (fun j t v ht hv => hval j t v (by simpa using ht) hv)).mono fun e W' ⟨he, hk⟩ => ?_
  subst he
  have hb : Value.okWide Try.prog W' .any 0 4 (.bool true) := okWide_bool_mk bool_ _
  refine ⟨_, rfl, post_of_same (pa := p) (pv := []) hW' (fun _ _ _ => ?_) (fun sp hsp => args_again kids full (of_decide_eq_true (by kernel_rfl)) hA hk.old (fun x hx => hlt x (by simpa using hx)) sp (fun x hx => hsp x (by simpa using hx))) (fun _ _ => rfl) rfl
    (hk.grown.frame _) hk.grown.2.1 (ok_one rets rfl hb)⟩
  rw [rets]
  exact trodAll_cons_mk (shut_bool bool_ _) trodAll_mk0

theorem over : Rows.clintRisesRow.holds Try.pinned (OpenSpec.ofChange Rows.clintRisesSpec) :=
  OpenClaim.holds_of_wide 3 Try.f3 rfl rfl rfl rfl rfl rfl rfl ⟨rfl, rfl, rfl, rfl, rfl⟩ rfl rfl rfl rfl rfl (by kernel_rfl) Try.func3 (by kernel_rfl)
    (of_decide_eq_true (by kernel_rfl)) (by unfold Func.isWrapper; first | (rw [if_pos (by decide +kernel)]; kernel_rfl) | (rw [if_neg (by decide +kernel)]; exact ⟨rfl, rfl⟩))
    (fun os started H enc _ => lifted os started H enc)

/-- THE STATEMENT -/
theorem proved : Rows.ClintRisesSaid :=
  over
#print axioms proved
end Go.Proofs.Ythgpmdgbgoaldaa.clintRises
