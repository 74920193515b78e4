/-
  'ClintPlays' ('tappet/tappetlaw11.ClintPlays'): one loop over what came in, counted; the executor's runs (Sx) of the parts, checked by the kernel, are the walk. Printed by program.
-/
import Derived.Test.YthgpmdgbgoaldaaRows
import Derived.Test.YthgpmdgbgoaldaaSxC
namespace Go.Proofs.Ythgpmdgbgoaldaa.clintPlays
open Go.ChangeShapes Go.WideShapes Go.ChangeAt Go.RowKit Go.Sx
set_option linter.unusedVariables false
set_option linter.unusedSimpArgs false

def ks : List CK := [.int .i64, .int .u64, .int .u64, .int .i64]
def tabE : Ent := ⟨false, .tab 0 (.tv 0) (.var 0) ks⟩
def slotsE : List (Nat × SV) := [(0, .v (.one (.tslc 0 4 (.lit (.ofNat 0)) (.var 0) (.var 1)))), (3, .v (.one (.ptr 1 0))), (4, .v (.one (.ptr 2 0)))]
def blkC (a b c : E) : Ent := ⟨true, .cells [.bool a, .int .u64 b, .int .u64 c] 46⟩
def blkR (a b c : E) : Ent := ⟨true, .cells [.bool a, .int .u64 b, .int .u64 c] 36⟩
def T : Tm := ⟨(5, .v (.one (.int .i64 (.var 100)))) :: slotsE, [(0, tabE), (1, blkC (.var 101) (.var 102) (.var 103)), (2, blkR (.var 101) (.var 102) (.var 103))], 3⟩
def TE : Tm := ⟨[], [], 3⟩
def factsE : List Fact := []
def factsL : List Fact := [.rng (.var 0) (some (.ofNat 0), some (.ofNat 9223372036854775807)), .rng (.var 1) (some (.ofNat 0), some (.ofNat 9223372036854775807)), .rng (.var 100) (some (.ofNat 0), some (.ofNat 300)), .rng (.var 101) (some (.ofNat 0), some (.ofNat 1)), .rng (.var 102) (some (.ofNat 0), some (.ofNat 18446744073709551615)), .rng (.var 103) (some (.ofNat 0), some (.ofNat 18446744073709551615))]

def xs0 : List V1 := [(.one .nils)]
def hs0 : List (Nat × Ent) := []
def facts0 : List Fact := []
def obs00 : List Ob := []
def xs1 : List V1 := [(.one (.tslc 0 4 (.lit (.ofNat 0)) (.var 0) (.var 1)))]
def hs1 : List (Nat × Ent) := [(0, ⟨false, .tab 0 (.tv 0) (.var 0) [.int .i64, .int .u64, .int .u64, .int .i64]⟩)]
def facts1 : List Fact := [(.rng (.var 0) ((some (.ofNat 0)), (some (.ofNat 9223372036854775807)))), (.rng (.var 1) ((some (.ofNat 0)), (some (.ofNat 9223372036854775807))))]
def obs01 : List Ob := []

def obsL : List Ob := [([((.bin .eq (.bin .rem (.un (.wrap .u64) (.get (.tv 0) (.var 100) 2)) (.lit (.ofNat 2))) (.lit (.ofNat 1))), false), ((.bin .lt (.var 102) (.var 103)), false), ((.bin .eq (.bin (.and .u64) (.un (.wrap .u64) (.get (.tv 0) (.var 100) 2)) (.lit (.ofNat 1))) (.lit (.ofNat 0))), false), ((.bin .eq (.un (.wrap .i64) (.get (.tv 0) (.var 100) 3)) (.lit (.ofNat 4))), true), ((.bin .eq (.un (.wrap .u64) (.get (.tv 0) (.var 100) 1)) (.lit (.ofNat 0))), true), ((.bin .eq (.un (.wrap .i64) (.get (.tv 0) (.var 100) 0)) (.lit (.ofNat 2))), true), ((.bin .eq (.un (.wrap .i64) (.get (.tv 0) (.var 100) 0)) (.lit (.ofNat 1))), false), ((.bin .lt (.var 100) (.lit (.ofNat 300))), true), ((.bin .lt (.var 100) (.var 0)), true)], (.done (.lit (.ofNat 0)))),
  ([((.bin .eq (.bin .rem (.un (.wrap .u64) (.get (.tv 0) (.var 100) 2)) (.lit (.ofNat 2))) (.lit (.ofNat 1))), false), ((.bin .lt (.var 102) (.var 103)), true), ((.bin .eq (.bin (.and .u64) (.un (.wrap .u64) (.get (.tv 0) (.var 100) 2)) (.lit (.ofNat 1))) (.lit (.ofNat 0))), false), ((.bin .eq (.un (.wrap .i64) (.get (.tv 0) (.var 100) 3)) (.lit (.ofNat 4))), true), ((.bin .eq (.un (.wrap .u64) (.get (.tv 0) (.var 100) 1)) (.lit (.ofNat 0))), true), ((.bin .eq (.un (.wrap .i64) (.get (.tv 0) (.var 100) 0)) (.lit (.ofNat 2))), true), ((.bin .eq (.un (.wrap .i64) (.get (.tv 0) (.var 100) 0)) (.lit (.ofNat 1))), false), ((.bin .lt (.var 100) (.lit (.ofNat 300))), true), ((.bin .lt (.var 100) (.var 0)), true)], (.done (.lit (.ofNat 0)))),
  ([((.bin .eq (.bin .rem (.un (.wrap .u64) (.get (.tv 0) (.var 100) 2)) (.lit (.ofNat 2))) (.lit (.ofNat 1))), true), ((.bin .lt (.var 102) (.var 103)), false), ((.bin .eq (.bin (.and .u64) (.un (.wrap .u64) (.get (.tv 0) (.var 100) 2)) (.lit (.ofNat 1))) (.lit (.ofNat 0))), true), ((.bin .eq (.un (.wrap .i64) (.get (.tv 0) (.var 100) 3)) (.lit (.ofNat 4))), true), ((.bin .eq (.un (.wrap .u64) (.get (.tv 0) (.var 100) 1)) (.lit (.ofNat 0))), true), ((.bin .eq (.un (.wrap .i64) (.get (.tv 0) (.var 100) 0)) (.lit (.ofNat 2))), true), ((.bin .eq (.un (.wrap .i64) (.get (.tv 0) (.var 100) 0)) (.lit (.ofNat 1))), false), ((.bin .lt (.var 100) (.lit (.ofNat 300))), true), ((.bin .lt (.var 100) (.var 0)), true)], (.done (.lit (.ofNat 0)))),
  ([((.bin .eq (.bin .rem (.un (.wrap .u64) (.get (.tv 0) (.var 100) 2)) (.lit (.ofNat 2))) (.lit (.ofNat 1))), true), ((.bin .lt (.var 102) (.var 103)), true), ((.bin .eq (.bin (.and .u64) (.un (.wrap .u64) (.get (.tv 0) (.var 100) 2)) (.lit (.ofNat 1))) (.lit (.ofNat 0))), true), ((.bin .eq (.un (.wrap .i64) (.get (.tv 0) (.var 100) 3)) (.lit (.ofNat 4))), true), ((.bin .eq (.un (.wrap .u64) (.get (.tv 0) (.var 100) 1)) (.lit (.ofNat 0))), true), ((.bin .eq (.un (.wrap .i64) (.get (.tv 0) (.var 100) 0)) (.lit (.ofNat 2))), true), ((.bin .eq (.un (.wrap .i64) (.get (.tv 0) (.var 100) 0)) (.lit (.ofNat 1))), false), ((.bin .lt (.var 100) (.lit (.ofNat 300))), true), ((.bin .lt (.var 100) (.var 0)), true)], (.done (.lit (.ofNat 0))))]
def obs2 : List Ob := []
theorem hloop : (flat (bodyOf Try.f5))[6]? = some (.block 0 (.loop (loopBody (flat (bodyOf Try.f5)) 6))) := by kernel_rfl
theorem hbody : Try.f5.body = some (bodyOf Try.f5) := by kernel_rfl
theorem hfunc : Try.prog.funcs[5]? = some Try.f5 := by kernel_rfl
theorem hfls : flagsAll Try.prog Try.f5.params.toList = [[true], [false]] := by kernel_rfl
set_option maxRecDepth 100000
theorem runL : runB (TI.of Try.prog) (fnOf Try.prog) 400 Try.f5 (flat (loopBody (flat (bodyOf Try.f5)) 6)) factsL T.toS (some T) factsL (some (100, 300)) (some (0, TE)) factsE = some obsL := by kernel_rfl
theorem run2 : runB (TI.of Try.prog) (fnOf Try.prog) 400 Try.f5 ((flat (bodyOf Try.f5)).drop (6 + 1)) factsE TE.toS none [] none none [] = some obs2 := by kernel_rfl
theorem hsym0 : symArgsT Try.prog Try.f5.params.toList 0 0 [true] = some (xs0, hs0, facts0, 0, 0) := by kernel_rfl
theorem left00 : ∀ ρ, (∀ g ∈ facts0, Fact.holds ρ g) → LeftOb ρ obs00 := fun ρ _ ob h => by cases h
theorem run00 : runB (TI.of Try.prog) (fnOf Try.prog) 400 Try.f5 (flat (bodyOf Try.f5)) facts0 ⟨argSlots xs0 0 .nil, putSets .leaf hs0, 0, []⟩ none [] none none [] = some obs00 := by kernel_rfl
theorem hsym1 : symArgsT Try.prog Try.f5.params.toList 0 0 [false] = some (xs1, hs1, facts1, 2, 1) := by kernel_rfl
theorem left01 : ∀ ρ, (∀ g ∈ facts1, Fact.holds ρ g) → LeftOb ρ obs01 := fun ρ _ ob h => by cases h
theorem run01 : runB (TI.of Try.prog) (fnOf Try.prog) 400 Try.f5 ((flat (bodyOf Try.f5)).take 6) facts1 ⟨argSlots xs1 0 .nil, putSets .leaf hs1, 1, []⟩ (some T) factsL none none [] = some obs01 := by kernel_rfl

theorem and_one (ρ : Env) (a : E) : (E.bin (.and .u64) (.un (.wrap .u64) a) (.lit (.ofNat 1))).den ρ = (a.den ρ % 18446744073709551616) % 2 := by
  rw [den_and64]
  have h1 : (E.un (.wrap .u64) a).den ρ = ((B64 (a.den ρ)).toNat : Int) := by simp only [E.den, UO.den]; exact wrap_B64 _
  have h2 : (E.lit (.ofNat 1)).den ρ = ((1 : Nat) : Int) := rfl
  rw [h1, h2, B64_toNat, B64_lit, BitVec.toNat_and]
  have h3 : ((B64 (a.den ρ)).toNat : Int) = a.den ρ % 18446744073709551616 := by rw [← wrap_B64, wrap_u64]
  rw [← h3, show (BitVec.ofNat 64 1).toNat = 1 from rfl, Nat.and_one_is_mod]
  omega
theorem rem_two (ρ : Env) (a : E) : (E.bin .rem (.un (.wrap .u64) a) (.lit (.ofNat 2))).den ρ = (a.den ρ % 18446744073709551616) % 2 := by
  simp only [E.den, UO.den, BO.den, wrap_u64]
  rw [Int.tmod_eq_emod_of_nonneg (by omega)]
  rfl
theorem odd_no {ρ : Env} {a : E} {b : Bool} (h1 : ((E.bin .eq (.bin .rem (.un (.wrap .u64) a) (.lit (.ofNat 2))) (.lit (.ofNat 1))).den ρ ≠ 0 ↔ b = true))
    (h2 : ((E.bin .eq (.bin (.and .u64) (.un (.wrap .u64) a) (.lit (.ofNat 1))) (.lit (.ofNat 0))).den ρ ≠ 0 ↔ b = true)) : False := by
  rw [den_eq_iff, rem_two] at h1
  rw [den_eq_iff, and_one] at h2
  have e1 : (E.lit (.ofNat 1)).den ρ = 1 := rfl
  have e0 : (E.lit (.ofNat 0)).den ρ = 0 := rfl
  rw [e1] at h1
  rw [e0] at h2
  have := h1.trans h2.symm
  omega
theorem leftL : ∀ ρ, (∀ g ∈ factsL, Fact.holds ρ g) → LeftOb ρ obsL := by
  intro ρ _ ob hob hp
  exfalso
  simp only [obsL, List.mem_cons, List.not_mem_nil, or_false] at hob
  rcases hob with rfl | rfl | rfl | rfl <;>
    exact odd_no (hp _ (List.mem_cons_self ..)) (hp _ (List.mem_cons_of_mem _ (List.mem_cons_of_mem _ (List.mem_cons_self ..))))
theorem left2 : ∀ ρ, (∀ g ∈ factsE, Fact.holds ρ g) → LeftOb ρ obs2 := fun ρ _ ob h => by cases h

theorem own : ownKnob Try.prog.godebug = none := by kernel_rfl
theorem kids : Kids Try.prog (· < Try.prog.types.size) := kids_rows (by kernel_rfl) (by kernel_rfl)
theorem full : ∀ t e, t < Try.prog.types.size → Try.prog.underlying t = some (.slice e) → 0 < Try.prog.cellsOf e := slices_full_of Try.prog (by kernel_rfl)
theorem fnOk : FnOk Try.prog (fnOf Try.prog) := fnOf_ok (by kernel_rfl)
theorem mixed : Try.prog.follows .mixedOrders = true := by kernel_rfl
theorem rets : Try.f5.resultTypes = #[4] := by kernel_rfl
theorem bool_ : Try.prog.underlying 4 = some .bool := by kernel_rfl
theorem walk : ∀ fl ∈ flagsAll Try.prog Try.f5.params.toList, ∃ xs hs k m q, symArgsT Try.prog Try.f5.params.toList 0 0 fl = some (xs, hs, k, m, q) ∧ ∀ ρ : Env, (∀ g ∈ k, Fact.holds ρ g) →
    ∀ (β : Lab) (W : World) (a : Act), TS W ρ β Try.f5.ntmps ⟨argSlots xs 0 .nil, putSets .leaf hs, q, []⟩ a W → WPs Try.prog (Sx.flat (bodyOf Try.f5)) (TrueEnd Try.prog Try.f5 W) a W := by
  intro fl hfl
  rw [hfls] at hfl
  simp only [List.mem_cons, List.not_mem_nil, or_false] at hfl
  rcases hfl with rfl | rfl
  · exact ⟨xs0, hs0, facts0, 0, 0, hsym0, fun ρ hk β W a hs => run_B mixed (tysOf _) fnOk run00 hk hs (left00 ρ hk) (fun _ _ _ _ h => by cases h) (fun _ _ _ _ h => by cases h) (fun _ _ h => h) (fun _ _ _ h => h)⟩
  · exact ⟨xs1, hs1, facts1, 2, 1, hsym1, fun ρ hk β W a hs => loopB mixed (tysOf _) fnOk hloop run01 runL run2 left01 leftL left2 hk hs⟩
theorem lifted (os : Os) (started : os.Started) (H : Type) (enc : TypeId × Value → H) :
    ReturnsInHanded {} Try.checked os 5 .any (Rows.clintPlaysSpec.pre6 enc Try.prog Try.f5 Rows.clintPlaysRow.domain false) (Rows.clintPlaysSpec.post enc Try.prog Try.f5 false true false false) := by
  refine returnsInHanded_of_change (C := Try.checked) own started (by kernel_rfl) Try.func5
    (ChangeSpec.witness6 (enc := enc) (C := Try.checked) false ⟨#[], zeros Try.prog Try.f5.params.toList, []⟩ 16 (by kernel_rfl) (by kernel_rfl) (by kernel_rfl) (by kernel_rfl)) ?_
  intro W base args ds gs before hval0 hW hcnd _
  have hval : ∀ (j : Nat) t v, Try.f5.params[j]? = some t → args[j]? = some v → Value.okWide Try.prog W .any base t v := hval0
  have hW' := hW
  have hlt := hW.lt
  obtain ⟨p, q, hA0, hV, rfl, hfz, hnd⟩ := hW
  have hA : DataW.TrodAll enc Try.prog W 0 (fun _ => true) true Try.f5.params.toList args.toList ds p := hA0
  obtain ⟨rfl, rfl⟩ := trodVars_none hV
  have hlen := trodAll_length hA
  have hsz : args.size = Try.f5.params.toList.length := by simpa using hlen.1
  have hd : ds.length = 1 := hlen.2.trans (by kernel_rfl)
  refine (law_TST hfunc hbody walk hsz (fun j t v ht hv => hval j t v (by simpa using ht) hv) hA).mono fun e W' ⟨he, hk⟩ => ?_
  obtain ⟨d0, rfl⟩ : ∃ d0, ds = [d0] := by
    match ds, hd with
    | [d0], _ => exact ⟨d0, rfl⟩
  subst he
  have hb : Value.okWide Try.prog W' .any 0 4 (.bool true) := okWide_bool_mk bool_ _
  refine ⟨_, rfl, post_of_same (pa := p) (pv := []) hW' (fun _ _ _ => ?_) (fun sp hsp => args_again kids full (of_decide_eq_true (by kernel_rfl)) hA hk.old (fun x hx => hlt x (by simpa using hx)) sp (fun x hx => hsp x (by simpa using hx))) (fun _ _ => rfl) rfl
    (hk.grown.frame _) hk.grown.2.1 (ok_one rets rfl hb)⟩
  rw [rets]
  exact trodAll_cons_mk (shut_bool bool_ _) trodAll_mk0

theorem over : Rows.clintPlaysRow.holds Try.pinned (OpenSpec.ofChange Rows.clintPlaysSpec) :=
  OpenClaim.holds_of_wide 5 Try.f5 rfl rfl rfl rfl rfl rfl rfl ⟨rfl, rfl, rfl, rfl, rfl⟩ rfl rfl rfl rfl rfl (by kernel_rfl) Try.func5 (by kernel_rfl)
    (of_decide_eq_true (by kernel_rfl)) (by unfold Func.isWrapper; first | (rw [if_pos (by decide +kernel)]; kernel_rfl) | (rw [if_neg (by decide +kernel)]; exact ⟨rfl, rfl⟩))
    (fun os started H enc _ => lifted os started H enc)

/-- THE STATEMENT -/
theorem proved : Rows.ClintPlaysSaid :=
  over
#print axioms proved
end Go.Proofs.Ythgpmdgbgoaldaa.clintPlays
