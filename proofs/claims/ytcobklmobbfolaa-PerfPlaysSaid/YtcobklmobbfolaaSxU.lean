/-
  SX: LOOPS, WHAT IS LEFT TO SHOW: the run of a part, as tests and equations.
-/
import Derived.Test.YtcobklmobbfolaaSxT
namespace Go.Sx
noncomputable section
set_option linter.unusedVariables false

inductive What where
  | next (ps : Pairs) | out (ps : Pairs) | done (e : E)
abbrev Ob := List (E × Bool) × What
def nextOf : Option Pairs → Option What
  | some p => some (.next p)
  | none => none
def outOf : Option Pairs → Option What
  | some p => some (.out p)
  | none => none
def doneOf : Option E → Option What
  | some e => some (.done e)
  | none => none
def whatOf (ty : Tys) (fn : Func) (tN : Option Tm) (tX : Option (Nat × Tm)) (x : XK) (s : S) : Option What :=
  match x with
  | .nrm => (match tN with | some t => nextOf (matchS s t) | none => doneOf (retE ty fn s))
  | .ret => doneOf (retE ty fn s)
  | .ext id => (match tX with | some (b, t) => (match Nat.beq id b with | true => outOf (matchS s t) | false => none) | none => none)
def dull (k : Known) : What → Bool
  | .done e => isT (dec k e)
  | _ => false
def obsOf (ty : Tys) (fn : Func) (tN : Option Tm) (tX : Option (Nat × Tm)) : Outs → Option (List Ob)
  | [] => some []
  | (k, x, s) :: r => match whatOf ty fn tN tX x s, obsOf ty fn tN tX r with
    | some o, some os => (match dull k o with | true => some os | false => some ((k.tr, o) :: os))
    | _, _ => none
def runOb (ty : Tys) (fm : FuncId → Option Func) (n : Nat) (fn : Func) (l : List Code) (facts : List Fact) (s : S) (tN : Option Tm) (tX : Option (Nat × Tm)) : Option (List Ob) :=
  Known.addsK Known.nil facts fun k => match execL (mkCfg ty fm) n fn.ntmps l k s with
    | some outs => obsOf ty fn tN tX outs
    | none => none
/-- The tests of a path. -/
def Path (ρ : Env) (ts : List (E × Bool)) : Prop := ∀ p ∈ ts, (p.1.den ρ ≠ 0 ↔ p.2 = true)
def Eqs (ρ ρ' : Env) (ps : Pairs) : Prop := ρ'.t = ρ.t ∧ ∀ p ∈ ps, p.1.den ρ = p.2.den ρ'
/-- An environment, one number of it another. -/
def Env.put (ρ : Env) (i : Nat) (x : Int) : Env := ⟨fun j => if j = i then x else ρ.v j, ρ.t, ρ.F⟩
theorem put_v (ρ : Env) (i j : Nat) (x : Int) : (ρ.put i x).v j = if j = i then x else ρ.v j := rfl
theorem rng_iff {ρ : Env} {e : E} {a b : Int} : Fact.holds ρ (.rng e (some a, some b)) ↔ a ≤ e.den ρ ∧ e.den ρ ≤ b :=
  ⟨fun h => ⟨h.1 a rfl, h.2 b rfl⟩, fun h => ⟨fun m hm => by cases hm; exact h.1, fun m hm => by cases hm; exact h.2⟩⟩
theorem tr_iff {ρ : Env} {e : E} {b : Bool} : Fact.holds ρ (.tr e b) ↔ (e.den ρ ≠ 0 ↔ b = true) := Iff.rfl
theorem wrap_u64 (z : Int) : IntKind.u64.wrap z = z % 18446744073709551616 := by
  obtain ⟨t, ht⟩ := wrap_congr .u64 z
  have h1 : (0 : Int) ≤ IntKind.u64.wrap z := (wrap_range .u64 z).1
  have h2 : IntKind.u64.wrap z ≤ (18446744073709551615 : Int) := (wrap_range .u64 z).2
  have hk : ((kmod .u64 : Nat) : Int) = 18446744073709551616 := rfl
  rw [hk] at ht
  omega
theorem wrap_i64 {z : Int} (h : -9223372036854775808 ≤ z ∧ z ≤ 9223372036854775807) : IntKind.i64.wrap z = z := wrap_in (by simpa [kmin, kmax] using h)
theorem lt_iff {ρ : Env} {a b : E} {t : Bool} : ((E.bin .lt a b).den ρ ≠ 0 ↔ t = true) ↔ (a.den ρ < b.den ρ ↔ t = true) := by
  simp only [E.den, BO.den]; by_cases h : a.den ρ < b.den ρ <;> simp [h]
theorem eq_iff {ρ : Env} {a b : E} {t : Bool} : ((E.bin .eq a b).den ρ ≠ 0 ↔ t = true) ↔ (a.den ρ = b.den ρ ↔ t = true) := by
  simp only [E.den, BO.den]; by_cases h : a.den ρ = b.den ρ <;> simp [h]
theorem obsOf_ok {ty : Tys} {fn : Func} {tN : Option Tm} {tX : Option (Nat × Tm)} : ∀ {outs : Outs} {obs : List Ob}, obsOf ty fn tN tX outs = some obs → ∀ o ∈ outs, ∃ wh, whatOf ty fn tN tX o.2.1 o.2.2 = some wh ∧
    ∀ ρ, Known.holds ρ o.1 → ((o.1.tr, wh) ∈ obs ∨ ∃ e, wh = .done e ∧ e.den ρ ≠ 0)
  | [], obs, h, o, ho => by cases ho
  | (k, x, s) :: r, obs, h, o, ho => by
    simp only [obsOf] at h
    split at h
    · rename_i wh os hw hos
      have ih := obsOf_ok hos
      split at h
      · rename_i hd
        cases h
        rcases List.mem_cons.1 ho with rfl | ho
        · refine ⟨wh, hw, fun ρ hk => .inr ?_⟩
          cases wh with
          | done e =>
            simp only [dull] at hd
            refine ⟨e, rfl, ?_⟩
            cases hx : dec k e with
            | none => rw [hx] at hd; cases hd
            | some b => rw [hx] at hd; simp only [isT] at hd; subst hd; exact (dec_sound hk hx).2 rfl
          | _ => cases hd
        · exact ih o ho
      · cases h
        rcases List.mem_cons.1 ho with rfl | ho
        · exact ⟨wh, hw, fun ρ hk => .inl (List.mem_cons_self ..)⟩
        · obtain ⟨wh', h1, h2⟩ := ih o ho
          exact ⟨wh', h1, fun ρ hk => (h2 ρ hk).imp (List.mem_cons_of_mem _) id⟩
    · cases h
section
variable {P : Program} {ty : Tys} {fm : FuncId → Option Func} (hm : P.follows .mixedOrders = true) (hty : TysOk P ty) (hfn : FnOk P fm)
include hm hty hfn in
theorem run_Ob {n : Nat} {fn : Func} {l : List Code} {facts : List Fact} {s : S} {tN : Option Tm} {tX : Option (Nat × Tm)} {obs : List Ob} (hrun : runOb ty fm n fn l facts s tN tX = some obs) {ρ : Env} (hk : ∀ g ∈ facts, Fact.holds ρ g)
    {W : World} {β : Lab} {a : Act} {w : World} (hs : TS W ρ β fn.ntmps s a w) {Q : Exit → Act → World → Prop}
    (hob : ∀ ob ∈ obs, Path ρ ob.1 → match ob.2 with
      | .next ps => ∃ ρ', Eqs ρ ρ' ps ∧ ∀ t, tN = some t → ∀ β a w, TS W ρ' β fn.ntmps t.toS a w → Q .normal a w
      | .out ps => ∃ ρ', Eqs ρ ρ' ps ∧ ∀ b t, tX = some (b, t) → ∀ β a w, TS W ρ' β fn.ntmps t.toS a w → Q (.exit b) a w
      | .done e => e.den ρ ≠ 0)
    (hret : ∀ a w, TrueEnd P fn W .ret a w → Q .ret a w) (hnrm : tN = none → ∀ a w, TrueEnd P fn W .normal a w → Q .normal a w) : WPs P l Q a w := by
  unfold runOb at hrun
  rw [Known.addsK_eq] at hrun
  split at hrun
  · rename_i outs houts
    refine execL_TS hm hty hfn houts (Known.adds_holds (Known.nil_holds ρ) hk) hs fun o ho hok β' a' w' hts => ?_
    obtain ⟨wh, hwh, hin⟩ := obsOf_ok hrun o ho
    have hin := hin ρ hok
    obtain ⟨k, x, s'⟩ := o
    have done : ∀ e, wh = .done e → e.den ρ ≠ 0 := by
      intro e he
      rcases hin with hin | ⟨e', h1, h2⟩
      · have := hob _ hin hok.tr
        rw [he] at this
        exact this
      · rw [h1] at he; cases he; exact h2
    cases x with
    | nrm =>
      simp only [whatOf] at hwh
      cases tN with
      | none =>
        simp only at hwh
        cases hr : retE ty fn s' with
        | none => rw [hr] at hwh; cases hwh
        | some e =>
          rw [hr] at hwh
          cases hwh
          exact hnrm rfl _ _ (ret_TS hty hts hr (done e rfl) (.inr rfl))
      | some t =>
        simp only at hwh
        cases hr : matchS s' t with
        | none => rw [hr] at hwh; cases hwh
        | some ps =>
          rw [hr] at hwh
          cases hwh
          rcases hin with hin | ⟨e', h1, h2⟩
          · obtain ⟨ρ', h1, h2⟩ := hob _ hin hok.tr
            exact h2 t rfl _ _ _ (matchS_ok h1.1 hr h1.2 hts)
          · cases h1
    | ret =>
      simp only [whatOf] at hwh
      cases hr : retE ty fn s' with
      | none => rw [hr] at hwh; cases hwh
      | some e =>
        rw [hr] at hwh
        cases hwh
        exact hret _ _ (ret_TS hty hts hr (done e rfl) (.inl rfl))
    | ext id =>
      simp only [whatOf] at hwh
      split at hwh
      · rename_i b t
        split at hwh
        · rename_i hb
          have := Nat.eq_of_beq_eq_true hb
          subst this
          cases hr : matchS s' t with
          | none => rw [hr] at hwh; cases hwh
          | some ps =>
            rw [hr] at hwh
            cases hwh
            rcases hin with hin | ⟨e', h1, h2⟩
            · obtain ⟨ρ', h1, h2⟩ := hob _ hin hok.tr
              exact h2 _ t rfl _ _ _ (matchS_ok h1.1 hr h1.2 hts)
            · cases h1
        · cases hwh
      · cases hwh
  · cases hrun
include hm hty hfn in
theorem loop_Ob {n : Nat} {fn : Func} {body : Code} {facts : List Fact} {b : Nat} {t tE : Tm} {obs : List Ob} (hrun : runOb ty fm n fn (flat body) facts t.toS (some t) (some (b, tE)) = some obs)
    {Inv InvE : Env → Prop} {m : Env → Nat} (hI : ∀ ρ, Inv ρ → ∀ g ∈ facts, Fact.holds ρ g)
    (hob : ∀ ρ, Inv ρ → ∀ ob ∈ obs, Path ρ ob.1 → match ob.2 with
      | .next ps => ∃ ρ', Eqs ρ ρ' ps ∧ Inv ρ' ∧ m ρ' < m ρ
      | .out ps => ∃ ρ', Eqs ρ ρ' ps ∧ InvE ρ'
      | .done e => e.den ρ ≠ 0)
    {W : World} {Q : Exit → Act → World → Prop} (hret : ∀ a w, TrueEnd P fn W .ret a w → Q .ret a w) (hX : ∀ ρ', InvE ρ' → ∀ β a w, TS W ρ' β fn.ntmps tE.toS a w → Q .normal a w)
    {ρ : Env} (h0 : Inv ρ) {β : Lab} {a : Act} {w : World} (hs : TS W ρ β fn.ntmps t.toS a w) : (Code.block b (.loop body)).wp P Q a w := by
  refine wp_block ?_
  have key : ∀ (d : Nat) (ρ : Env) (β : Lab) (a : Act) (w : World), m ρ < d → Inv ρ → TS W ρ β fn.ntmps t.toS a w → Code.rounds P body (Exit.inBlock b Q) d a w := by
    intro d
    induction d with
    | zero => intro ρ β a w hd; omega
    | succ d ih =>
      intro ρ β a w hd hi hs
      rw [rounds_succ]
      refine WPs.flat (run_Ob hm hty hfn hrun (hI ρ hi) hs (fun ob hmem hp => ?_) (fun a w h => hret a w h) (fun h => by cases h))
      have := hob ρ hi ob hmem hp
      obtain ⟨ts, wh⟩ := ob
      cases wh with
      | next ps =>
        obtain ⟨ρ', h1, h2, h3⟩ := this
        refine ⟨ρ', h1, fun t' ht' β a w hts => ?_⟩
        cases ht'
        exact ih ρ' β a w (by omega) h2 hts
      | out ps =>
        obtain ⟨ρ', h1, h2⟩ := this
        refine ⟨ρ', h1, fun b' t' ht' β a w hts => ?_⟩
        cases ht'
        show Exit.then _ (Exit.inBlock _ Q) (.exit _) a w
        simp only [Exit.then, Exit.inBlock, if_true]
        exact hX ρ' h2 β a w hts
      | done e => exact this
  exact wp_loop_rounds _ (key (m ρ + 1) ρ β a w (by omega) h0 hs)
/-! ### a law with one loop -/
def bodyOf (fn : Func) : Code := fn.body.getD .skip
def loopBody (l : List Code) (i : Nat) : Code := match l[i]? with
  | some (.block _ (.loop c)) => c
  | _ => .skip
theorem cut_at {l : List Code} {i : Nat} {c : Code} (h : l[i]? = some c) : l = l.take i ++ (c :: l.drop (i + 1)) := by
  obtain ⟨hlt, he⟩ := List.getElem?_eq_some_iff.1 h
  rw [← he, ← List.drop_eq_getElem_cons hlt, List.take_append_drop]
/-- What a part's obligations ask: from an environment on. -/
def ObsOk (ρ : Env) (obs : List Ob) (N X : Env → Prop) : Prop := ∀ ob ∈ obs, Path ρ ob.1 → match ob.2 with
  | .next ps => ∃ ρ', Eqs ρ ρ' ps ∧ N ρ'
  | .out ps => ∃ ρ', Eqs ρ ρ' ps ∧ X ρ'
  | .done e => e.den ρ ≠ 0
include hm hty hfn in
theorem loop3 {n : Nat} {fn : Func} {s0 : S} {i b : Nat} {t tE : Tm} {facts0 factsL factsE : List Fact} {obs0 obsL obs2 : List Ob}
    (hloop : (flat (bodyOf fn))[i]? = some (.block b (.loop (loopBody (flat (bodyOf fn)) i))))
    (run0 : runOb ty fm n fn ((flat (bodyOf fn)).take i) facts0 s0 (some t) none = some obs0)
    (runL : runOb ty fm n fn (flat (loopBody (flat (bodyOf fn)) i)) factsL t.toS (some t) (some (b, tE)) = some obsL)
    (run2 : runOb ty fm n fn ((flat (bodyOf fn)).drop (i + 1)) factsE tE.toS none none = some obs2)
    {Inv InvE : Env → Prop} {m : Env → Nat}
    (h0 : ∀ ρ, (∀ g ∈ facts0, Fact.holds ρ g) → ObsOk ρ obs0 Inv (fun _ => True))
    (hI : ∀ ρ, Inv ρ → ∀ g ∈ factsL, Fact.holds ρ g) (hL : ∀ ρ, Inv ρ → ObsOk ρ obsL (fun ρ' => Inv ρ' ∧ m ρ' < m ρ) InvE)
    (hE : ∀ ρ, InvE ρ → ∀ g ∈ factsE, Fact.holds ρ g) (h2 : ∀ ρ, InvE ρ → ObsOk ρ obs2 (fun _ => True) (fun _ => True))
    {ρ : Env} (hk : ∀ g ∈ facts0, Fact.holds ρ g) {β : Lab} {W : World} {a : Act} (hs : TS W ρ β fn.ntmps s0 a W) : WPs P (flat (bodyOf fn)) (TrueEnd P fn W) a W := by
  rw [cut_at hloop]
  refine WPs.append (run_Ob hm hty hfn run0 hk hs (fun ob hob hp => ?_) (fun a w h => h) (fun h => by cases h))
  have := h0 ρ hk ob hob hp
  obtain ⟨ts, wh⟩ := ob
  cases wh with
  | done e => exact this
  | out ps => obtain ⟨ρ', h1, _⟩ := this; exact ⟨ρ', h1, fun b t h => by cases h⟩
  | next ps =>
    obtain ⟨ρ', h1, hinv⟩ := this
    refine ⟨ρ', h1, fun t' ht' β a w hts => ?_⟩
    cases ht'
    show Exit.then _ _ .normal a w
    simp only [Exit.then, WPs]
    refine loop_Ob hm hty hfn runL (m := m) (Inv := Inv) (InvE := InvE) (Q := Exit.then (WPs P ((flat (bodyOf fn)).drop (i + 1)) (TrueEnd P fn W)) (TrueEnd P fn W)) hI (fun ρ hi ob hob hp => hL ρ hi ob hob hp) (fun a w h => h) (fun ρ' hx β a w hts => ?_) hinv hts
    show Exit.then _ _ .normal a w
    simp only [Exit.then]
    refine run_Ob hm hty hfn run2 (hE ρ' hx) hts (fun ob hob hp => ?_) (fun a w h => h) (fun _ a w h => h)
    have := h2 ρ' hx ob hob hp
    obtain ⟨ts, wh⟩ := ob
    cases wh with
    | done e => exact this
    | out ps => obtain ⟨ρ', h1, _⟩ := this; exact ⟨ρ', h1, fun b t h => by cases h⟩
    | next ps => obtain ⟨ρ', h1, _⟩ := this; exact ⟨ρ', h1, fun t h => by cases h⟩
end
end
end Go.Sx
