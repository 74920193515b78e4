/-
  SX: LOOPS, BY THEMSELVES: the next round's numbers read off the equations; the template's facts shown again by the executor's own reckoning; rounds counted.
-/
import Derived.Test.YtcobklmobbfolaaSxA
namespace Go.Sx
noncomputable section
set_option linter.unusedVariables false

abbrev Asg := List (Nat × E)
def asgGet : Asg → Nat → Option E
  | [], _ => none
  | (j, e) :: r, i => match Nat.beq j i with | true => some e | false => asgGet r i
def Env.puts (ρ : Env) (a : Asg) : Env := ⟨fun i => match asgGet a i with | some e => e.den ρ | none => ρ.v i, ρ.t, ρ.F⟩
def varSb (a : Asg) (i : Nat) : E := match asgGet a i with | some e => e | none => .var i
def E.sb (a : Asg) : E → E
  | .lit n => .lit n
  | .var i => varSb a i
  | .tv q => .tv q
  | .get t i j => .get (t.sb a) (i.sb a) j
  | .upd t i j v => .upd (t.sb a) (i.sb a) j (v.sb a)
  | .un o x => .un o (x.sb a)
  | .bin o x y => .bin o (x.sb a) (y.sb a)
  | .ite c x y => .ite (c.sb a) (x.sb a) (y.sb a)
  | .app f x y => .app f (x.sb a) (y.sb a)
/-- No tables stand where a number's place is taken by an expression for a table: a table is a name. -/
theorem varSb_den (ρ : Env) (a : Asg) (i : Nat) : (varSb a i).den ρ = (ρ.puts a).v i := by
  unfold varSb Env.puts
  simp only
  cases asgGet a i <;> rfl
def E.flatT : E → Bool
  | .lit _ => true
  | .var _ => true
  | .un _ x => x.flatT
  | .bin _ x y => x.flatT && y.flatT
  | .get (.tv _) i _ => i.flatT
  | .ite c x y => c.flatT && (x.flatT && y.flatT)
  | _ => false
theorem sb_den (ρ : Env) (a : Asg) : ∀ e : E, e.flatT = true → (e.sb a).den ρ = e.den (ρ.puts a)
  | .lit _, _ => rfl
  | .var i, _ => varSb_den ρ a i
  | .un o x, h => by simp only [E.flatT] at h; simp only [E.sb, E.den, sb_den ρ a x h]
  | .bin o x y, h => by simp only [E.flatT, Bool.and_eq_true] at h; simp only [E.sb, E.den, sb_den ρ a x h.1, sb_den ρ a y h.2]
  | .get (.tv q) i j, h => by simp only [E.flatT] at h; simp only [E.sb, E.den, E.tden, sb_den ρ a i h]; rfl
  | .ite c x y, h => by simp only [E.flatT, Bool.and_eq_true] at h; simp only [E.sb, E.den, sb_den ρ a c h.1, sb_den ρ a x h.2.1, sb_den ρ a y h.2.2]
  | .tv _, h => by simp [E.flatT] at h
  | .upd _ _ _ _, h => by simp [E.flatT] at h
  | .app _ _ _, h => by simp [E.flatT] at h
  | .get (.lit _) _ _, h => by simp [E.flatT] at h
  | .get (.var _) _ _, h => by simp [E.flatT] at h
  | .get (.get _ _ _) _ _, h => by simp [E.flatT] at h
  | .get (.upd _ _ _ _) _ _, h => by simp [E.flatT] at h
  | .get (.un _ _) _ _, h => by simp [E.flatT] at h
  | .get (.bin _ _ _) _ _, h => by simp [E.flatT] at h
  | .get (.ite _ _ _) _ _, h => by simp [E.flatT] at h
  | .get (.app _ _ _) _ _, h => by simp [E.flatT] at h
def asgOf : Pairs → Asg → Asg
  | [], a => a
  | (e, .var i) :: r, a => match Nat.ble 100 i && (asgGet a i).isNone with
    | true => e.deepK fun e => asgOf r ((i, e) :: a)
    | false => asgOf r a
  | _ :: r, a => asgOf r a
def sameK (k : Known) (x y : E) : Bool := match x.same y with
  | true => true
  | false => isT (dec k (.bin .eq x y))
theorem sameK_ok {ρ : Env} {k : Known} (hk : Known.holds ρ k) {x y : E} (h : sameK k x y = true) : x.den ρ = y.den ρ := by
  unfold sameK at h
  split at h
  · rename_i hs; rw [E.same_eq hs]
  · cases hd : dec k (.bin .eq x y) with
    | none => rw [hd] at h; cases h
    | some b =>
      rw [hd] at h
      simp only [isT] at h
      subst h
      exact (eq_iff.1 (dec_sound hk hd)).2 rfl
def eqsOk (k : Known) (a : Asg) : Pairs → Bool
  | [] => true
  | (e, e') :: r => match e'.flatT && sameK k e (e'.sb a) with | true => eqsOk k a r | false => false
theorem eqsOk_ok {ρ : Env} {k : Known} (hk : Known.holds ρ k) {a : Asg} : ∀ {ps : Pairs}, eqsOk k a ps = true → Eqs ρ (ρ.puts a) ps
  | [], _ => ⟨rfl, fun p h => by cases h⟩
  | (e, e') :: r, h => by
    unfold eqsOk at h
    split at h
    · rename_i hs
      simp only [Bool.and_eq_true] at hs
      refine ⟨rfl, fun p hp => ?_⟩
      rcases List.mem_cons.1 hp with rfl | hp
      · rw [← sb_den ρ a e' hs.1]; exact sameK_ok hk hs.2
      · exact (eqsOk_ok hk h).2 p hp
    · cases h
def loOk (a : Option Int) : Option Int → Bool
  | none => true
  | some n => match a with | some m => ile n m | none => false
def hiOk (a : Option Int) : Option Int → Bool
  | none => true
  | some n => match a with | some m => ile m n | none => false
theorem ile_le {a b : Int} (h : ile a b = true) : a ≤ b := ile_iff.1 h
theorem bd_in {r s : Bd} {n : Int} (h : r.has n) (h1 : loOk r.1 s.1 = true) (h2 : hiOk r.2 s.2 = true) : s.has n := by
  constructor
  · intro m hm
    rw [hm] at h1
    unfold loOk at h1
    simp only at h1
    split at h1
    · rename_i x hx; exact Int.le_trans (ile_le h1) (h.1 _ hx)
    · cases h1
  · intro m hm
    rw [hm] at h2
    unfold hiOk at h2
    simp only at h2
    split at h2
    · rename_i x hx; exact Int.le_trans (h.2 _ hx) (ile_le h2)
    · cases h2
def bdOk1 (k : Known) (e : E) (r : Bd) : Bool := (norm k e).deepK fun e => match bnd k e with | (lo, hi) => loOk lo r.1 && hiOk hi r.2
def bdOk (k : Known) (e : E) (r : Bd) : Bool := match bdOk1 k e r with
  | true => true
  | false => match r with
    | (some lo, some hi) => ieq lo hi && isT (dec k (.bin .eq e (.lit lo)))
    | _ => false
theorem bdOk1_ok {ρ : Env} {k : Known} (hk : Known.holds ρ k) {e : E} {r : Bd} (h : bdOk1 k e r = true) : r.has (e.den ρ) := by
  unfold bdOk1 at h
  rw [E.deepK_eq] at h
  simp only [Bool.and_eq_true] at h
  have := bnd_has hk (norm k e)
  rw [norm_den hk] at this
  exact bd_in this h.1 h.2
theorem bdOk_ok {ρ : Env} {k : Known} (hk : Known.holds ρ k) {e : E} {r : Bd} (h : bdOk k e r = true) : r.has (e.den ρ) := by
  unfold bdOk at h
  split at h
  · rename_i h1; exact bdOk1_ok hk h1
  · obtain ⟨lo?, hi?⟩ := r
    cases lo? <;> cases hi? <;> simp only [Bool.false_eq_true] at h
    · rename_i lo hi
      simp only [Bool.and_eq_true] at h
      have e1 := (ieq_eq h.1).symm
      subst e1
      cases hd : dec k (.bin .eq e (.lit lo)) with
      | none => rw [hd] at h; cases h.2
      | some b =>
        rw [hd] at h
        have hb : b = true := h.2
        subst hb
        have := (eq_iff.1 (dec_sound hk hd)).2 rfl
        simp only [E.den] at this
        exact ⟨fun m hm => by cases hm; omega, fun m hm => by cases hm; omega⟩
def factOk (k : Known) (a : Asg) : Fact → Bool
  | .tr e b => match e.flatT with | true => (match dec k (e.sb a) with | some c => eqB01 b c | none => false) | false => false
  | .rng e r => e.flatT && bdOk k (e.sb a) r
  | .rep _ _ => false
theorem factOk_ok {ρ : Env} {k : Known} (hk : Known.holds ρ k) {a : Asg} {g : Fact} (h : factOk k a g = true) : Fact.holds (ρ.puts a) g := by
  cases g with
  | tr e b =>
    simp only [factOk] at h
    split at h
    · rename_i hf
      split at h
      · rename_i c hc
        have := dec_sound hk hc
        rw [sb_den ρ a e hf] at this
        rw [eqB01_eq h]
        exact this
      · cases h
    · cases h
  | rng e r =>
    simp only [factOk, Bool.and_eq_true] at h
    have := bdOk_ok hk h.2
    rw [sb_den ρ a e h.1] at this
    exact this
  | rep i j => cases h
def factsOk (k : Known) (a : Asg) : List Fact → Bool
  | [] => true
  | g :: r => match factOk k a g with | true => factsOk k a r | false => false
theorem factsOk_ok {ρ : Env} {k : Known} (hk : Known.holds ρ k) {a : Asg} : ∀ {l : List Fact}, factsOk k a l = true → ∀ g ∈ l, Fact.holds (ρ.puts a) g
  | [], _, g, hg => by cases hg
  | x :: r, h, g, hg => by
    unfold factsOk at h
    split at h
    · rename_i hx
      rcases List.mem_cons.1 hg with rfl | hg
      · exact factOk_ok hk hx
      · exact factsOk_ok hk h g hg
    · cases h
/-- A count goes up by one, and had not come to its end. -/
def cntOk (k : Known) (a : Asg) : Option (Nat × Int) → Bool
  | none => true
  | some (c, B) => match asgGet a c with
    | some e => sameK k e (.bin (.add .i64) (.var c) (.lit (.ofNat 1))) && (bdOk k (.var c) (some (.negSucc 9223372036854775807), some (B - 1)) && ile B (.ofNat 9223372036854775807))
    | none => false
def cntLt (ρ ρ' : Env) : Option (Nat × Int) → Prop
  | none => True
  | some (c, B) => (B - ρ'.v c).toNat < (B - ρ.v c).toNat
theorem cntOk_ok {ρ : Env} {k : Known} (hk : Known.holds ρ k) {a : Asg} {c : Option (Nat × Int)} (h : cntOk k a c = true) : cntLt ρ (ρ.puts a) c := by
  cases c with
  | none => trivial
  | some c =>
    obtain ⟨c, B⟩ := c
    simp only [cntOk] at h
    split at h
    · rename_i e he
      simp only [Bool.and_eq_true] at h
      obtain ⟨h1, h2, h3⟩ := h
      have e1 := sameK_ok hk h1
      have e2 := bdOk_ok hk h2
      have e3 := ile_le h3
      have l1 := e2.1 _ rfl
      have l2 := e2.2 _ rfl
      have hv : (ρ.puts a).v c = e.den ρ := by simp only [Env.puts, he]
      simp only [E.den, BO.den] at e1 l1 l2
      have l1' : -9223372036854775808 ≤ ρ.v c := l1
      have l3 : B ≤ 9223372036854775807 := e3
      have hw : IntKind.i64.wrap (ρ.v c + Int.ofNat 1) = ρ.v c + 1 := wrap_i64 (z := ρ.v c + 1) (by omega)
      rw [hw] at e1
      show (B - (ρ.puts a).v c).toNat < (B - ρ.v c).toNat
      rw [hv, e1]
      omega
    · cases h
def solved (k : Known) (facts : List Fact) (cnt : Option (Nat × Int)) (ps : Pairs) : Bool :=
  match asgOf ps [] with
  | a => eqsOk k a ps && (factsOk k a facts && cntOk k a cnt)
theorem solved_ok {ρ : Env} {k : Known} (hk : Known.holds ρ k) {facts : List Fact} {cnt : Option (Nat × Int)} {ps : Pairs} (h : solved k facts cnt ps = true) : ∃ ρ', Eqs ρ ρ' ps ∧ (∀ g ∈ facts, Fact.holds ρ' g) ∧ cntLt ρ ρ' cnt := by
  simp only [solved, Bool.and_eq_true] at h
  exact ⟨_, eqsOk_ok hk h.1, factsOk_ok hk h.2.1, cntOk_ok hk h.2.2⟩
def settled (k : Known) (FN FX : List Fact) (cnt : Option (Nat × Int)) : What → Bool
  | .next ps => solved k FN cnt ps
  | .out ps => solved k FX none ps
  | .done e => isT (dec k e)
def obsB (ty : Tys) (fn : Func) (tN : Option Tm) (FN : List Fact) (cnt : Option (Nat × Int)) (tX : Option (Nat × Tm)) (FX : List Fact) : Outs → Option (List Ob)
  | [] => some []
  | (k, x, s) :: r => match whatOf ty fn tN tX x s, obsB ty fn tN FN cnt tX FX r with
    | some o, some os => (match settled k FN FX cnt o with | true => some os | false => some ((k.tr, o) :: os))
    | _, _ => none
def runBk (ty : Tys) (fm : FuncId → Option Func) (mb : List (Nat × List Nat)) (n : Nat) (fn : Func) (l : List Code) (k : Known) (s : S) (tN : Option Tm) (FN : List Fact) (cnt : Option (Nat × Int)) (tX : Option (Nat × Tm)) (FX : List Fact) : Option (List Ob) :=
  match execL (mkCfgM ty fm mb) n fn.ntmps l k s with
    | some outs => obsB ty fn tN FN cnt tX FX outs
    | none => none
def runB (ty : Tys) (fm : FuncId → Option Func) (mb : List (Nat × List Nat)) (n : Nat) (fn : Func) (l : List Code) (facts : List Fact) (s : S) (tN : Option Tm) (FN : List Fact) (cnt : Option (Nat × Int)) (tX : Option (Nat × Tm)) (FX : List Fact) : Option (List Ob) :=
  Known.addsK Known.nil facts fun k => runBk ty fm mb n fn l k s tN FN cnt tX FX
/-- On a path of tests. -/
def runBP (ty : Tys) (fm : FuncId → Option Func) (mb : List (Nat × List Nat)) (n : Nat) (fn : Func) (l : List Code) (facts : List Fact) (s : S) (tN : Option Tm) (FN : List Fact) (cnt : Option (Nat × Int)) (tX : Option (Nat × Tm)) (FX : List Fact) (path : List (E × Bool)) : Option (List Ob) :=
  Known.addsK Known.nil facts fun k => assumesK k path fun k => runBk ty fm mb n fn l k s tN FN cnt tX FX
/-- What is left to show. -/
abbrev LeftOb (ρ : Env) (obs : List Ob) (FN : List Fact) (cnt : Option (Nat × Int)) (FX : List Fact) : Prop := ObsOk ρ obs (fun ρ' => (∀ g ∈ FN, Fact.holds ρ' g) ∧ cntLt ρ ρ' cnt) (fun ρ' => ∀ g ∈ FX, Fact.holds ρ' g)
theorem obsB_ok {ty : Tys} {fn : Func} {tN : Option Tm} {FN : List Fact} {cnt : Option (Nat × Int)} {tX : Option (Nat × Tm)} {FX : List Fact} : ∀ {outs : Outs} {obs : List Ob}, obsB ty fn tN FN cnt tX FX outs = some obs → ∀ o ∈ outs,
    ∃ wh, whatOf ty fn tN tX o.2.1 o.2.2 = some wh ∧ (settled o.1 FN FX cnt wh = true ∨ (o.1.tr, wh) ∈ obs)
  | [], obs, h, o, ho => by cases ho
  | (k, x, s) :: r, obs, h, o, ho => by
    simp only [obsB] at h
    split at h
    · rename_i wh os hw hos
      have ih := obsB_ok hos
      split at h
      · rename_i hd
        cases h
        rcases List.mem_cons.1 ho with rfl | ho
        · exact ⟨wh, hw, .inl hd⟩
        · exact ih o ho
      · cases h
        rcases List.mem_cons.1 ho with rfl | ho
        · exact ⟨wh, hw, .inr (List.mem_cons_self ..)⟩
        · obtain ⟨wh', h1, h2⟩ := ih o ho
          exact ⟨wh', h1, h2.imp id (List.mem_cons_of_mem _)⟩
    · cases h
def GoodP (ty : Tys) (fm : FuncId → Option Func) (mb : List (Nat × List Nat)) (n : Nat) (fn : Func) (l : List Code) (facts : List Fact) (s : S) (tN : Option Tm) (FN : List Fact) (cnt : Option (Nat × Int)) (tX : Option (Nat × Tm)) (FX : List Fact) (p : List (E × Bool)) : Prop :=
  ∃ obs, runBP ty fm mb n fn l facts s tN FN cnt tX FX p = some obs ∧ ∀ ρ, (∀ g ∈ facts, Fact.holds ρ g) → LeftOb ρ obs FN cnt FX
def GoodT (ty : Tys) (fm : FuncId → Option Func) (mb : List (Nat × List Nat)) (n : Nat) (fn : Func) (l : List Code) (facts : List Fact) (s : S) (tN : Option Tm) (FN : List Fact) (cnt : Option (Nat × Int)) (tX : Option (Nat × Tm)) (FX : List Fact) (t : DT) : Prop :=
  ∀ p ∈ t.paths, GoodP ty fm mb n fn l facts s tN FN cnt tX FX p
section
variable {P : Program} {ty : Tys} {fm : FuncId → Option Func} {mb : List (Nat × List Nat)} (hm : P.follows .mixedOrders = true) (hty : TysOk P ty) (hfn : FnOk P fm)
include hm hty hfn in
theorem run_Bk {n : Nat} {fn : Func} {l : List Code} {k0 : Known} {s : S} {tN : Option Tm} {FN : List Fact} {cnt : Option (Nat × Int)} {tX : Option (Nat × Tm)} {FX : List Fact} {obs : List Ob}
    (hrun : runBk ty fm mb n fn l k0 s tN FN cnt tX FX = some obs) {ρ : Env} (hk : Known.holds ρ k0)
    {W : World} {β : Lab} {a : Act} {w : World} (hs : TS W ρ β fn.ntmps s a w) {Q : Exit → Act → World → Prop} (hob : LeftOb ρ obs FN cnt FX)
    (hN : ∀ ρ', (∀ g ∈ FN, Fact.holds ρ' g) → cntLt ρ ρ' cnt → ∀ t, tN = some t → ∀ β a w, TS W ρ' β fn.ntmps t.toS a w → Q .normal a w)
    (hX : ∀ ρ', (∀ g ∈ FX, Fact.holds ρ' g) → ∀ b t, tX = some (b, t) → ∀ β a w, TS W ρ' β fn.ntmps t.toS a w → Q (.exit b) a w)
    (hret : ∀ a w, TrueEnd P fn W .ret a w → Q .ret a w) (hnrm : tN = none → ∀ a w, TrueEnd P fn W .normal a w → Q .normal a w) : WPs P l Q a w := by
  unfold runBk at hrun
  split at hrun
  · rename_i outs houts
    refine execL_TS hm hty hfn houts hk hs fun o ho hok β' a' w' hts => ?_
    obtain ⟨wh, hwh, hin⟩ := obsB_ok hrun o ho
    obtain ⟨k, x, s'⟩ := o
    have done : ∀ e, wh = .done e → e.den ρ ≠ 0 := by
      intro e he
      subst he
      rcases hin with hin | hin
      · simp only [settled] at hin
        cases hx : dec k e with
        | none => rw [hx] at hin; cases hin
        | some b => rw [hx] at hin; simp only [isT] at hin; subst hin; exact (dec_sound hok hx).2 rfl
      · exact hob _ hin hok.tr
    have next : ∀ ps, wh = .next ps → ∃ ρ', Eqs ρ ρ' ps ∧ (∀ g ∈ FN, Fact.holds ρ' g) ∧ cntLt ρ ρ' cnt := by
      intro ps he
      subst he
      rcases hin with hin | hin
      · exact solved_ok hok hin
      · exact hob _ hin hok.tr
    have out : ∀ ps, wh = .out ps → ∃ ρ', Eqs ρ ρ' ps ∧ (∀ g ∈ FX, Fact.holds ρ' g) := by
      intro ps he
      subst he
      rcases hin with hin | hin
      · obtain ⟨ρ', h1, h2, _⟩ := solved_ok hok hin
        exact ⟨ρ', h1, h2⟩
      · exact hob _ hin hok.tr
    cases x with
    | nrm =>
      simp only [whatOf] at hwh
      cases tN with
      | none =>
        simp only at hwh
        cases hr : retE ty fn s' with
        | none => rw [hr] at hwh; cases hwh
        | some e =>
          rw [hr] at hwh
          cases hwh
          exact hnrm rfl _ _ (ret_TS hty hts hr (done e rfl) (.inr rfl))
      | some t =>
        simp only at hwh
        cases hr : matchS s' t with
        | none => rw [hr] at hwh; cases hwh
        | some ps =>
          rw [hr] at hwh
          cases hwh
          obtain ⟨ρ', h1, h2, h3⟩ := next ps rfl
          exact hN ρ' h2 h3 t rfl _ _ _ (matchS_ok h1.1 hr h1.2 hts)
    | ret =>
      simp only [whatOf] at hwh
      cases hr : retE ty fn s' with
      | none => rw [hr] at hwh; cases hwh
      | some e =>
        rw [hr] at hwh
        cases hwh
        exact hret _ _ (ret_TS hty hts hr (done e rfl) (.inl rfl))
    | ext id =>
      simp only [whatOf] at hwh
      split at hwh
      · rename_i b t
        split at hwh
        · rename_i hb
          have := Nat.eq_of_beq_eq_true hb
          subst this
          cases hr : matchS s' t with
          | none => rw [hr] at hwh; cases hwh
          | some ps =>
            rw [hr] at hwh
            cases hwh
            obtain ⟨ρ', h1, h2⟩ := out ps rfl
            exact hX ρ' h2 _ t rfl _ _ _ (matchS_ok h1.1 hr h1.2 hts)
        · cases hwh
      · cases hwh
  · cases hrun
include hm hty hfn in
theorem run_B {n : Nat} {fn : Func} {l : List Code} {facts : List Fact} {s : S} {tN : Option Tm} {FN : List Fact} {cnt : Option (Nat × Int)} {tX : Option (Nat × Tm)} {FX : List Fact} {obs : List Ob}
    (hrun : runB ty fm mb n fn l facts s tN FN cnt tX FX = some obs) {ρ : Env} (hk : ∀ g ∈ facts, Fact.holds ρ g)
    {W : World} {β : Lab} {a : Act} {w : World} (hs : TS W ρ β fn.ntmps s a w) {Q : Exit → Act → World → Prop} (hob : LeftOb ρ obs FN cnt FX)
    (hN : ∀ ρ', (∀ g ∈ FN, Fact.holds ρ' g) → cntLt ρ ρ' cnt → ∀ t, tN = some t → ∀ β a w, TS W ρ' β fn.ntmps t.toS a w → Q .normal a w)
    (hX : ∀ ρ', (∀ g ∈ FX, Fact.holds ρ' g) → ∀ b t, tX = some (b, t) → ∀ β a w, TS W ρ' β fn.ntmps t.toS a w → Q (.exit b) a w)
    (hret : ∀ a w, TrueEnd P fn W .ret a w → Q .ret a w) (hnrm : tN = none → ∀ a w, TrueEnd P fn W .normal a w → Q .normal a w) : WPs P l Q a w := by
  unfold runB at hrun
  rw [Known.addsK_eq] at hrun
  exact run_Bk hm hty hfn hrun (Known.adds_holds (Known.nil_holds ρ) hk) hs hob hN hX hret hnrm
include hm hty hfn in
/-- By cases. -/
theorem run_T {n : Nat} {fn : Func} {l : List Code} {facts lem : List Fact} {s : S} {tN : Option Tm} {FN : List Fact} {cnt : Option (Nat × Int)} {tX : Option (Nat × Tm)} {FX : List Fact} {t : DT}
    (hg : GoodT ty fm mb n fn l (facts ++ lem) s tN FN cnt tX FX t) (hlem : ∀ ρ, (∀ g ∈ facts, Fact.holds ρ g) → ∀ g ∈ lem, Fact.holds ρ g) {ρ : Env} (hk : ∀ g ∈ facts, Fact.holds ρ g)
    {W : World} {β : Lab} {a : Act} {w : World} (hs : TS W ρ β fn.ntmps s a w) {Q : Exit → Act → World → Prop}
    (hN : ∀ ρ', (∀ g ∈ FN, Fact.holds ρ' g) → cntLt ρ ρ' cnt → ∀ t, tN = some t → ∀ β a w, TS W ρ' β fn.ntmps t.toS a w → Q .normal a w)
    (hX : ∀ ρ', (∀ g ∈ FX, Fact.holds ρ' g) → ∀ b t, tX = some (b, t) → ∀ β a w, TS W ρ' β fn.ntmps t.toS a w → Q (.exit b) a w)
    (hret : ∀ a w, TrueEnd P fn W .ret a w → Q .ret a w) (hnrm : tN = none → ∀ a w, TrueEnd P fn W .normal a w → Q .normal a w) : WPs P l Q a w := by
  obtain ⟨p, hp, hc⟩ := DT.cover ρ t
  obtain ⟨obs, hrun, hob⟩ := hg p hp
  have hall : ∀ g ∈ facts ++ lem, Fact.holds ρ g := fun g hg => by
    rcases List.mem_append.1 hg with h | h
    · exact hk g h
    · exact hlem ρ hk g h
  unfold runBP at hrun
  rw [Known.addsK_eq, assumesK_eq] at hrun
  exact run_Bk hm hty hfn hrun (assumes_holds (Known.adds_holds (Known.nil_holds ρ) hall) hc) hs (hob ρ hall) hN hX hret hnrm
include hm hty hfn in
/-- One loop, counted. -/
theorem loopB {n : Nat} {fn : Func} {s0 : S} {i b c : Nat} {B : Int} {t tE : Tm} {facts0 factsL factsE : List Fact} {obs0 obsL obs2 : List Ob}
    (hloop : (flat (bodyOf fn))[i]? = some (.block b (.loop (loopBody (flat (bodyOf fn)) i))))
    (run0 : runB ty fm mb n fn ((flat (bodyOf fn)).take i) facts0 s0 (some t) factsL none none [] = some obs0)
    (runL : runB ty fm mb n fn (flat (loopBody (flat (bodyOf fn)) i)) factsL t.toS (some t) factsL (some (c, B)) (some (b, tE)) factsE = some obsL)
    (run2 : runB ty fm mb n fn ((flat (bodyOf fn)).drop (i + 1)) factsE tE.toS none [] none none [] = some obs2)
    (h0 : ∀ ρ, (∀ g ∈ facts0, Fact.holds ρ g) → LeftOb ρ obs0 factsL none []) (hL : ∀ ρ, (∀ g ∈ factsL, Fact.holds ρ g) → LeftOb ρ obsL factsL (some (c, B)) factsE) (h2 : ∀ ρ, (∀ g ∈ factsE, Fact.holds ρ g) → LeftOb ρ obs2 [] none [])
    {ρ : Env} (hk : ∀ g ∈ facts0, Fact.holds ρ g) {β : Lab} {W : World} {a : Act} (hs : TS W ρ β fn.ntmps s0 a W) : WPs P (flat (bodyOf fn)) (TrueEnd P fn W) a W := by
  rw [cut_at hloop]
  refine WPs.append (run_B hm hty hfn run0 hk hs (h0 ρ hk) (fun ρ' hf _ t' ht' β a w hts => ?_) (fun _ _ _ _ h => by cases h) (fun a w h => h) (fun h => by cases h))
  cases ht'
  show Exit.then _ _ .normal a w
  simp only [Exit.then, WPs]
  refine wp_block ?_
  have key : ∀ (d : Nat) (ρ : Env) (β : Lab) (a : Act) (w : World), (B - ρ.v c).toNat < d → (∀ g ∈ factsL, Fact.holds ρ g) → TS W ρ β fn.ntmps t.toS a w →
      Code.rounds P (loopBody (flat (bodyOf fn)) i) (Exit.inBlock b (Exit.then (WPs P ((flat (bodyOf fn)).drop (i + 1)) (TrueEnd P fn W)) (TrueEnd P fn W))) d a w := by
    intro d
    induction d with
    | zero => intro ρ β a w hd; omega
    | succ d ih =>
      intro ρ β a w hd hf hs
      rw [rounds_succ]
      refine WPs.flat (run_B hm hty hfn runL hf hs (hL ρ hf) (fun ρ' hf' hc t' ht' β a w hts => ?_) (fun ρ' hf' b' t' ht' β a w hts => ?_) (fun a w h => h) (fun h => by cases h))
      · cases ht'
        have hc' : (B - ρ'.v c).toNat < (B - ρ.v c).toNat := hc
        exact ih ρ' β a w (by omega) hf' hts
      · cases ht'
        show Exit.then _ (Exit.inBlock _ _) (.exit _) a w
        simp only [Exit.then, Exit.inBlock, if_true]
        exact run_B hm hty hfn run2 hf' hts (h2 ρ' hf') (fun _ _ _ _ h => by cases h) (fun _ _ _ _ h => by cases h) (fun a w h => h) (fun _ a w h => h)
  exact wp_loop_rounds _ (key ((B - ρ'.v c).toNat + 1) ρ' β a w (by omega) hf hts)
include hm hty hfn in
/-- One loop, counted; each part by cases. -/
theorem loopT {n : Nat} {fn : Func} {s0 : S} {i b c : Nat} {B : Int} {t tE : Tm} {facts0 factsL factsE lemL lemE : List Fact} {tr0 trL tr2 : DT}
    (hloop : (flat (bodyOf fn))[i]? = some (.block b (.loop (loopBody (flat (bodyOf fn)) i))))
    (run0 : GoodT ty fm mb n fn ((flat (bodyOf fn)).take i) (facts0 ++ []) s0 (some t) factsL none none [] tr0)
    (runL : GoodT ty fm mb n fn (flat (loopBody (flat (bodyOf fn)) i)) (factsL ++ lemL) t.toS (some t) factsL (some (c, B)) (some (b, tE)) factsE trL)
    (run2 : GoodT ty fm mb n fn ((flat (bodyOf fn)).drop (i + 1)) (factsE ++ lemE) tE.toS none [] none none [] tr2)
    (hL : ∀ ρ, (∀ g ∈ factsL, Fact.holds ρ g) → ∀ g ∈ lemL, Fact.holds ρ g) (hE : ∀ ρ, (∀ g ∈ factsE, Fact.holds ρ g) → ∀ g ∈ lemE, Fact.holds ρ g)
    {ρ : Env} (hk : ∀ g ∈ facts0, Fact.holds ρ g) {β : Lab} {W : World} {a : Act} (hs : TS W ρ β fn.ntmps s0 a W) : WPs P (flat (bodyOf fn)) (TrueEnd P fn W) a W := by
  rw [cut_at hloop]
  refine WPs.append (run_T hm hty hfn run0 (fun _ _ _ h => by cases h) hk hs (fun ρ' hf _ t' ht' β a w hts => ?_) (fun _ _ _ _ h => by cases h) (fun a w h => h) (fun h => by cases h))
  cases ht'
  show Exit.then _ _ .normal a w
  simp only [Exit.then, WPs]
  refine wp_block ?_
  have key : ∀ (d : Nat) (ρ : Env) (β : Lab) (a : Act) (w : World), (B - ρ.v c).toNat < d → (∀ g ∈ factsL, Fact.holds ρ g) → TS W ρ β fn.ntmps t.toS a w →
      Code.rounds P (loopBody (flat (bodyOf fn)) i) (Exit.inBlock b (Exit.then (WPs P ((flat (bodyOf fn)).drop (i + 1)) (TrueEnd P fn W)) (TrueEnd P fn W))) d a w := by
    intro d
    induction d with
    | zero => intro ρ β a w hd; omega
    | succ d ih =>
      intro ρ β a w hd hf hs
      rw [rounds_succ]
      refine WPs.flat (run_T hm hty hfn runL hL hf hs (fun ρ' hf' hc t' ht' β a w hts => ?_) (fun ρ' hf' b' t' ht' β a w hts => ?_) (fun a w h => h) (fun h => by cases h))
      · cases ht'
        have hc' : (B - ρ'.v c).toNat < (B - ρ.v c).toNat := hc
        exact ih ρ' β a w (by omega) hf' hts
      · cases ht'
        show Exit.then _ (Exit.inBlock _ _) (.exit _) a w
        simp only [Exit.then, Exit.inBlock, if_true]
        exact run_T hm hty hfn run2 hE hf' hts (fun _ _ _ _ h => by cases h) (fun _ _ _ _ h => by cases h) (fun a w h => h) (fun _ a w h => h)
  exact wp_loop_rounds _ (key ((B - ρ'.v c).toNat + 1) ρ' β a w (by omega) hf hts)
include hm hty hfn in
/-- Where nothing came in: up to behind the loop, and on from there. -/
theorem loopNil {n : Nat} {fn : Func} {s0 : S} {i : Nat} {tE : Tm} {facts0 factsE lemE : List Fact} {tr0 tr2 : DT}
    (run0 : GoodT ty fm mb n fn ((flat (bodyOf fn)).take (i + 1)) (facts0 ++ []) s0 (some tE) factsE none none [] tr0)
    (run2 : GoodT ty fm mb n fn ((flat (bodyOf fn)).drop (i + 1)) (factsE ++ lemE) tE.toS none [] none none [] tr2)
    (hE : ∀ ρ, (∀ g ∈ factsE, Fact.holds ρ g) → ∀ g ∈ lemE, Fact.holds ρ g)
    {ρ : Env} (hk : ∀ g ∈ facts0, Fact.holds ρ g) {β : Lab} {W : World} {a : Act} (hs : TS W ρ β fn.ntmps s0 a W) : WPs P (flat (bodyOf fn)) (TrueEnd P fn W) a W := by
  rw [← List.take_append_drop (i + 1) (flat (bodyOf fn))]
  refine WPs.append (run_T hm hty hfn run0 (fun _ _ _ h => by cases h) hk hs (fun ρ' hf _ t' ht' β a w hts => ?_) (fun _ _ _ _ h => by cases h) (fun a w h => h) (fun h => by cases h))
  cases ht'
  show Exit.then _ _ .normal a w
  simp only [Exit.then]
  exact run_T hm hty hfn run2 hE hf hts (fun _ _ _ _ h => by cases h) (fun _ _ _ _ h => by cases h) (fun a w h => h) (fun _ a w h => h)
end
end
end Go.Sx
