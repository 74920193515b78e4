/-
  SX, PART 15: A LAW OF FLAT ARGUMENTS: integers, bools, structs and arrays of these: the executor's run, checked, is the walk.
-/
import Derived.Test.YtcobklmobbfolaaSxL
import Derived.RowKit3
namespace Go.Sx
noncomputable section
set_option linter.unusedVariables false

/-! ### arguments with a variable for each cell -/
def symCell (P : Program) (u : TypeId) (n : Nat) : Option (CV × Fact) :=
  match P.underlying u with
  | some (.int k) => some (.int k (.var n), .rng (.var n) (some (kmin k), some (kmax k)))
  | some .bool => some (.bool (.var n), .rng (.var n) (some 0, some 1))
  | _ => none
def symCells (P : Program) : List TypeId → Nat → Option (List CV × List Fact)
  | [], _ => some ([], [])
  | u :: us, n => match symCell P u n, symCells P us (n + 1) with
    | some (c, f), some (cs, k) => some (c :: cs, f :: k)
    | _, _ => none
def aggB (P : Program) (t : TypeId) : Bool := match P.underlying t with
  | some (.struct _) | some (.array _ _) => true
  | _ => false
def symArg (P : Program) (t : TypeId) (n : Nat) : Option (V1 × List Fact × Nat) :=
  match aggB P t with
  | true => match P.cellTypes P.depth t with
    | some ts => match Nat.beq (P.cellsOf t) ts.length, symCells P ts n with
      | true, some (cs, k) => some (.agg cs, k, n + ts.length)
      | _, _ => none
    | none => none
  | false => match symCell P t n with
    | some (c, f) => some (.one c, [f], n + 1)
    | none => none
def symArgs (P : Program) : List TypeId → Nat → Option (List V1 × List Fact × Nat)
  | [], n => some ([], [], n)
  | t :: ts, n => match symArg P t n with
    | some (x, k, m) => match symArgs P ts m with
      | some (xs, k', m') => some (x :: xs, k ++ k', m')
      | none => none
    | none => none

/-- What an environment gives from n on is the list. -/
def Env.from (ρ : Env) (n : Nat) (L : List Int) : Prop := ∀ i, i < L.length → ρ.v (n + i) = L.getD i 0
theorem Env.from_left {ρ : Env} {n : Nat} {L L' : List Int} (h : ρ.from n (L ++ L')) : ρ.from n L := fun i hi => by
  rw [h i (by simp; omega)]
  simp [List.getD, List.getElem?_append_left hi]
theorem Env.from_right {ρ : Env} {n : Nat} {L L' : List Int} (h : ρ.from n (L ++ L')) : ρ.from (n + L.length) L' := fun i hi => by
  have := h (L.length + i) (by simp; omega)
  rw [Nat.add_assoc, this]
  simp [List.getD, List.getElem?_append_right]
theorem Env.from_cons {ρ : Env} {n : Nat} {x : Int} {L : List Int} (h : ρ.from n (x :: L)) : ρ.v n = x ∧ ρ.from (n + 1) L :=
  ⟨h 0 (by simp), Env.from_right (L := [x]) h⟩

section
variable {P : Program} {W : World} {r : Reach} {base : Nat}
theorem symCell_ok {u : TypeId} {n : Nat} {c : CV} {f : Fact} (h : symCell P u n = some (c, f)) {v : Value} (hv : Cell.okWide P W r base u v) :
    ∃ x : Int, ∀ (ρ : Env) (β : Lab), ρ.v n = x → c.den ρ β = v ∧ f.holds ρ ∧ ∀ m, c.below m := by
  unfold symCell at h
  split at h
  · rename_i k hk
    cases h
    unfold Cell.okWide at hv
    rw [hk] at hv
    unfold Cell.ok at hv
    rw [hk] at hv
    cases v <;> simp only at hv
    rename_i k' x
    obtain ⟨rfl, hx⟩ := hv
    refine ⟨x, fun ρ β e => ⟨by simp [CV.den, E.den, e], ?_, fun _ => trivial⟩⟩
    simp only [Fact.holds, E.den, e, Bd.has]
    unfold IntKind.has at hx
    rw [kmin_eq, kmax_eq] at hx
    exact ⟨fun m hm => (by cases hm; exact hx.1), fun m hm => (by cases hm; exact hx.2)⟩
  · rename_i hk
    cases h
    unfold Cell.okWide at hv
    rw [hk] at hv
    unfold Cell.ok at hv
    rw [hk] at hv
    cases v <;> simp only at hv
    rename_i b
    refine ⟨b01 b, fun ρ β e => ⟨by cases b <;> simp [CV.den, E.den, e, b01], ?_, fun _ => trivial⟩⟩
    simp only [Fact.holds, E.den, e]
    exact b01B_has (by cases b <;> simp [b01])
  · cases h
theorem symCells_ok : ∀ {us : List TypeId} {n : Nat} {cs : List CV} {k : List Fact}, symCells P us n = some (cs, k) → ∀ {vs : List Value}, vs.length = us.length →
    (∀ (i : Nat) (v : Value), vs[i]? = some v → ∃ u, us[i]? = some u ∧ Cell.okWide P W r base u v) →
    ∃ L : List Int, L.length = us.length ∧ ∀ (ρ : Env) (β : Lab), ρ.from n L → cs.map (CV.den ρ β) = vs ∧ (∀ g ∈ k, g.holds ρ) ∧ ∀ m, ∀ c ∈ cs, CV.below m c
  | [], n, cs, k, h, vs, hl, hv => by
    cases h
    have : vs = [] := List.eq_nil_of_length_eq_zero hl
    subst this
    exact ⟨[], rfl, fun ρ β _ => ⟨rfl, fun f hf => (by cases hf), fun m c hc => (by cases hc)⟩⟩
  | u :: us, n, cs, k, h, vs, hl, hv => by
    unfold symCells at h
    split at h
    · rename_i c f cs' k' hc hcs
      cases h
      match vs, hl with
      | v :: vs, hl =>
        obtain ⟨u', hu, hok⟩ := hv 0 v rfl
        cases hu
        obtain ⟨x, hx⟩ := symCell_ok hc hok
        obtain ⟨L, hL, hr⟩ := symCells_ok hcs (vs := vs) (by simpa using hl) (fun i v hi => hv (i + 1) v hi)
        refine ⟨x :: L, by simp [hL], fun ρ β hρ => ?_⟩
        obtain ⟨h1, h2⟩ := Env.from_cons hρ
        obtain ⟨a1, a2, a3⟩ := hx ρ β h1
        obtain ⟨b1, b2, b3⟩ := hr ρ β h2
        refine ⟨by rw [List.map_cons, a1, b1], fun g hg => ?_, fun m d hd => ?_⟩
        · rcases List.mem_cons.1 hg with rfl | hg
          · exact a2
          · exact b2 g hg
        · rcases List.mem_cons.1 hd with rfl | hd
          · exact a3 m
          · exact b3 m d hd
    · cases h
theorem symArg_ok {t : TypeId} {n : Nat} {x : V1} {k : List Fact} {m : Nat} (h : symArg P t n = some (x, k, m)) {v : Value} (hv : Value.okWide P W r base t v) :
    ∃ L : List Int, m = n + L.length ∧ ∀ (ρ : Env) (β : Lab), ρ.from n L → x.den ρ β = v ∧ (∀ g ∈ k, g.holds ρ) ∧ ∀ m, V1.below m x := by
  unfold symArg at h
  split at h
  · rename_i hag
    have hv' : ∃ cs, v = .agg cs ∧ cs.size = P.cellsOf t ∧ Row.okWide P W r base t cs := by
      unfold aggB at hag
      unfold Value.okWide at hv
      split at hag
      · rename_i hu; rw [hu] at hv; exact hv
      · rename_i hu; rw [hu] at hv; exact hv
      · cases hag
    split at h
    · rename_i ts hts
      split at h
      · rename_i cs k' hb hcs
        cases h
        obtain ⟨vs, rfl, hsz, hrow⟩ := hv'
        have hb := Nat.eq_of_beq_eq_true hb
        unfold Row.okWide at hrow
        obtain ⟨ts', hts', _, hcell⟩ := hrow
        rw [hts] at hts'
        cases hts'
        have hlen : vs.toList.length = ts.length := by simp [hsz, hb]
        obtain ⟨L, hL, hr⟩ := symCells_ok hcs (vs := vs.toList) hlen (fun i v hi => by
          have hi' : i < ts.length := by
            have := (List.getElem?_eq_some_iff.1 hi).1
            omega
          have := hcell i v (by simpa using hi)
          rwa [Nat.mod_eq_of_lt hi'] at this)
        refine ⟨L, by rw [hL], fun ρ β hρ => ?_⟩
        obtain ⟨b1, b2, b3⟩ := hr ρ β hρ
        exact ⟨by simp only [V1.den, b1], b2, b3⟩
      · cases h
    · cases h
  · rename_i hag
    have hv' : Cell.okWide P W r base t v := by
      unfold aggB at hag
      unfold Value.okWide at hv
      split at hag
      · cases hag
      · cases hag
      · rename_i h1 h2
        split at hv
        · rename_i hu; exact absurd hu (h1 _)
        · rename_i hu; exact absurd hu (h2 _ _)
        · exact hv
    split at h
    · rename_i c f hc
      cases h
      obtain ⟨y, hy⟩ := symCell_ok hc hv'
      refine ⟨[y], rfl, fun ρ β hρ => ?_⟩
      obtain ⟨a1, a2, a3⟩ := hy ρ β (Env.from_cons hρ).1
      exact ⟨a1, fun g hg => (by rw [List.mem_singleton.1 hg]; exact a2), a3⟩
    · cases h
theorem symArgs_ok : ∀ {ts : List TypeId} {n : Nat} {xs : List V1} {k : List Fact} {m : Nat}, symArgs P ts n = some (xs, k, m) → ∀ {vs : List Value}, vs.length = ts.length →
    (∀ (j : Nat) (t : TypeId) (v : Value), ts[j]? = some t → vs[j]? = some v → Value.okWide P W r base t v) →
    ∃ L : List Int, m = n + L.length ∧ ∀ (ρ : Env) (β : Lab), ρ.from n L → xs.map (V1.den ρ β) = vs ∧ (∀ g ∈ k, g.holds ρ) ∧ ∀ m, ∀ x ∈ xs, V1.below m x
  | [], n, xs, k, m, h, vs, hl, hv => by
    cases h
    have : vs = [] := List.eq_nil_of_length_eq_zero hl
    subst this
    exact ⟨[], rfl, fun ρ β _ => ⟨rfl, fun f hf => (by cases hf), fun m c hc => (by cases hc)⟩⟩
  | t :: ts, n, xs, k, m, h, vs, hl, hv => by
    unfold symArgs at h
    split at h
    · rename_i x k1 m1 hx
      split at h
      · rename_i xs' k' m' hxs
        cases h
        match vs, hl with
        | v :: vs, hl =>
          obtain ⟨L, hL, hr⟩ := symArg_ok hx (hv 0 t v rfl rfl)
          obtain ⟨L', hL', hr'⟩ := symArgs_ok hxs (vs := vs) (by simpa using hl) (fun j t v ht hj => hv (j + 1) t v ht hj)
          refine ⟨L ++ L', by rw [hL', hL, List.length_append]; omega, fun ρ β hρ => ?_⟩
          have e1 := Env.from_left hρ
          have e2 := Env.from_right hρ
          rw [← hL] at e2
          obtain ⟨a1, a2, a3⟩ := hr ρ β e1
          obtain ⟨b1, b2, b3⟩ := hr' ρ β e2
          refine ⟨by rw [List.map_cons, a1, b1], fun g hg => ?_, fun m d hd => ?_⟩
          · rcases List.mem_append.1 hg with hg | hg
            · exact a2 g hg
            · exact b2 g hg
          · rcases List.mem_cons.1 hd with rfl | hd
            · exact a3 m
            · exact b3 m d hd
      · cases h
    · cases h
end

/-! ### the run of a law -/
/-- What is left to show: a result that is no literal true, on its path. -/
def restOf : List (Known × Eff) → Option (List (Known × E))
  | [] => some []
  | (k, e) :: l => match restOf l with
    | none => none
    | some r => match e.res with
      | .v (.one (.bool (.lit (.ofNat 1)))) => some r
      | .v (.one (.bool x)) => some ((k, x) :: r)
      | _ => none
def lawRun (P : Program) (ty : Tys) (fn : FuncId → Option Func) (n : Nat) (f : FuncId) (ts : List TypeId) : Option (List (Known × E)) :=
  match symArgs P ts 0 with
  | some (xs, k, _) => match callF (mkCfg ty fn) n f xs .leaf 0 (Known.nil.adds k) with
    | some l => restOf l
    | none => none
  | none => none
theorem restOf_ok {ρ : Env} : ∀ {l : List (Known × Eff)} {r : List (Known × E)}, restOf l = some r → (∀ p ∈ r, Known.holds ρ p.1 → p.2.den ρ ≠ 0) →
    ∀ o ∈ l, Known.holds ρ o.1 → ∀ β, o.2.res.den ρ β = .bool true
  | [], r, h, hr, o, ho => by cases ho
  | (k, e) :: l, r, h, hr, o, ho => by
    unfold restOf at h
    split at h
    · cases h
    · rename_i r' hr'
      intro hk β
      split at h
      · rename_i he
        cases h
        rcases List.mem_cons.1 ho with rfl | ho
        · simp [he, SV.den, V1.den, CV.den, E.den]
        · exact restOf_ok hr' hr o ho hk β
      · rename_i x _ he
        cases h
        rcases List.mem_cons.1 ho with rfl | ho
        · have := hr (k, x) (List.mem_cons_self ..) hk
          simp [he, SV.den, V1.den, CV.den, this]
        · exact restOf_ok hr' (fun p hp => hr p (List.mem_cons_of_mem _ hp)) o ho hk β
      · cases h
theorem Frm.grown {S : Nat → Prop} {w w' : World} (h : Frm S w w') (hS : ∀ k, ¬ S k) : RowKit.Grown w w' := by
  refine ⟨⟨h.os, h.output, fun i hi => ?_⟩, h.fz, h.size⟩
  rw [h.old i hi (hS i)]
  have := (World.keptBut_refl w (fun _ => False)).2.2 i hi
  exact this
/-- What stood before stands. -/
structure Kept (w w' : World) : Prop where
  grown : RowKit.Grown w w'
  old : ∀ k, k < w.heap.size → w'.heap[k]? = w.heap[k]?
theorem law_walk {P : Program} {ty : Tys} {fn : FuncId → Option Func} (hm : P.follows .mixedOrders = true) (hty : TysOk P ty) (hfn : FnOk P fn) {n : Nat} {f : FuncId} {ts : List TypeId}
    {rest : List (Known × E)} (hrun : lawRun P ty fn n f ts = some rest) (hrest : ∀ ρ : Env, ∀ p ∈ rest, Known.holds ρ p.1 → p.2.den ρ ≠ 0) {r : Reach} {base : Nat} {W : World} {args : Array Value}
    (hsz : args.size = ts.length) (hv : ∀ (j : Nat) (t : TypeId) (v : Value), ts[j]? = some t → args[j]? = some v → Value.okWide P W r base t v) :
    Calls P f args W fun e w' => e = .returned (.bool true) ∧ Kept W w' := by
  unfold lawRun at hrun
  split at hrun
  · rename_i xs k m hsym
    split at hrun
    · rename_i l hl
      obtain ⟨L, -, hL⟩ := symArgs_ok hsym (vs := args.toList) (by simpa using hsz) (fun j t v ht hj => hv j t v ht (by simpa using hj))
      let ρ : Env := ⟨fun i => L.getD i 0, fun _ _ _ => 0, fun _ _ _ => 0⟩
      have hρ : ρ.from 0 L := fun i _ => by simp [ρ]
      let β : Lab := ⟨fun _ => 0, fun _ => .bool true⟩
      obtain ⟨h1, h2, h3⟩ := hL ρ β hρ
      have hcall := call_sound hm hty hfn ρ [] n f xs .leaf 0 (Known.nil.adds k) l hl
      obtain ⟨o, ho, hok⟩ := hcall.1 (Known.adds_holds (Known.nil_holds ρ) h2)
      have hg := (hcall.2 o ho hok).2 β W (h3 0) ⟨fun l x hx => (by cases hx), fun l l' x x' hx => (by cases hx)⟩
      rw [h1, Array.toArray_toList] at hg
      refine hg.mono fun e w' ⟨β', st, _, he⟩ => ?_
      refine ⟨?_, st.frm.grown fun k ⟨l, _, hl, _⟩ => Nat.not_lt_zero _ hl, fun k hk => st.frm.old k hk fun ⟨l, _, hl, _⟩ => Nat.not_lt_zero _ hl⟩
      rw [he, restOf_ok hrun (hrest ρ) o ho hok β']
    · cases hrun
  · cases hrun
/-! ### the run of a law, by cases -/
def assumesK {R : Type} (k : Known) (l : List (E × Bool)) (K : Known → R) : R := match l with
  | [] => K k
  | (c, b) :: r => assumeK k c b fun k => assumesK k r K
def assumes (k : Known) : List (E × Bool) → Known
  | [] => k
  | (c, b) :: r => assumes (assume k c b) r
theorem assumesK_eq {R : Type} : ∀ (l : List (E × Bool)) (k : Known) (K : Known → R), assumesK k l K = K (assumes k l)
  | [], k, K => by simp only [assumesK, assumes]
  | (c, b) :: r, k, K => by simp only [assumesK, assumes, assumeK_eq, assumesK_eq r]
theorem assumes_holds {ρ : Env} : ∀ {l : List (E × Bool)} {k : Known}, Known.holds ρ k → (∀ p ∈ l, (p.1.den ρ ≠ 0 ↔ p.2 = true)) → Known.holds ρ (assumes k l)
  | [], _, h, _ => h
  | (c, b) :: r, k, h, hl => assumes_holds (l := r) (assume_holds h (hl _ (List.mem_cons_self ..))) fun p hp => hl p (List.mem_cons_of_mem _ hp)
/-- A tree of tests. -/
inductive DT where
  | leaf | node (c : E) (t f : DT)
def DT.paths : DT → List (List (E × Bool))
  | .leaf => [[]]
  | .node c t f => t.paths.map (fun p => (c, true) :: p) ++ f.paths.map (fun p => (c, false) :: p)
theorem DT.cover (ρ : Env) : ∀ t : DT, ∃ p ∈ t.paths, ∀ x ∈ p, (x.1.den ρ ≠ 0 ↔ x.2 = true)
  | .leaf => ⟨[], by simp [DT.paths], fun x hx => by cases hx⟩
  | .node c t f => by
    by_cases hc : c.den ρ = 0
    · obtain ⟨p, hp, h⟩ := DT.cover ρ f
      refine ⟨(c, false) :: p, List.mem_append_right _ (List.mem_map.2 ⟨p, hp, rfl⟩), fun x hx => ?_⟩
      rcases List.mem_cons.1 hx with rfl | hx
      · simp [hc]
      · exact h x hx
    · obtain ⟨p, hp, h⟩ := DT.cover ρ t
      refine ⟨(c, true) :: p, List.mem_append_left _ (List.mem_map.2 ⟨p, hp, rfl⟩), fun x hx => ?_⟩
      rcases List.mem_cons.1 hx with rfl | hx
      · simp [hc]
      · exact h x hx
/-- What is left to show: a result, and the tests on its path. -/
abbrev Rest := List (E × Bool) × E
def isT : Option Bool → Bool
  | some b => b
  | none => false
def restsOf : List (Known × Eff) → Option (List Rest)
  | [] => some []
  | (k, e) :: l => match e.res with
    | .v (.one (.bool x)) => (match isT (dec k x) with
      | true => restsOf l
      | false => match restsOf l with | some r => some ((k.tr, x) :: r) | none => none)
    | _ => none
def lawRunP (P : Program) (ty : Tys) (fn : FuncId → Option Func) (n : Nat) (f : FuncId) (ts : List TypeId) (path : List (E × Bool)) : Option (List Rest) :=
  match symArgs P ts 0 with
  | some (xs, k, _) => Known.addsK Known.nil k fun k => assumesK k path fun k => match callF (mkCfg ty fn) n f xs .leaf 0 k with
    | some l => restsOf l
    | none => none
  | none => none
def Rest.ok (ρ : Env) (p : Rest) : Prop := (∀ t ∈ p.1, (t.1.den ρ ≠ 0 ↔ t.2 = true)) → p.2.den ρ ≠ 0
theorem restsOf_ok {ρ : Env} : ∀ {l : List (Known × Eff)} {r : List Rest}, restsOf l = some r → (∀ p ∈ r, Rest.ok ρ p) →
    ∀ o ∈ l, Known.holds ρ o.1 → ∀ β, o.2.res.den ρ β = .bool true
  | [], r, h, hr, o, ho => by cases ho
  | (k, e) :: l, r, h, hr, o, ho => by
    unfold restsOf at h
    intro hk β
    have one : ∀ x : E, (k.tr, x) ∈ r → e.res = .v (.one (.bool x)) → Known.holds ρ k → e.res.den ρ β = .bool true := by
      intro x hx he hk
      have := hr _ hx hk.tr
      simp only at this
      simp [he, SV.den, V1.den, CV.den, this]
    split at h
    · rename_i x he
      split at h
      · rename_i hd
        rcases List.mem_cons.1 ho with rfl | ho
        · have h1 : dec k x = some true := by
            cases hx : dec k x with
            | none => rw [hx] at hd; cases hd
            | some b => rw [hx] at hd; simp only [isT] at hd; rw [hd]
          have := (dec_sound hk h1).2 rfl
          simp [he, SV.den, V1.den, CV.den, this]
        · exact restsOf_ok h hr o ho hk β
      · split at h
        · rename_i r' hr'
          cases h
          rcases List.mem_cons.1 ho with rfl | ho
          · exact one _ (List.mem_cons_self ..) he hk
          · exact restsOf_ok hr' (fun p hp => hr p (List.mem_cons_of_mem _ hp)) o ho hk β
        · cases h
    · cases h
/-- What the arguments' types say of the numbers. -/
def ArgsIn (P : Program) (ts : List TypeId) (ρ : Env) : Prop := ∀ xs k m, symArgs P ts 0 = some (xs, k, m) → ∀ g ∈ k, Fact.holds ρ g
def RunOk (P : Program) (ty : Tys) (fn : FuncId → Option Func) (n : Nat) (f : FuncId) (ts : List TypeId) (path : List (E × Bool)) : Prop :=
  ∃ rest, lawRunP P ty fn n f ts path = some rest ∧ ∀ ρ : Env, ArgsIn P ts ρ → ∀ p ∈ rest, Rest.ok ρ p
theorem law_walk_tree {P : Program} {ty : Tys} {fn : FuncId → Option Func} (hm : P.follows .mixedOrders = true) (hty : TysOk P ty) (hfn : FnOk P fn) {n : Nat} {f : FuncId} {ts : List TypeId} (tree : DT) (lem : List (E × Bool)) (hlem : ∀ ρ : Env, ArgsIn P ts ρ → ∀ t ∈ lem, (t.1.den ρ ≠ 0 ↔ t.2 = true))
    (hrun : ∀ path ∈ tree.paths, RunOk P ty fn n f ts (lem ++ path)) {r : Reach} {base : Nat} {W : World} {args : Array Value}
    (hsz : args.size = ts.length) (hv : ∀ (j : Nat) (t : TypeId) (v : Value), ts[j]? = some t → args[j]? = some v → Value.okWide P W r base t v) (hsym : (symArgs P ts 0).isSome = true) :
    Calls P f args W fun e w' => e = .returned (.bool true) ∧ Kept W w' := by
  obtain ⟨⟨xs, k, m⟩, hsym⟩ := Option.isSome_iff_exists.1 hsym
  obtain ⟨L, -, hL⟩ := symArgs_ok hsym (vs := args.toList) (by simpa using hsz) (fun j t v ht hj => hv j t v ht (by simpa using hj))
  let ρ : Env := ⟨fun i => L.getD i 0, fun _ _ _ => 0, fun _ _ _ => 0⟩
  have hρ : ρ.from 0 L := fun i _ => by simp [ρ]
  let β : Lab := ⟨fun _ => 0, fun _ => .bool true⟩
  obtain ⟨h1, h2, h3⟩ := hL ρ β hρ
  obtain ⟨path, hp, hpath⟩ := tree.cover ρ
  obtain ⟨rest, hrest, hok⟩ := hrun path hp
  have hin : ArgsIn P ts ρ := by
    intro xs' k' m' h' g hg
    rw [hsym] at h'
    cases h'
    exact h2 g hg
  unfold lawRunP at hrest
  rw [hsym] at hrest
  simp only [Known.addsK_eq, assumesK_eq] at hrest
  split at hrest
  · rename_i l hl
    have hcall := call_sound hm hty hfn ρ [] n f xs .leaf 0 _ l hl
    obtain ⟨o, ho, hok'⟩ := hcall.1 (assumes_holds (Known.adds_holds (Known.nil_holds ρ) h2) fun t ht => (List.mem_append.1 ht).elim (hlem ρ hin t) (hpath t))
    have hg := (hcall.2 o ho hok').2 β W (h3 0) ⟨fun l x hx => (by cases hx), fun l l' x x' hx => (by cases hx)⟩
    rw [h1, Array.toArray_toList] at hg
    refine hg.mono fun e w' ⟨β', st, _, he⟩ => ?_
    refine ⟨?_, st.frm.grown fun k ⟨l, _, hl, _⟩ => Nat.not_lt_zero _ hl, fun k hk => st.frm.old k hk fun ⟨l, _, hl, _⟩ => Nat.not_lt_zero _ hl⟩
    rw [he, restsOf_ok hrest (hok ρ hin) o ho hok' β']
  · cases hrest
end
end Go.Sx
