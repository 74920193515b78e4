/-
  SX: ARGUMENTS THAT ARE SLICES: their elements as tables.
-/
import Derived.Test.YtcobklmobbfolaaSxU
import Derived.ChangeArms
import Derived.DataReads
namespace Go.Sx
noncomputable section
set_option linter.unusedVariables false

/-! ### what a type's cells hold -/
def kindsFs (f : TypeId → Option (List CK)) : List Field → Nat → Option (List CK)
  | [], _ => some []
  | g :: r, o => match Nat.beq g.offset o with
    | true => (match f g.type with
      | some ks => (match kindsFs f r (o + ks.length) with | some rs => some (ks ++ rs) | none => none)
      | none => none)
    | false => none
def rep (n : Nat) (ks : List CK) : List CK := match n with
  | 0 => []
  | n + 1 => ks ++ rep n ks
def sized (P : Program) (t : TypeId) : Option (List CK) → Option (List CK)
  | some ks => match Nat.beq (P.cellsOf t) ks.length with | true => some ks | false => none
  | none => none
def kindsOf (P : Program) : Nat → TypeId → Option (List CK)
  | 0, _ => none
  | d + 1, t => sized P t (match P.underlying t with
    | some (.int k) => some [.int k]
    | some .bool => some [.bool]
    | some (.struct fs) => kindsFs (kindsOf P d) fs.toList 0
    | some (.array n e) => (match kindsOf P d e with | some ks => some (rep n ks) | none => none)
    | _ => none)
def numOf : Value → Int
  | .int _ n => n
  | .bool b => b01 b
  | _ => 0
def Fits (k : CK) (v : Value) : Prop := v = k.val (numOf v)
theorem fits_int {k : IntKind} {n : Int} (h : (Lit.int k n).wf = true) : Fits (.int k) (.int k n) := by
  simp only [Lit.wf, Bool.and_eq_true, decide_eq_true_eq, kmin_eq, kmax_eq] at h
  simp only [Fits, CK.val, numOf, wrap_in h]
theorem fits_bool (b : Bool) : Fits .bool (.bool b) := by cases b <;> simp [Fits, CK.val, numOf, b01]
theorem sized_some {P : Program} {t : TypeId} {o : Option (List CK)} {ks : List CK} (h : sized P t o = some ks) : o = some ks ∧ P.cellsOf t = ks.length := by
  unfold sized at h
  split at h
  · split at h
    · rename_i hb
      cases h
      exact ⟨rfl, Nat.eq_of_beq_eq_true hb⟩
    · cases h
  · cases h
section
variable {H : Type} {enc : TypeId × Value → H} {P : Program} {w : World} {base : Nat} {spare : Nat → Bool} {held : Bool}
def AllFit (cs : List Value) (ks : List CK) (o : Nat) : Prop := ∀ (j : Nat) (k : CK), ks[j]? = some k → ∃ v, cs[o + j]? = some v ∧ Fits k v
theorem AllFit.append {cs : List Value} {ks rs : List CK} {o : Nat} (h : AllFit cs ks o) (h' : AllFit cs rs (o + ks.length)) : AllFit cs (ks ++ rs) o := by
  intro j k hk
  by_cases hj : j < ks.length
  · exact h j k (by rwa [List.getElem?_append_left hj] at hk)
  · rw [List.getElem?_append_right (by omega)] at hk
    obtain ⟨v, h1, h2⟩ := h' _ k hk
    exact ⟨v, by rw [← h1]; congr 1; omega, h2⟩
theorem AllFit.piece {cs : List Value} {ks : List CK} {o n : Nat} (h : AllFit ((cs.drop o).take n) ks 0) : AllFit cs ks o := by
  intro j k hk
  obtain ⟨v, h1, h2⟩ := h j k hk
  rw [Nat.zero_add, List.getElem?_take] at h1
  split at h1
  · rw [List.getElem?_drop] at h1
    exact ⟨v, h1, h2⟩
  · cases h1
theorem kindsFs_fit {f : TypeId → Option (List CK)} {cs : List Value} : ∀ {fs : List Field} {o : Nat} {ks : List CK}, kindsFs f fs o = some ks →
    (∀ g ∈ fs, ∀ kg, f g.type = some kg → AllFit ((cs.drop g.offset).take (P.cellsOf g.type)) kg 0) → AllFit cs ks o
  | [], o, ks, h, hf => by
    cases h
    intro j k hk
    simp at hk
  | g :: r, o, ks, h, hf => by
    unfold kindsFs at h
    split at h
    · rename_i ho
      have ho := Nat.eq_of_beq_eq_true ho
      split at h
      · rename_i kg hkg
        split at h
        · rename_i rs hrs
          cases h
          have h1 := hf g (List.mem_cons_self ..) kg hkg
          rw [ho] at h1
          exact AllFit.append (AllFit.piece h1) (kindsFs_fit hrs fun g' hg' => hf g' (List.mem_cons_of_mem _ hg'))
        · cases h
      · cases h
    · cases h
theorem rep_fit {cs : List Value} {ks : List CK} {sz : Nat} (hsz : sz = ks.length) : ∀ (n i : Nat), (∀ m, i ≤ m → m < i + n → AllFit ((cs.drop (m * sz)).take sz) ks 0) → AllFit cs (rep n ks) (i * sz)
  | 0, i, h => by intro j k hk; simp [rep] at hk
  | n + 1, i, h => by
    unfold rep
    refine AllFit.append (AllFit.piece (h i (Nat.le_refl _) (by omega))) ?_
    have := rep_fit hsz n (i + 1) fun m h1 h2 => h m (by omega) (by omega)
    rw [show i * sz + ks.length = (i + 1) * sz by rw [Nat.add_mul, hsz]; omega]
    exact this
theorem mapM_get_some {α β : Type} {f : α → Option β} : ∀ {l : List α} {r : List β}, l.mapM f = some r → ∀ (i : Nat) (x : α), l[i]? = some x → (f x).isSome = true := by
  intro l
  induction l with
  | nil => intro r h i x hx; simp at hx
  | cons a l ih =>
    intro r h i x hx
    simp only [List.mapM_cons, Option.bind_eq_bind, Option.bind_eq_some_iff] at h
    obtain ⟨b, hb, rs, hrs, _⟩ := h
    cases i with
    | zero => simp only [List.getElem?_cons_zero, Option.some.injEq] at hx; subst hx; rw [hb]; rfl
    | succ i => exact ih hrs i x (by simpa using hx)
theorem trod_array {fuel : Nat} {t e : TypeId} {n : Nat} {cs : List Value} {x : DataW H × List MemPlace} (ht : P.underlying t = some (.array n e)) (h : DataW.trod enc P w base spare held fuel t cs = some x) :
    ∃ (fuel' : Nat) (xs : List (DataW H × List MemPlace)), (List.range n).mapM (fun i => DataW.trod enc P w base spare held fuel' e ((cs.drop (i * P.cellsOf e)).take (P.cellsOf e))) = some xs := by
  cases fuel with
  | zero => simp [DataW.trod] at h
  | succ m =>
    unfold DataW.trod at h
    rw [ht] at h
    split at h <;> simp_all
    obtain ⟨hl, xs, hp, hd⟩ := h
    exact ⟨m, xs, hp⟩
theorem trod_fit : ∀ (d : Nat) {fuel : Nat} {t : TypeId} {cs : List Value} {x : DataW H × List MemPlace} {ks : List CK}, DataW.trod enc P w base spare held fuel t cs = some x → kindsOf P d t = some ks → AllFit cs ks 0
  | 0, fuel, t, cs, x, ks, h, hk => by simp [kindsOf] at hk
  | d + 1, fuel, t, cs, x, ks, h, hk => by
    unfold kindsOf at hk
    obtain ⟨hk, hsz⟩ := sized_some hk
    split at hk
    · rename_i k hu
      cases hk
      obtain ⟨n, rfl, _, hw⟩ := DataW.trod_int hu h
      intro j k' hj
      cases j with
      | zero => cases hj; exact ⟨_, rfl, fits_int hw⟩
      | succ j => simp at hj
    · rename_i hu
      cases hk
      obtain ⟨b, rfl, _⟩ := DataW.trod_bool hu h
      intro j k' hj
      cases j with
      | zero => cases hj; exact ⟨_, rfl, fits_bool b⟩
      | succ j => simp at hj
    · rename_i fs hu
      obtain ⟨xs, n, _, _, _, hlen, hget⟩ := DataW.trod_struct hu h
      refine kindsFs_fit (P := P) hk fun g hg kg hkg => ?_
      obtain ⟨i, hi⟩ := List.getElem?_of_mem hg
      have hi' : fs[i]? = some g := by simpa using hi
      have := hget i g hi'
      have hlt : i < xs.length := by
        have := (Array.getElem?_eq_some_iff.1 hi').1
        omega
      rw [List.getElem?_eq_getElem hlt] at this
      exact trod_fit d this hkg
    · rename_i n e hu
      split at hk
      · rename_i ke hke
        cases hk
        have hse : P.cellsOf e = ke.length := by
          cases d with
          | zero => simp [kindsOf] at hke
          | succ d => unfold kindsOf at hke; exact (sized_some hke).2
        have hall : ∀ m, m < n → ∃ fuel' y, DataW.trod enc P w base spare held fuel' e ((cs.drop (m * P.cellsOf e)).take (P.cellsOf e)) = some y := by
          intro m hm
          obtain ⟨fuel', xs, hp⟩ := trod_array hu h
          have := mapM_get_some hp m m (by simp [hm])
          obtain ⟨y, hy⟩ := Option.isSome_iff_exists.1 this
          exact ⟨fuel', y, hy⟩
        have := rep_fit (cs := cs) hse n 0 fun m _ hm => by
          obtain ⟨fuel', y, hy⟩ := hall m (by omega)
          exact trod_fit d hy hke
        simpa using this
      · cases hk
    · cases hk
end

/-! ### arguments -/
def symArgT (P : Program) (t : TypeId) (n q : Nat) (isNil : Bool) : Option (V1 × List (Nat × Ent) × List Fact × Nat × Nat) :=
  match P.underlying t with
  | some (.slice e) => (match isNil with
    | true => some (.one .nils, [], [], n + 2, q + 1)
    | false => (match kindsOf P 12 e with
      | some ks => some (.one (.tslc q ks.length (.lit (.ofNat 0)) (.var n) (.var (n + 1))), [(q, ⟨false, .tab q (.tv q) (.var n) ks⟩)],
          [.rng (.var n) (some (.ofNat 0), some (.ofNat 9223372036854775807)), .rng (.var (n + 1)) (some (.ofNat 0), some (.ofNat 9223372036854775807))], n + 2, q + 1)
      | none => none))
  | _ => (match symArg P t n with | some (x, k, m) => some (x, [], k, m, q) | none => none)
def symArgsT (P : Program) : List TypeId → Nat → Nat → List Bool → Option (List V1 × List (Nat × Ent) × List Fact × Nat × Nat)
  | [], n, q, _ => some ([], [], [], n, q)
  | t :: ts, n, q, fl => match symArgT P t n q (fl.headD false) with
    | some (x, hs, k, m, q') => (match symArgsT P ts m q' fl.tail with
      | some (xs, hs', k', m', q'') => some (x :: xs, hs ++ hs', k ++ k', m', q'')
      | none => none)
    | none => none
def isNilV : Value → Bool
  | .slice none _ _ => true
  | _ => false
/-- Numbers, tables and blocks from an index on. -/
structure FromN (ρ : Env) (β : Lab) (n q : Nat) (L : List Int) (Ts : List (Int → Nat → Int)) (Bs : List (Nat × Value)) : Prop where
  v : ρ.from n L
  t : ∀ i T, Ts[i]? = some T → ρ.t (q + i) = T
  b : ∀ i b, Bs[i]? = some b → β.b (q + i) = b.1 ∧ β.o (q + i) = b.2
def HeapIn (ρ : Env) (β : Lab) (W : World) (q q' : Nat) (hs : List (Nat × Ent)) : Prop :=
  ∀ x ∈ hs, q ≤ x.1 ∧ x.1 < q' ∧ x.2.wr = false ∧ x.2.blk.below q' ∧ β.b x.1 < W.heap.size ∧ x.2.blk.sat ρ β (β.b x.1) W
section
variable {H : Type} {enc : TypeId × Value → H} {P : Program} {W : World} {base : Nat} {spare : Nat → Bool} {held : Bool} {r : Reach}
theorem symArgT_ok {t : TypeId} {n q : Nat} {x : V1} {hs : List (Nat × Ent)} {k : List Fact} {m q' : Nat} {v : Value} (h : symArgT P t n q (isNilV v) = some (x, hs, k, m, q')) (hv : Value.okWide P W r base t v) {d : DataW H} {ps : List MemPlace} (ht : DataW.Trod enc P W 0 spare held t v d ps) :
    ∃ (L : List Int) (Ts : List (Int → Nat → Int)) (Bs : List (Nat × Value)), m = n + L.length ∧ q' = q + Ts.length ∧ Bs.length = Ts.length ∧ ∀ (ρ : Env) (β : Lab), FromN ρ β n q L Ts Bs →
      x.den ρ β = v ∧ (∀ g ∈ k, Fact.holds ρ g) ∧ V1.below q' x ∧ HeapIn ρ β W q q' hs := by
  unfold symArgT at h
  split at h
  · rename_i e hu
    obtain ⟨fuel, htr⟩ := ht
    unfold Value.okWide at hv
    rw [hu] at hv
    simp only at hv
    unfold Cell.okWide at hv
    rw [hu] at hv
    split at h
    · rename_i hnil
      cases h
      cases v <;> simp only [isNilV, Bool.false_eq_true] at hnil <;> try contradiction
      rename_i a len cap
      cases a with
      | some a => simp at hnil
      | none =>
        have hz : len = 0 ∧ cap = 0 := by
          unfold Cell.ok at hv
          rw [hu] at hv
          simp only at hv
          split at hv <;> simp_all
        refine ⟨[0, 0], [fun _ _ => 0], [(0, .bool true)], rfl, rfl, rfl, fun ρ β _ => ⟨?_, fun g hg => (by cases hg), trivial, fun x hx => (by cases hx)⟩⟩
        rw [hz.1, hz.2]
        rfl
    · rename_i hnil
      split at h
      · rename_i ks hks
        cases h
        have hv' : ∃ a len cap, v = .slice (some a) len cap ∧ len ≤ cap ∧ (cap : Int) ≤ IntKind.i64.max ∧ W.has P r base a e cap := by
          cases v with
          | slice a len cap =>
            cases a with
            | none => simp [isNilV] at hnil
            | some a =>
              unfold Cell.ok at hv
              rw [hu] at hv
              exact ⟨a, len, cap, rfl, hv⟩
          | _ => unfold Cell.ok at hv; rw [hu] at hv; simp at hv
        obtain ⟨a, len, cap, rfl, hlc, hcap, hhas⟩ := hv'
        obtain ⟨_, hspot, row, cells, hshape, _⟩ := hhas
        obtain ⟨b, off, sp⟩ := a
        simp only at hspot hshape
        subst hspot
        have hsz : P.cellsOf e = ks.length := by unfold kindsOf at hks; exact (sized_some hks).2
        have hblt : b < W.heap.size := by
          unfold World.shape? at hshape
          cases hb : W.heap[b]? with
          | none => rw [hb] at hshape; cases hshape
          | some o => exact (Array.getElem?_eq_some_iff.1 hb).1
        have hel : ∀ i : Nat, i < len → ∀ (j : Nat) (kd : CK), ks[j]? = some kd → ∃ v, W.cell? ⟨b, off + i * ks.length + j, none⟩ = some v ∧ Fits kd v := by
          intro i hi j kd hj
          rcases DataW.trod_slice hu htr with ⟨hc, _⟩ | ⟨a', len', cap', elems, rest, n', _, hc, _, _, _, _, hlen, hget, _⟩
          · simp [Value.cells] at hc
          · simp only [Value.cells, List.cons.injEq, Value.slice.injEq, Option.some.injEq, and_true] at hc
            obtain ⟨rfl, rfl, rfl⟩ := hc
            have h1 := hget i hi
            rw [List.getElem?_eq_getElem (by omega)] at h1
            obtain ⟨cs, h2, h3⟩ := Option.bind_eq_some_iff.1 h1
            obtain ⟨_, h4, h5⟩ := World.cells?_some h2
            obtain ⟨v, h6, h7⟩ := trod_fit 12 h3 hks j kd hj
            have hjl : j < ks.length := (List.getElem?_eq_some_iff.1 hj).1
            have h8 := h5 j (by omega)
            rw [Addr.add_lit, Addr.add_lit, hsz] at h8
            exact ⟨v, by rw [h8, ← h6, Nat.zero_add], h7⟩
        refine ⟨[(len : Int), (cap : Int)], [fun i j => numOf ((W.cell? ⟨b, off + i.toNat * ks.length + j, none⟩).getD (.bool false))], [(b, .int .i64 off)], rfl, rfl, rfl, fun ρ β hf => ?_⟩
        have e1 : ρ.v n = len := (Env.from_cons hf.v).1
        have e2 : ρ.v (n + 1) = cap := (Env.from_cons (Env.from_cons hf.v).2).1
        have e3 := hf.t 0 _ rfl
        have e4 := hf.b 0 _ rfl
        simp only [Nat.add_zero] at e3 e4
        have e5 : β.f q = off := by unfold Lab.f; rw [e4.2]; simp
        have hi64 : (IntKind.i64.max : Int) = 9223372036854775807 := by decide
        refine ⟨?_, fun g hg => ?_, Nat.lt_succ_self _, fun x hx => ?_⟩
        · simp only [V1.den, CV.den, E.den, e1, e2, e4.1, e5]
          simp
        · simp only [List.mem_cons, List.not_mem_nil, or_false] at hg
          rcases hg with rfl | rfl
          · rw [rng_iff]; simp only [E.den, e1]; constructor
            · exact Int.natCast_nonneg _
            · show (len : Int) ≤ 9223372036854775807
              omega
          · rw [rng_iff]; simp only [E.den, e2]; constructor
            · exact Int.natCast_nonneg _
            · show (cap : Int) ≤ 9223372036854775807
              omega
        · simp only [List.mem_cons, List.not_mem_nil, or_false] at hx
          subst hx
          refine ⟨Nat.le_refl _, Nat.lt_succ_self _, rfl, Nat.lt_succ_self _, by rw [e4.1]; exact hblt, ?_⟩
          intro i hi j kd hj
          simp only [E.den, e1] at hi
          obtain ⟨v, h1, h2⟩ := hel i (by omega) j kd hj
          rw [e4.1, e5]
          simp only [E.tden, e3, Int.toNat_natCast, h1, Option.getD_some]
          rw [← h2]
      · cases h
  · rename_i hns
    split at h
    · rename_i x' k' m' hx
      cases h
      obtain ⟨L, hL, hr⟩ := symArg_ok hx hv
      exact ⟨L, [], [], hL, rfl, rfl, fun ρ β hf => ⟨(hr ρ β hf.v).1, (hr ρ β hf.v).2.1, (hr ρ β hf.v).2.2 _, fun x hx => (by cases hx)⟩⟩
    · cases h
theorem FromN.split {ρ : Env} {β : Lab} {n q : Nat} {L L' : List Int} {Ts Ts' : List (Int → Nat → Int)} {Bs Bs' : List (Nat × Value)} (hl : Bs.length = Ts.length) (h : FromN ρ β n q (L ++ L') (Ts ++ Ts') (Bs ++ Bs')) :
    FromN ρ β n q L Ts Bs ∧ FromN ρ β (n + L.length) (q + Ts.length) L' Ts' Bs' := by
  refine ⟨⟨Env.from_left h.v, fun i T hi => h.t i T ?_, fun i b hi => h.b i b ?_⟩, ⟨Env.from_right h.v, fun i T hi => ?_, fun i b hi => ?_⟩⟩
  · rw [List.getElem?_append_left (List.getElem?_eq_some_iff.1 hi).1]; exact hi
  · rw [List.getElem?_append_left (List.getElem?_eq_some_iff.1 hi).1]; exact hi
  · have := h.t (Ts.length + i) T (by rw [List.getElem?_append_right (by omega)]; simpa using hi)
    rwa [← Nat.add_assoc] at this
  · have := h.b (Bs.length + i) b (by rw [List.getElem?_append_right (by omega)]; simpa using hi)
    rwa [hl, ← Nat.add_assoc] at this
theorem symArgsT_ok : ∀ {ts : List TypeId} {n q : Nat} {xs : List V1} {hs : List (Nat × Ent)} {k : List Fact} {m q' : Nat} {vs : List Value} {ds : List (DataW H)} {ps : List MemPlace}, symArgsT P ts n q (vs.map isNilV) = some (xs, hs, k, m, q') →
    (∀ (j : Nat) (t : TypeId) (v : Value), ts[j]? = some t → vs[j]? = some v → Value.okWide P W r base t v) → DataW.TrodAll enc P W 0 spare held ts vs ds ps →
    ∃ (L : List Int) (Ts : List (Int → Nat → Int)) (Bs : List (Nat × Value)), m = n + L.length ∧ q' = q + Ts.length ∧ Bs.length = Ts.length ∧ ∀ (ρ : Env) (β : Lab), FromN ρ β n q L Ts Bs →
      xs.map (V1.den ρ β) = vs ∧ (∀ g ∈ k, Fact.holds ρ g) ∧ (∀ x ∈ xs, V1.below q' x) ∧ HeapIn ρ β W q q' hs
  | [], n, q, xs, hs, k, m, q', [], [], ps, h, hv, ht => by
    cases h
    exact ⟨[], [], [], rfl, rfl, rfl, fun ρ β _ => ⟨rfl, fun g hg => (by cases hg), fun x hx => (by cases hx), fun x hx => (by cases hx)⟩⟩
  | [], n, q, xs, hs, k, m, q', _ :: _, _, ps, h, hv, ht => by simp [DataW.TrodAll] at ht
  | [], n, q, xs, hs, k, m, q', [], _ :: _, ps, h, hv, ht => by simp [DataW.TrodAll] at ht
  | _ :: _, n, q, xs, hs, k, m, q', [], _, ps, h, hv, ht => by simp [DataW.TrodAll] at ht
  | _ :: _, n, q, xs, hs, k, m, q', _ :: _, [], ps, h, hv, ht => by simp [DataW.TrodAll] at ht
  | t :: ts, n, q, xs, hs, k, m, q', v :: vs, d :: ds, ps, h, hv, ⟨p1, p2, ht1, ht2, _⟩ => by
    simp only [symArgsT, List.map_cons, List.headD_cons, List.tail_cons] at h
    split at h
    · rename_i x hs1 k1 m1 q1 hx
      split at h
      · rename_i xs' hs2 k2 m2 q2 hxs
        cases h
        obtain ⟨L, Ts, Bs, a1, a2, a3, a4⟩ := symArgT_ok hx (hv 0 t v rfl rfl) ht1
        obtain ⟨L', Ts', Bs', b1, b2, b3, b4⟩ := symArgsT_ok hxs (fun j t v ht hj => hv (j + 1) t v ht hj) ht2
        refine ⟨L ++ L', Ts ++ Ts', Bs ++ Bs', by rw [b1, a1, List.length_append]; omega, by rw [b2, a2, List.length_append]; omega, by simp [a3, b3], fun ρ β hf => ?_⟩
        obtain ⟨f1, f2⟩ := FromN.split a3 hf
        rw [← a1, ← a2] at f2
        obtain ⟨c1, c2, c3, c4⟩ := a4 ρ β f1
        obtain ⟨d1, d2, d3, d4⟩ := b4 ρ β f2
        refine ⟨by rw [List.map_cons, c1, d1], fun g hg => ?_, fun y hy => ?_, fun y hy => ?_⟩
        · rcases List.mem_append.1 hg with hg | hg
          · exact c2 g hg
          · exact d2 g hg
        · rcases List.mem_cons.1 hy with rfl | hy
          · exact V1.below_mono (by omega) c3
          · exact d3 y hy
        · rcases List.mem_append.1 hy with hy | hy
          · obtain ⟨e1, e2, e3, e4, e5, e6⟩ := c4 y hy
            exact ⟨e1, by omega, e3, Blk.below_mono (by omega) e4, e5, e6⟩
          · obtain ⟨e1, e2, e3, e4, e5, e6⟩ := d4 y hy
            exact ⟨by omega, e2, e3, e4, e5, e6⟩
      · cases h
    · cases h
theorem isNilV_slice {t : TypeId} {v : Value} (hv : Value.okWide P W r base t v) (hn : isNilV v = true) : ∃ e, P.underlying t = some (.slice e) := by
  cases v <;> simp only [isNilV, Bool.false_eq_true] at hn
  unfold Value.okWide at hv
  cases hu : P.underlying t with
  | none => rw [hu] at hv; simp only [Cell.okWide, Cell.ok, hu] at hv
  | some d =>
    rw [hu] at hv
    cases d <;> first
      | exact ⟨_, rfl⟩
      | (obtain ⟨cs, h, _⟩ := hv; cases h; done)
      | (simp only [Cell.okWide, Cell.ok, hu] at hv; done)
      | (simp [Cell.okWide, Cell.ok, hu] at hv; done)
def flagsAll (P : Program) : List TypeId → List (List Bool)
  | [] => [[]]
  | t :: ts => (flagsAll P ts).flatMap fun fl => match P.underlying t with
    | some (.slice _) => [true :: fl, false :: fl]
    | _ => [false :: fl]
theorem flags_mem : ∀ {ts : List TypeId} {vs : List Value}, vs.length = ts.length → (∀ (j : Nat) (t : TypeId) (v : Value), ts[j]? = some t → vs[j]? = some v → Value.okWide P W r base t v) → vs.map isNilV ∈ flagsAll P ts
  | [], [], _, _ => by simp [flagsAll]
  | t :: ts, v :: vs, hl, hv => by
    have ih := flags_mem (ts := ts) (vs := vs) (by simpa using hl) (fun j t v ht hj => hv (j + 1) t v ht hj)
    simp only [flagsAll, List.map_cons, List.mem_flatMap]
    refine ⟨_, ih, ?_⟩
    cases hn : isNilV v with
    | true =>
      obtain ⟨e, he⟩ := isNilV_slice (hv 0 t v rfl rfl) hn
      rw [he]
      simp
    | false => split <;> simp
theorem law_TST {f : FuncId} {fn : Func} {body : Code} (hf : P.funcs[f]? = some fn) (hb : fn.body = some body) {ts : List TypeId}
    (hw : ∀ fl ∈ flagsAll P ts, ∃ xs hs k m q, symArgsT P ts 0 0 fl = some (xs, hs, k, m, q) ∧ ∀ ρ : Env, (∀ g ∈ k, Fact.holds ρ g) → ∀ (β : Lab) (W : World) (a : Act), TS W ρ β fn.ntmps ⟨argSlots xs 0 .nil, putSets .leaf hs, q, []⟩ a W → WPs P (Sx.flat body) (TrueEnd P fn W) a W)
    {args : Array Value} {ds : List (DataW H)} {ps : List MemPlace} (hsz : args.size = ts.length) (hv : ∀ (j : Nat) (t : TypeId) (v : Value), ts[j]? = some t → args[j]? = some v → Value.okWide P W r base t v) (ht : DataW.TrodAll enc P W 0 spare held ts args.toList ds ps) :
    Calls P f args W fun e w' => e = .returned (.bool true) ∧ Kept W w' := by
  have hv' : ∀ (j : Nat) (t : TypeId) (v : Value), ts[j]? = some t → args.toList[j]? = some v → Value.okWide P W r base t v := fun j t v ht hj => hv j t v ht (by simpa using hj)
  obtain ⟨xs, hs, k, m, q, hsym, hrun⟩ := hw _ (flags_mem (vs := args.toList) (by simpa using hsz) hv')
  obtain ⟨L, Ts, Bs, a1, a2, a3, a4⟩ := symArgsT_ok hsym hv' ht
  let ρ : Env := ⟨fun i => L.getD i 0, fun i => Ts.getD i (fun _ _ => 0), fun _ _ _ => 0⟩
  let β : Lab := ⟨fun i => (Bs.getD i (0, .bool true)).1, fun i => (Bs.getD i (0, .bool true)).2⟩
  have hfr : FromN ρ β 0 0 L Ts Bs := ⟨fun i _ => by simp [ρ], fun i T hi => by simp [ρ, List.getD, hi], fun i b hi => by simp [β, List.getD, hi]⟩
  obtain ⟨h1, h2, h3, h4⟩ := a4 ρ β hfr
  refine calls_of_wp hf hb ?_
  have hheap : ∀ l x, (putSets .leaf hs).get l = some x → (l, x) ∈ hs := fun l x hx => putSets_mem hx
  have hi := SatS.init (ρ := ρ) (β := β) (args := xs) (heap := putSets .leaf hs) (nx := q) (w := W) (nt := fn.ntmps) h3 ⟨fun l x hx => by
      obtain ⟨e1, e2, e3, e4, e5, e6⟩ := h4 _ (hheap l x hx)
      exact ⟨e2, e4, e5, e6⟩, fun l l' x x' hx hx' hne hw => by
      have e3 := (h4 _ (hheap l x hx)).2.2.1
      have e3' := (h4 _ (hheap l' x' hx')).2.2.1
      simp only at e3 e3'
      rw [e3, e3'] at hw
      cases hw⟩
  rw [h1, Array.toArray_toList] at hi
  have := WPs.flat (hrun ρ h2 β W _ ⟨hi, Frm.refl _ _, fun l x hx hw => by
    have e3 := (h4 _ (hheap l x hx)).2.2.1
    simp only at e3
    rw [e3] at hw
    cases hw⟩)
  refine wp_mono this fun e a w he => ?_
  unfold TrueEnd at he
  have fin : ∀ e w', (e = Ending.returned (.bool true) ∧ Frm (fun _ => False) W w') → e = .returned (.bool true) ∧ Kept W w' := fun e w' h => ⟨h.1, h.2.grown fun _ h => h, fun k hk => h.2.old k hk id⟩
  cases e with
  | normal => exact ⟨he.1, he.2.imp fun v hv => ⟨hv.1, fin _ _ hv.2⟩⟩
  | ret => exact ⟨he.1, he.2.imp fun v hv => ⟨hv.1, fin _ _ hv.2⟩⟩
  | panic ch => exact ⟨he.1, fin _ _ he.2⟩
  | outgrown => exact fin _ _ he
  | exit id => exact he
  | goto l => exact he
end
end
end Go.Sx
