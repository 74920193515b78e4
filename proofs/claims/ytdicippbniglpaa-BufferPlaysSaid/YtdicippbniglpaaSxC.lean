/-
  SX: a symbolic executor, sound for the model's rules; several parts in one text. Copied by program.
-/
import Derived.Test.YtdicippbniglpaaSxM
import Derived.ChangeArms
import Derived.DataReads
import Derived.RangeFuncLeaves
import Derived.RangeFuncRecord
import Derived.SizedLaws
/-
  SX: ARGUMENTS THAT ARE SLICES: their elements as tables.
-/
namespace Go.Sx
set_option linter.unusedSimpArgs false
set_option linter.unusedVariables false
set_option linter.unusedSectionVars false
noncomputable section
set_option linter.unusedVariables false

/-! ### what a type's cells hold -/
def kindsFs (f : TypeId → Option (List CK)) : List Field → Nat → Option (List CK)
  | [], _ => some []
  | g :: r, o => match Nat.beq g.offset o with
    | true => (match f g.type with
      | some ks => (match kindsFs f r (o + ks.length) with | some rs => some (ks ++ rs) | none => none)
      | none => none)
    | false => none
def rep (n : Nat) (ks : List CK) : List CK := match n with
  | 0 => []
  | n + 1 => ks ++ rep n ks
def sized (P : Program) (t : TypeId) : Option (List CK) → Option (List CK)
  | some ks => match Nat.beq (P.cellsOf t) ks.length with | true => some ks | false => none
  | none => none
def kindsOf (P : Program) : Nat → TypeId → Option (List CK)
  | 0, _ => none
  | d + 1, t => sized P t (match P.underlying t with
    | some (.int k) => some [.int k]
    | some .bool => some [.bool]
    | some (.struct fs) => kindsFs (kindsOf P d) fs.toList 0
    | some (.array n e) => (match kindsOf P d e with | some ks => some (rep n ks) | none => none)
    | _ => none)
def numOf : Value → Int
  | .int _ n => n
  | .bool b => b01 b
  | _ => 0
def Fits (k : CK) (v : Value) : Prop := v = k.val (numOf v)
theorem fits_int {k : IntKind} {n : Int} (h : (Lit.int k n).wf = true) : Fits (.int k) (.int k n) := by
  simp only [Lit.wf, Bool.and_eq_true, decide_eq_true_eq, kmin_eq, kmax_eq] at h
  simp only [Fits, CK.val, numOf, wrap_in h]
theorem fits_bool (b : Bool) : Fits .bool (.bool b) := by cases b <;> simp [Fits, CK.val, numOf, b01]
theorem sized_some {P : Program} {t : TypeId} {o : Option (List CK)} {ks : List CK} (h : sized P t o = some ks) : o = some ks ∧ P.cellsOf t = ks.length := by
  unfold sized at h
  split at h
  · split at h
    · rename_i hb
      cases h
      exact ⟨rfl, Nat.eq_of_beq_eq_true hb⟩
    · cases h
  · cases h
section
variable {H : Type} {enc : TypeId × Value → H} {P : Program} {w : World} {base : Nat} {spare : Nat → Bool} {held : Bool}
def AllFit (cs : List Value) (ks : List CK) (o : Nat) : Prop := ∀ (j : Nat) (k : CK), ks[j]? = some k → ∃ v, cs[o + j]? = some v ∧ Fits k v
theorem AllFit.append {cs : List Value} {ks rs : List CK} {o : Nat} (h : AllFit cs ks o) (h' : AllFit cs rs (o + ks.length)) : AllFit cs (ks ++ rs) o := by
  intro j k hk
  by_cases hj : j < ks.length
  · exact h j k (by rwa [List.getElem?_append_left hj] at hk)
  · rw [List.getElem?_append_right (by omega)] at hk
    obtain ⟨v, h1, h2⟩ := h' _ k hk
    exact ⟨v, by rw [← h1]; congr 1; omega, h2⟩
theorem AllFit.piece {cs : List Value} {ks : List CK} {o n : Nat} (h : AllFit ((cs.drop o).take n) ks 0) : AllFit cs ks o := by
  intro j k hk
  obtain ⟨v, h1, h2⟩ := h j k hk
  rw [Nat.zero_add, List.getElem?_take] at h1
  split at h1
  · rw [List.getElem?_drop] at h1
    exact ⟨v, h1, h2⟩
  · cases h1
theorem kindsFs_fit {f : TypeId → Option (List CK)} {cs : List Value} : ∀ {fs : List Field} {o : Nat} {ks : List CK}, kindsFs f fs o = some ks →
    (∀ g ∈ fs, ∀ kg, f g.type = some kg → AllFit ((cs.drop g.offset).take (P.cellsOf g.type)) kg 0) → AllFit cs ks o
  | [], o, ks, h, hf => by
    cases h
    intro j k hk
    simp at hk
  | g :: r, o, ks, h, hf => by
    unfold kindsFs at h
    split at h
    · rename_i ho
      have ho := Nat.eq_of_beq_eq_true ho
      split at h
      · rename_i kg hkg
        split at h
        · rename_i rs hrs
          cases h
          have h1 := hf g (List.mem_cons_self ..) kg hkg
          rw [ho] at h1
          exact AllFit.append (AllFit.piece h1) (kindsFs_fit hrs fun g' hg' => hf g' (List.mem_cons_of_mem _ hg'))
        · cases h
      · cases h
    · cases h
theorem rep_fit {cs : List Value} {ks : List CK} {sz : Nat} (hsz : sz = ks.length) : ∀ (n i : Nat), (∀ m, i ≤ m → m < i + n → AllFit ((cs.drop (m * sz)).take sz) ks 0) → AllFit cs (rep n ks) (i * sz)
  | 0, i, h => by intro j k hk; simp [rep] at hk
  | n + 1, i, h => by
    unfold rep
    refine AllFit.append (AllFit.piece (h i (Nat.le_refl _) (by omega))) ?_
    have := rep_fit hsz n (i + 1) fun m h1 h2 => h m (by omega) (by omega)
    rw [show i * sz + ks.length = (i + 1) * sz by rw [Nat.add_mul, hsz]; omega]
    exact this
theorem mapM_get_some {α β : Type} {f : α → Option β} : ∀ {l : List α} {r : List β}, l.mapM f = some r → ∀ (i : Nat) (x : α), l[i]? = some x → (f x).isSome = true := by
  intro l
  induction l with
  | nil => intro r h i x hx; simp at hx
  | cons a l ih =>
    intro r h i x hx
    simp only [List.mapM_cons, Option.bind_eq_bind, Option.bind_eq_some_iff] at h
    obtain ⟨b, hb, rs, hrs, _⟩ := h
    cases i with
    | zero => simp only [List.getElem?_cons_zero, Option.some.injEq] at hx; subst hx; rw [hb]; rfl
    | succ i => exact ih hrs i x (by simpa using hx)
theorem trod_array {fuel : Nat} {t e : TypeId} {n : Nat} {cs : List Value} {x : DataW H × List MemPlace} (ht : P.underlying t = some (.array n e)) (h : DataW.trod enc P w base spare held fuel t cs = some x) :
    ∃ (fuel' : Nat) (xs : List (DataW H × List MemPlace)), (List.range n).mapM (fun i => DataW.trod enc P w base spare held fuel' e ((cs.drop (i * P.cellsOf e)).take (P.cellsOf e))) = some xs := by
  cases fuel with
  | zero => simp [DataW.trod] at h
  | succ m =>
    unfold DataW.trod at h
    rw [ht] at h
    split at h <;> simp_all
    obtain ⟨hl, xs, hp, hd⟩ := h
    exact ⟨m, xs, hp⟩
theorem trod_fit : ∀ (d : Nat) {fuel : Nat} {t : TypeId} {cs : List Value} {x : DataW H × List MemPlace} {ks : List CK}, DataW.trod enc P w base spare held fuel t cs = some x → kindsOf P d t = some ks → AllFit cs ks 0
  | 0, fuel, t, cs, x, ks, h, hk => by simp [kindsOf] at hk
  | d + 1, fuel, t, cs, x, ks, h, hk => by
    unfold kindsOf at hk
    obtain ⟨hk, hsz⟩ := sized_some hk
    split at hk
    · rename_i k hu
      cases hk
      obtain ⟨n, rfl, _, hw⟩ := DataW.trod_int hu h
      intro j k' hj
      cases j with
      | zero => cases hj; exact ⟨_, rfl, fits_int hw⟩
      | succ j => simp at hj
    · rename_i hu
      cases hk
      obtain ⟨b, rfl, _⟩ := DataW.trod_bool hu h
      intro j k' hj
      cases j with
      | zero => cases hj; exact ⟨_, rfl, fits_bool b⟩
      | succ j => simp at hj
    · rename_i fs hu
      obtain ⟨xs, n, _, _, _, hlen, hget⟩ := DataW.trod_struct hu h
      refine kindsFs_fit (P := P) hk fun g hg kg hkg => ?_
      obtain ⟨i, hi⟩ := List.getElem?_of_mem hg
      have hi' : fs[i]? = some g := by simpa using hi
      have := hget i g hi'
      have hlt : i < xs.length := by
        have := (Array.getElem?_eq_some_iff.1 hi').1
        omega
      rw [List.getElem?_eq_getElem hlt] at this
      exact trod_fit d this hkg
    · rename_i n e hu
      split at hk
      · rename_i ke hke
        cases hk
        have hse : P.cellsOf e = ke.length := by
          cases d with
          | zero => simp [kindsOf] at hke
          | succ d => unfold kindsOf at hke; exact (sized_some hke).2
        have hall : ∀ m, m < n → ∃ fuel' y, DataW.trod enc P w base spare held fuel' e ((cs.drop (m * P.cellsOf e)).take (P.cellsOf e)) = some y := by
          intro m hm
          obtain ⟨fuel', xs, hp⟩ := trod_array hu h
          have := mapM_get_some hp m m (by simp [hm])
          obtain ⟨y, hy⟩ := Option.isSome_iff_exists.1 this
          exact ⟨fuel', y, hy⟩
        have := rep_fit (cs := cs) hse n 0 fun m _ hm => by
          obtain ⟨fuel', y, hy⟩ := hall m (by omega)
          exact trod_fit d hy hke
        simpa using this
      · cases hk
    · cases hk
end

/-! ### arguments -/
/-- How many elements a slice that comes in has at most. -/
def lenMax (P : Program) (e : TypeId) : Int := match P.bytesOf e with
  | 0 => .ofNat 9223372036854775807
  | b + 1 => .ofNat (reachBytes / (b + 1))
/-- Cells of which nothing is known. -/
def opqs (q m : Nat) : List CV := (List.range m).map fun i => .opq (q + i)
def symArgT (P : Program) (t : TypeId) (n q : Nat) (isNil : Bool) : Option (V1 × List (Nat × Ent) × List Fact × Nat × Nat) :=
  match P.underlying t with
  | some (.slice e) => (match isNil with
    | true => some (.one .nils, [], [], n + 2, q + 1)
    | false => (match kindsOf P 12 e with
      | some ks => some (.one (.tslc q ks.length (.lit (.ofNat 0)) (.var n) (.var (n + 1))), [(q, ⟨false, .tab q (.tv q) (.var n) ks⟩)],
          [.rng (.var n) (some (.ofNat 0), some (lenMax P e)), .rng (.var (n + 1)) (some (.ofNat 0), some (.ofNat 9223372036854775807))], n + 2, q + 1)
      | none => some (.one (.tslc q (P.cellsOf e) (.lit (.ofNat 0)) (.var n) (.var (n + 1))), [],
          [.rng (.var n) (some (.ofNat 0), some (lenMax P e)), .rng (.var (n + 1)) (some (.ofNat 0), some (.ofNat 9223372036854775807))], n + 2, q + 1)))
  | _ => (match symArg P t n with
    | some (x, k, m) => some (x, [], k, m, q)
    | none => (match aggB P t with
      | true => some (.agg (opqs q (P.cellsOf t)), [], [], n, q + P.cellsOf t)
      | false => none))
def symArgsT (P : Program) : List TypeId → Nat → Nat → List Bool → Option (List V1 × List (Nat × Ent) × List Fact × Nat × Nat)
  | [], n, q, _ => some ([], [], [], n, q)
  | t :: ts, n, q, fl => match symArgT P t n q (fl.headD false) with
    | some (x, hs, k, m, q') => (match symArgsT P ts m q' fl.tail with
      | some (xs, hs', k', m', q'') => some (x :: xs, hs ++ hs', k ++ k', m', q'')
      | none => none)
    | none => none
def isNilV : Value → Bool
  | .slice none _ _ => true
  | _ => false
/-- Numbers, tables and blocks from an index on. -/
structure FromN (ρ : Env) (β : Lab) (n q : Nat) (L : List Int) (Ts : List (Int → Nat → Int)) (Bs : List (Nat × Value)) : Prop where
  v : ρ.from n L
  t : ∀ i T, Ts[i]? = some T → ρ.t (q + i) = T
  b : ∀ i b, Bs[i]? = some b → β.b (q + i) = b.1 ∧ β.o (q + i) = b.2
def HeapIn (ρ : Env) (β : Lab) (W : World) (q q' : Nat) (hs : List (Nat × Ent)) : Prop :=
  ∀ x ∈ hs, q ≤ x.1 ∧ x.1 < q' ∧ x.2.wr = false ∧ x.2.blk.below q' ∧ β.b x.1 < W.heap.size ∧ x.2.blk.sat ρ β (β.b x.1) W
section
variable {H : Type} {enc : TypeId × Value → H} {P : Program} {W : World} {base : Nat} {spare : Nat → Bool} {held : Bool} {r : Reach}
theorem symArgT_ok {t : TypeId} {n q : Nat} {x : V1} {hs : List (Nat × Ent)} {k : List Fact} {m q' : Nat} {v : Value} (h : symArgT P t n q (isNilV v) = some (x, hs, k, m, q')) (hv : Value.okWide P W r base t v) {d : DataW H} {ps : List MemPlace} (ht : DataW.Trod enc P W 0 spare held t v d ps) (hwt : ∀ x ∈ d.weights P t, x ≤ reachBytes) :
    ∃ (L : List Int) (Ts : List (Int → Nat → Int)) (Bs : List (Nat × Value)), m = n + L.length ∧ q' = q + Ts.length ∧ Bs.length = Ts.length ∧ ∀ (ρ : Env) (β : Lab), FromN ρ β n q L Ts Bs →
      x.den ρ β = v ∧ (∀ g ∈ k, Fact.holds ρ g) ∧ V1.below q' x ∧ HeapIn ρ β W q q' hs := by
  unfold symArgT at h
  split at h
  · rename_i e hu
    obtain ⟨fuel, htr⟩ := ht
    unfold Value.okWide at hv
    rw [hu] at hv
    simp only at hv
    unfold Cell.okWide at hv
    rw [hu] at hv
    split at h
    · rename_i hnil
      cases h
      cases v <;> simp only [isNilV, Bool.false_eq_true] at hnil <;> try contradiction
      rename_i a len cap
      cases a with
      | some a => simp at hnil
      | none =>
        have hz : len = 0 ∧ cap = 0 := by
          unfold Cell.ok at hv
          rw [hu] at hv
          simp only at hv
          split at hv <;> simp_all
        refine ⟨[0, 0], [fun _ _ => 0], [(0, .bool true)], rfl, rfl, rfl, fun ρ β _ => ⟨?_, fun g hg => (by cases hg), trivial, fun x hx => (by cases hx)⟩⟩
        rw [hz.1, hz.2]
        rfl
    · rename_i hnil
      split at h
      · rename_i ks hks
        cases h
        have hv' : ∃ a len cap, v = .slice (some a) len cap ∧ len ≤ cap ∧ (cap : Int) ≤ IntKind.i64.max ∧ W.has P r base a e cap := by
          cases v with
          | slice a len cap =>
            cases a with
            | none => simp [isNilV] at hnil
            | some a =>
              unfold Cell.ok at hv
              rw [hu] at hv
              exact ⟨a, len, cap, rfl, hv⟩
          | _ => unfold Cell.ok at hv; rw [hu] at hv; simp at hv
        obtain ⟨a, len, cap, rfl, hlc, hcap, hhas⟩ := hv'
        obtain ⟨_, hspot, row, cells, hshape, _⟩ := hhas
        obtain ⟨b, off, sp⟩ := a
        simp only at hspot hshape
        subst hspot
        have hsz : P.cellsOf e = ks.length := by unfold kindsOf at hks; exact (sized_some hks).2
        have hblt : b < W.heap.size := by
          unfold World.shape? at hshape
          cases hb : W.heap[b]? with
          | none => rw [hb] at hshape; cases hshape
          | some o => exact (Array.getElem?_eq_some_iff.1 hb).1
        have hmax : (len : Int) ≤ lenMax P e := by
          rcases DataW.trod_slice hu htr with ⟨hc, _⟩ | ⟨a', len', cap', elems, rest, n', _, hc, hd, _, _, _, hlen, _, _⟩
          · simp [Value.cells] at hc
          · simp only [Value.cells, List.cons.injEq, Value.slice.injEq, Option.some.injEq, and_true] at hc
            obtain ⟨rfl, rfl, rfl⟩ := hc
            simp only [Prod.mk.injEq] at hd
            have h1 : (elems.length + rest.length) * P.bytesOf e ≤ reachBytes := by
              refine hwt _ ?_
              rw [hd.1]
              simp only [DataW.weights, hu, List.length_map]
              exact List.mem_cons_self ..
            unfold lenMax
            have hi64 : (IntKind.i64.max : Int) = 9223372036854775807 := by decide
            split
            · show (len : Int) ≤ 9223372036854775807
              omega
            · rename_i b' hb'
              rw [hb'] at h1
              have : len ≤ reachBytes / (b' + 1) := by
                rw [Nat.le_div_iff_mul_le (Nat.succ_pos _)]
                exact Nat.le_trans (Nat.mul_le_mul_right _ (by omega)) h1
              simp only [Int.ofNat_eq_natCast]
              omega
        have hel : ∀ i : Nat, i < len → ∀ (j : Nat) (kd : CK), ks[j]? = some kd → ∃ v, W.cell? ⟨b, off + i * ks.length + j, none⟩ = some v ∧ Fits kd v := by
          intro i hi j kd hj
          rcases DataW.trod_slice hu htr with ⟨hc, _⟩ | ⟨a', len', cap', elems, rest, n', _, hc, _, _, _, _, hlen, hget, _⟩
          · simp [Value.cells] at hc
          · simp only [Value.cells, List.cons.injEq, Value.slice.injEq, Option.some.injEq, and_true] at hc
            obtain ⟨rfl, rfl, rfl⟩ := hc
            have h1 := hget i hi
            rw [List.getElem?_eq_getElem (by omega)] at h1
            obtain ⟨cs, h2, h3⟩ := Option.bind_eq_some_iff.1 h1
            obtain ⟨_, h4, h5⟩ := World.cells?_some h2
            obtain ⟨v, h6, h7⟩ := trod_fit 12 h3 hks j kd hj
            have hjl : j < ks.length := (List.getElem?_eq_some_iff.1 hj).1
            have h8 := h5 j (by omega)
            rw [Addr.add_lit, Addr.add_lit, hsz] at h8
            exact ⟨v, by rw [h8, ← h6, Nat.zero_add], h7⟩
        refine ⟨[(len : Int), (cap : Int)], [fun i j => numOf ((W.cell? ⟨b, off + i.toNat * ks.length + j, none⟩).getD (.bool false))], [(b, .int .i64 off)], rfl, rfl, rfl, fun ρ β hf => ?_⟩
        have e1 : ρ.v n = len := (Env.from_cons hf.v).1
        have e2 : ρ.v (n + 1) = cap := (Env.from_cons (Env.from_cons hf.v).2).1
        have e3 := hf.t 0 _ rfl
        have e4 := hf.b 0 _ rfl
        simp only [Nat.add_zero] at e3 e4
        have e5 : β.f q = off := by unfold Lab.f; rw [e4.2]; simp
        have hi64 : (IntKind.i64.max : Int) = 9223372036854775807 := by decide
        refine ⟨?_, fun g hg => ?_, Nat.lt_succ_self _, fun x hx => ?_⟩
        · simp only [V1.den, CV.den, E.den, e1, e2, e4.1, e5]
          simp
        · simp only [List.mem_cons, List.not_mem_nil, or_false] at hg
          rcases hg with rfl | rfl
          · rw [rng_iff]; simp only [E.den, e1]; constructor
            · exact Int.natCast_nonneg _
            · exact hmax
          · rw [rng_iff]; simp only [E.den, e2]; constructor
            · exact Int.natCast_nonneg _
            · show (cap : Int) ≤ 9223372036854775807
              omega
        · simp only [List.mem_cons, List.not_mem_nil, or_false] at hx
          subst hx
          refine ⟨Nat.le_refl _, Nat.lt_succ_self _, rfl, Nat.lt_succ_self _, by rw [e4.1]; exact hblt, ?_⟩
          intro i hi j kd hj
          simp only [E.den, e1] at hi
          obtain ⟨v, h1, h2⟩ := hel i (by omega) j kd hj
          rw [e4.1, e5]
          simp only [E.tden, e3, Int.toNat_natCast, h1, Option.getD_some]
          rw [← h2]
      · rename_i hks
        cases h
        have hv' : ∃ a len cap, v = .slice (some a) len cap ∧ len ≤ cap ∧ (cap : Int) ≤ IntKind.i64.max ∧ W.has P r base a e cap := by
          cases v with
          | slice a len cap =>
            cases a with
            | none => simp [isNilV] at hnil
            | some a =>
              unfold Cell.ok at hv
              rw [hu] at hv
              exact ⟨a, len, cap, rfl, hv⟩
          | _ => unfold Cell.ok at hv; rw [hu] at hv; simp at hv
        obtain ⟨a, len, cap, rfl, hlc, hcap, hhas⟩ := hv'
        obtain ⟨_, hspot, row, cells, hshape, _⟩ := hhas
        obtain ⟨b, off, sp⟩ := a
        simp only at hspot hshape
        subst hspot
        have hblt : b < W.heap.size := by
          unfold World.shape? at hshape
          cases hb : W.heap[b]? with
          | none => rw [hb] at hshape; cases hshape
          | some o => exact (Array.getElem?_eq_some_iff.1 hb).1
        have hmax : (len : Int) ≤ lenMax P e := by
          rcases DataW.trod_slice hu htr with ⟨hc, _⟩ | ⟨a', len', cap', elems, rest, n', _, hc, hd, _, _, _, hlen, _, _⟩
          · simp [Value.cells] at hc
          · simp only [Value.cells, List.cons.injEq, Value.slice.injEq, Option.some.injEq, and_true] at hc
            obtain ⟨rfl, rfl, rfl⟩ := hc
            simp only [Prod.mk.injEq] at hd
            have h1 : (elems.length + rest.length) * P.bytesOf e ≤ reachBytes := by
              refine hwt _ ?_
              rw [hd.1]
              simp only [DataW.weights, hu, List.length_map]
              exact List.mem_cons_self ..
            unfold lenMax
            have hi64 : (IntKind.i64.max : Int) = 9223372036854775807 := by decide
            split
            · show (len : Int) ≤ 9223372036854775807
              omega
            · rename_i b' hb'
              rw [hb'] at h1
              have : len ≤ reachBytes / (b' + 1) := by
                rw [Nat.le_div_iff_mul_le (Nat.succ_pos _)]
                exact Nat.le_trans (Nat.mul_le_mul_right _ (by omega)) h1
              simp only [Int.ofNat_eq_natCast]
              omega
        refine ⟨[(len : Int), (cap : Int)], [fun _ _ => 0], [(b, .int .i64 off)], rfl, rfl, rfl, fun ρ β hf => ?_⟩
        have e1 : ρ.v n = len := (Env.from_cons hf.v).1
        have e2 : ρ.v (n + 1) = cap := (Env.from_cons (Env.from_cons hf.v).2).1
        have e4 := hf.b 0 _ rfl
        simp only [Nat.add_zero] at e4
        have e5 : β.f q = off := by unfold Lab.f; rw [e4.2]; simp
        have hi64 : (IntKind.i64.max : Int) = 9223372036854775807 := by decide
        refine ⟨?_, fun g hg => ?_, Nat.lt_succ_self _, fun x hx => by cases hx⟩
        · simp only [V1.den, CV.den, E.den, e1, e2, e4.1, e5]
          simp
        · simp only [List.mem_cons, List.not_mem_nil, or_false] at hg
          rcases hg with rfl | rfl
          · rw [rng_iff]; simp only [E.den, e1]; constructor
            · exact Int.natCast_nonneg _
            · exact hmax
          · rw [rng_iff]; simp only [E.den, e2]; constructor
            · exact Int.natCast_nonneg _
            · show (cap : Int) ≤ 9223372036854775807
              omega
  · rename_i hns
    split at h
    · rename_i x' k' m' hx
      cases h
      obtain ⟨L, hL, hr⟩ := symArg_ok hx hv
      exact ⟨L, [], [], hL, rfl, rfl, fun ρ β hf => ⟨(hr ρ β hf.v).1, (hr ρ β hf.v).2.1, (hr ρ β hf.v).2.2 _, fun x hx => (by cases hx)⟩⟩
    · split at h
      · rename_i hag
        cases h
        have hv' : ∃ cs, v = .agg cs ∧ cs.size = P.cellsOf t := by
          unfold aggB at hag
          unfold Value.okWide at hv
          split at hag
          · rename_i hu; rw [hu] at hv; exact hv.imp fun cs h => ⟨h.1, h.2.1⟩
          · rename_i hu; rw [hu] at hv; exact hv.imp fun cs h => ⟨h.1, h.2.1⟩
          · cases hag
        obtain ⟨cs, rfl, hsz⟩ := hv'
        refine ⟨[], List.replicate cs.size (fun _ _ => 0), cs.toList.map (fun v => (0, v)), rfl, by simp [hsz], by simp, fun ρ β hf => ⟨?_, fun g hg => (by cases hg), fun c hc => ?_, fun x hx => (by cases hx)⟩⟩
        · simp only [V1.den]
          congr 1
          apply Array.toList_inj.1
          simp only [opqs]
          apply List.ext_getElem?
          intro i
          simp only [List.map_map, List.getElem?_map, Array.getElem?_toList]
          by_cases hi : i < cs.size
          · rw [List.getElem?_range (by omega), Array.getElem?_eq_getElem hi]
            have := hf.b i (0, cs[i]) (by simp [hi])
            simp only [Option.map_some, Function.comp_apply, CV.den, this.2]
          · rw [List.getElem?_eq_none (by simp; omega), Array.getElem?_eq_none (by omega)]
            rfl
        · simp only [opqs, List.mem_map, List.mem_range] at hc
          obtain ⟨i, hi, rfl⟩ := hc
          simp only [CV.below]
          omega
      · cases h
theorem FromN.split {ρ : Env} {β : Lab} {n q : Nat} {L L' : List Int} {Ts Ts' : List (Int → Nat → Int)} {Bs Bs' : List (Nat × Value)} (hl : Bs.length = Ts.length) (h : FromN ρ β n q (L ++ L') (Ts ++ Ts') (Bs ++ Bs')) :
    FromN ρ β n q L Ts Bs ∧ FromN ρ β (n + L.length) (q + Ts.length) L' Ts' Bs' := by
  refine ⟨⟨Env.from_left h.v, fun i T hi => h.t i T ?_, fun i b hi => h.b i b ?_⟩, ⟨Env.from_right h.v, fun i T hi => ?_, fun i b hi => ?_⟩⟩
  · rw [List.getElem?_append_left (List.getElem?_eq_some_iff.1 hi).1]; exact hi
  · rw [List.getElem?_append_left (List.getElem?_eq_some_iff.1 hi).1]; exact hi
  · have := h.t (Ts.length + i) T (by rw [List.getElem?_append_right (by omega)]; simpa using hi)
    rwa [← Nat.add_assoc] at this
  · have := h.b (Bs.length + i) b (by rw [List.getElem?_append_right (by omega)]; simpa using hi)
    rwa [hl, ← Nat.add_assoc] at this
theorem symArgsT_ok : ∀ {ts : List TypeId} {n q : Nat} {xs : List V1} {hs : List (Nat × Ent)} {k : List Fact} {m q' : Nat} {vs : List Value} {ds : List (DataW H)} {ps : List MemPlace}, symArgsT P ts n q (vs.map isNilV) = some (xs, hs, k, m, q') →
    (∀ (j : Nat) (t : TypeId) (v : Value), ts[j]? = some t → vs[j]? = some v → Value.okWide P W r base t v) → DataW.TrodAll enc P W 0 spare held ts vs ds ps → (∀ x ∈ DataW.weightsEach P ts ds, x ≤ reachBytes) →
    ∃ (L : List Int) (Ts : List (Int → Nat → Int)) (Bs : List (Nat × Value)), m = n + L.length ∧ q' = q + Ts.length ∧ Bs.length = Ts.length ∧ ∀ (ρ : Env) (β : Lab), FromN ρ β n q L Ts Bs →
      xs.map (V1.den ρ β) = vs ∧ (∀ g ∈ k, Fact.holds ρ g) ∧ (∀ x ∈ xs, V1.below q' x) ∧ HeapIn ρ β W q q' hs
  | [], n, q, xs, hs, k, m, q', [], [], ps, h, hv, ht, _ => by
    cases h
    exact ⟨[], [], [], rfl, rfl, rfl, fun ρ β _ => ⟨rfl, fun g hg => (by cases hg), fun x hx => (by cases hx), fun x hx => (by cases hx)⟩⟩
  | [], n, q, xs, hs, k, m, q', _ :: _, _, ps, h, hv, ht, _ => by simp [DataW.TrodAll] at ht
  | [], n, q, xs, hs, k, m, q', [], _ :: _, ps, h, hv, ht, _ => by simp [DataW.TrodAll] at ht
  | _ :: _, n, q, xs, hs, k, m, q', [], _, ps, h, hv, ht, _ => by simp [DataW.TrodAll] at ht
  | _ :: _, n, q, xs, hs, k, m, q', _ :: _, [], ps, h, hv, ht, _ => by simp [DataW.TrodAll] at ht
  | t :: ts, n, q, xs, hs, k, m, q', v :: vs, d :: ds, ps, h, hv, ⟨p1, p2, ht1, ht2, _⟩, hwt => by
    simp only [symArgsT, List.map_cons, List.headD_cons, List.tail_cons] at h
    split at h
    · rename_i x hs1 k1 m1 q1 hx
      split at h
      · rename_i xs' hs2 k2 m2 q2 hxs
        cases h
        obtain ⟨L, Ts, Bs, a1, a2, a3, a4⟩ := symArgT_ok hx (hv 0 t v rfl rfl) ht1 (fun x hx => hwt x (by simp only [DataW.weightsEach]; exact List.mem_append_left _ hx))
        obtain ⟨L', Ts', Bs', b1, b2, b3, b4⟩ := symArgsT_ok hxs (fun j t v ht hj => hv (j + 1) t v ht hj) ht2 (fun x hx => hwt x (by simp only [DataW.weightsEach]; exact List.mem_append_right _ hx))
        refine ⟨L ++ L', Ts ++ Ts', Bs ++ Bs', by rw [b1, a1, List.length_append]; omega, by rw [b2, a2, List.length_append]; omega, by simp [a3, b3], fun ρ β hf => ?_⟩
        obtain ⟨f1, f2⟩ := FromN.split a3 hf
        rw [← a1, ← a2] at f2
        obtain ⟨c1, c2, c3, c4⟩ := a4 ρ β f1
        obtain ⟨d1, d2, d3, d4⟩ := b4 ρ β f2
        refine ⟨by rw [List.map_cons, c1, d1], fun g hg => ?_, fun y hy => ?_, fun y hy => ?_⟩
        · rcases List.mem_append.1 hg with hg | hg
          · exact c2 g hg
          · exact d2 g hg
        · rcases List.mem_cons.1 hy with rfl | hy
          · exact V1.below_mono (by omega) c3
          · exact d3 y hy
        · rcases List.mem_append.1 hy with hy | hy
          · obtain ⟨e1, e2, e3, e4, e5, e6⟩ := c4 y hy
            exact ⟨e1, by omega, e3, Blk.below_mono (by omega) e4, e5, e6⟩
          · obtain ⟨e1, e2, e3, e4, e5, e6⟩ := d4 y hy
            exact ⟨by omega, e2, e3, e4, e5, e6⟩
      · cases h
    · cases h
theorem isNilV_slice {t : TypeId} {v : Value} (hv : Value.okWide P W r base t v) (hn : isNilV v = true) : ∃ e, P.underlying t = some (.slice e) := by
  cases v <;> simp only [isNilV, Bool.false_eq_true] at hn
  unfold Value.okWide at hv
  cases hu : P.underlying t with
  | none => rw [hu] at hv; simp only [Cell.okWide, Cell.ok, hu] at hv
  | some d =>
    rw [hu] at hv
    cases d <;> first
      | exact ⟨_, rfl⟩
      | (obtain ⟨cs, h, _⟩ := hv; cases h; done)
      | (simp only [Cell.okWide, Cell.ok, hu] at hv; done)
      | (simp [Cell.okWide, Cell.ok, hu] at hv; done)
def flagsAll (P : Program) : List TypeId → List (List Bool)
  | [] => [[]]
  | t :: ts => (flagsAll P ts).flatMap fun fl => match P.underlying t with
    | some (.slice _) => [true :: fl, false :: fl]
    | _ => [false :: fl]
theorem flags_mem : ∀ {ts : List TypeId} {vs : List Value}, vs.length = ts.length → (∀ (j : Nat) (t : TypeId) (v : Value), ts[j]? = some t → vs[j]? = some v → Value.okWide P W r base t v) → vs.map isNilV ∈ flagsAll P ts
  | [], [], _, _ => by simp [flagsAll]
  | t :: ts, v :: vs, hl, hv => by
    have ih := flags_mem (ts := ts) (vs := vs) (by simpa using hl) (fun j t v ht hj => hv (j + 1) t v ht hj)
    simp only [flagsAll, List.map_cons, List.mem_flatMap]
    refine ⟨_, ih, ?_⟩
    cases hn : isNilV v with
    | true =>
      obtain ⟨e, he⟩ := isNilV_slice (hv 0 t v rfl rfl) hn
      rw [he]
      simp
    | false => split <;> simp
theorem law_TST {f : FuncId} {fn : Func} {body : Code} (hf : P.funcs[f]? = some fn) (hb : fn.body = some body) {ts : List TypeId}
    (hw : ∀ fl ∈ flagsAll P ts, ∃ xs hs k m q, symArgsT P ts 0 0 fl = some (xs, hs, k, m, q) ∧ ∀ ρ : Env, (∀ g ∈ k, Fact.holds ρ g) → ∀ (β : Lab) (W : World) (a : Act), TS (Ctx.law W β ρ) ρ β fn.ntmps ⟨argSlots xs 0 .nil, putSets .leaf hs, q, []⟩ a W → WPs none P (Sx.flat body) (EndAt P fn (Ctx.law W β ρ) none) a W)
    {args : Array Value} {ds : List (DataW H)} {ps : List MemPlace} (hsz : args.size = ts.length) (hv : ∀ (j : Nat) (t : TypeId) (v : Value), ts[j]? = some t → args[j]? = some v → Value.okWide P W r base t v) (ht : DataW.TrodAll enc P W 0 spare held ts args.toList ds ps) (hwt : ∀ x ∈ DataW.weightsEach P ts ds, x ≤ reachBytes) :
    Calls P f args W fun e w' => e = .returned (.bool true) ∧ Kept W w' := by
  have hv' : ∀ (j : Nat) (t : TypeId) (v : Value), ts[j]? = some t → args.toList[j]? = some v → Value.okWide P W r base t v := fun j t v ht hj => hv j t v ht (by simpa using hj)
  obtain ⟨xs, hs, k, m, q, hsym, hrun⟩ := hw _ (flags_mem (vs := args.toList) (by simpa using hsz) hv')
  obtain ⟨L, Ts, Bs, a1, a2, a3, a4⟩ := symArgsT_ok hsym hv' ht hwt
  let ρ : Env := ⟨fun i => L.getD i 0, fun i => Ts.getD i (fun _ _ => 0)⟩
  let β : Lab := ⟨fun i => (Bs.getD i (0, .bool true)).1, fun i => (Bs.getD i (0, .bool true)).2⟩
  have hfr : FromN ρ β 0 0 L Ts Bs := ⟨fun i _ => by simp [ρ], fun i T hi => by simp [ρ, List.getD, hi], fun i b hi => by simp [β, List.getD, hi]⟩
  obtain ⟨h1, h2, h3, h4⟩ := a4 ρ β hfr
  refine calls_of_wp hf hb ?_
  have hheap : ∀ l x, (putSets .leaf hs).get l = some x → (l, x) ∈ hs := fun l x hx => putSets_mem hx
  have hi := SatS.init (ρ := ρ) (β := β) (args := xs) (heap := putSets .leaf hs) (nx := q) (w := W) (nt := fn.ntmps) h3 ⟨fun l x hx => by
      obtain ⟨e1, e2, e3, e4, e5, e6⟩ := h4 _ (hheap l x hx)
      exact ⟨e2, e4, fun _ => e5, e6⟩, fun l l' x x' hx hx' hne hw _ _ => by
      have e3 := (h4 _ (hheap l x hx)).2.2.1
      have e3' := (h4 _ (hheap l' x' hx')).2.2.1
      simp only at e3 e3'
      rw [e3, e3'] at hw
      cases hw⟩
  rw [h1, Array.toArray_toList] at hi
  have := WPs.flat (hrun ρ h2 β W _ ⟨hi, Frm.refl _ _, fun l x hx hw _ => absurd hw (by
    have e3 := (h4 _ (hheap l x hx)).2.2.1
    simp only at e3
    rw [e3]
    exact Bool.false_ne_true), Fix.refl _, fun l hl => absurd hl (Nat.not_lt_zero _), Nat.zero_le _⟩)
  refine (wpIn_wide (n := 0)).1 (wpIn_mono this fun e a w he => ?_)
  unfold EndAt at he
  have fin : ∀ e w', (e = Ending.returned (.bool true) ∧ Frm (Ctx.law W β ρ).S (Ctx.law W β ρ).W w') → e = .returned (.bool true) ∧ Kept W w' := fun e w' h => ⟨h.1, h.2.grown fun _ h => h, fun k hk => h.2.old k hk id⟩
  cases e with
  | normal => exact ⟨he.1, he.2.imp fun v hv => ⟨hv.1 w (CellsKept.refl w), fin _ _ hv.2⟩⟩
  | ret => exact ⟨he.1, he.2.imp fun v hv => ⟨hv.1 w (CellsKept.refl w), fin _ _ hv.2⟩⟩
  | panic ch => exact ⟨he.1, fin _ _ he.2⟩
  | outgrown => exact fin _ _ he
  | exit id => exact he
  | goto l => exact he
end
end
end Go.Sx
/-
  SX: LOOPS, BY THEMSELVES: the next round's numbers read off the equations; the template's facts shown again by the executor's own reckoning; rounds counted.
-/
namespace Go.Sx
set_option linter.unusedSimpArgs false
set_option linter.unusedVariables false
set_option linter.unusedSectionVars false
noncomputable section
set_option linter.unusedVariables false

abbrev Asg := List (Nat × E)
def asgGet : Asg → Nat → Option E
  | [], _ => none
  | (j, e) :: r, i => match Nat.beq j i with | true => some e | false => asgGet r i
/-- Other numbers, other tables. -/
def Env.puts (ρ : Env) (a b : Asg) : Env := ⟨fun i => match asgGet a i with | some e => e.den ρ | none => ρ.v i, fun q => match asgGet b q with | some e => e.tden ρ | none => ρ.t q⟩
def varSb (a : Asg) (i : Nat) : E := match asgGet a i with | some e => e | none => .var i
def tvSb (b : Asg) (q : Nat) : E := match asgGet b q with | some e => e | none => .tv q
def E.sb (a b : Asg) : E → E
  | .lit n => .lit n
  | .var i => varSb a i
  | .tv q => tvSb b q
  | .get t i j => .get (t.sb a b) (i.sb a b) j
  | .upd t i j v => .upd (t.sb a b) (i.sb a b) j (v.sb a b)
  | .un o x => .un o (x.sb a b)
  | .bin o x y => .bin o (x.sb a b) (y.sb a b)
  | .ite c x y => .ite (c.sb a b) (x.sb a b) (y.sb a b)
  | .app f x y => .app f (x.sb a b) (y.sb a b)
theorem varSb_den (ρ : Env) (a b : Asg) (i : Nat) : (varSb a i).den ρ = (ρ.puts a b).v i := by
  unfold varSb Env.puts
  simp only
  cases asgGet a i <;> rfl
theorem tvSb_den (ρ : Env) (a b : Asg) (q : Nat) : (tvSb b q).tden ρ = (ρ.puts a b).t q := by
  unfold tvSb Env.puts
  simp only
  cases asgGet b q <;> rfl
/-- Is it a number (0), a table (1), a pair of tables (2) by its looks? -/
def shapeI : E → Nat → Bool
  | .lit _, n => Nat.beq n 0
  | .var _, n => Nat.beq n 0
  | .tv _, n => Nat.beq n 1
  | .get t i _, n => Nat.beq n 0 && (shapeI t 1 && shapeI i 0)
  | .upd t i _ v, n => Nat.beq n 1 && (shapeI t 1 && (shapeI i 0 && shapeI v 0))
  | .un _ a, n => Nat.beq n 0 && shapeI a 0
  | .bin _ a b, n => Nat.beq n 0 && (shapeI a 0 && shapeI b 0)
  | .ite c a b, n => shapeI c 0 && (Nat.blt n 2 && (shapeI a n && shapeI b n))
  | .app f a b, n => match f with
      | 0 => Nat.beq n 1 && (shapeI a 1 && shapeI b 0)
      | 1 => Nat.beq n 0 && (shapeI a 2 && shapeI b 0)
      | 2 => Nat.beq n 2 && (shapeI a 1 && shapeI b 1)
      | 3 => Nat.beq n 1 && (shapeI a 2 && shapeI b 0)
      | 4 => Nat.beq n 1 && (shapeI a 1 && shapeI b 0)
      | f => (match Nat.ble 48 f with | true => Nat.beq n 0 | false => Nat.beq n 1) && (shapeI a 2 && shapeI b 0)
theorem sb_all (ρ : Env) (a b : Asg) (e : E) : (shapeI e 0 = true → (e.sb a b).den ρ = e.den (ρ.puts a b)) ∧ (shapeI e 1 = true → (e.sb a b).tden ρ = e.tden (ρ.puts a b)) ∧
    (shapeI e 2 = true → (e.sb a b).tden ρ = e.tden (ρ.puts a b) ∧ (e.sb a b).t2den ρ = e.t2den (ρ.puts a b)) := by
  induction e with
  | lit n => exact ⟨fun _ => rfl, fun h => by simp [shapeI] at h, fun h => by simp [shapeI] at h⟩
  | var i => exact ⟨fun _ => varSb_den ρ a b i, fun h => by simp [shapeI] at h, fun h => by simp [shapeI] at h⟩
  | tv q => exact ⟨fun h => by simp [shapeI] at h, fun _ => tvSb_den ρ a b q, fun h => by simp [shapeI] at h⟩
  | get t i j ht hi =>
    refine ⟨fun h => ?_, fun h => by simp [shapeI] at h, fun h => by simp [shapeI] at h⟩
    simp only [shapeI, Bool.and_eq_true] at h
    simp only [E.sb, E.den, ht.2.1 h.2.1, hi.1 h.2.2]
  | upd t i j v ht hi hv =>
    refine ⟨fun h => by simp [shapeI] at h, fun h => ?_, fun h => by simp [shapeI] at h⟩
    simp only [shapeI, Bool.and_eq_true] at h
    simp only [E.sb, E.tden, ht.2.1 h.2.1, hi.1 h.2.2.1, hv.1 h.2.2.2]
  | un o x hx =>
    refine ⟨fun h => ?_, fun h => by simp [shapeI] at h, fun h => by simp [shapeI] at h⟩
    simp only [shapeI, Bool.and_eq_true] at h
    simp only [E.sb, E.den, hx.1 h.2]
  | bin o x y hx hy =>
    refine ⟨fun h => ?_, fun h => by simp [shapeI] at h, fun h => by simp [shapeI] at h⟩
    simp only [shapeI, Bool.and_eq_true] at h
    simp only [E.sb, E.den, hx.1 h.2.1, hy.1 h.2.2]
  | ite c x y hc hx hy =>
    refine ⟨fun h => ?_, fun h => ?_, fun h => ?_⟩
    · simp only [shapeI, Bool.and_eq_true] at h
      simp only [E.sb, E.den, hc.1 h.1, hx.1 h.2.2.1, hy.1 h.2.2.2]
    · simp only [shapeI, Bool.and_eq_true] at h
      simp only [E.sb, E.tden, hc.1 h.1, hx.2.1 h.2.2.1, hy.2.1 h.2.2.2]
    · simp [shapeI] at h
  | app f x y hx hy =>
    match f with
    | 0 =>
      refine ⟨fun h => by simp [shapeI] at h, fun h => ?_, fun h => by simp [shapeI] at h⟩
      simp only [shapeI, Bool.and_eq_true] at h
      simp only [E.sb, E.tden, hx.2.1 h.2.1, hy.1 h.2.2]
    | 1 =>
      refine ⟨fun h => ?_, fun h => by simp [shapeI] at h, fun h => by simp [shapeI] at h⟩
      simp only [shapeI, Bool.and_eq_true] at h
      simp only [E.sb, E.den, (hx.2.2 h.2.1).1, (hx.2.2 h.2.1).2, hy.1 h.2.2]
    | 2 =>
      refine ⟨fun h => by simp [shapeI] at h, fun h => by simp [shapeI] at h, fun h => ?_⟩
      simp only [shapeI, Bool.and_eq_true] at h
      simp only [E.sb, E.tden, E.t2den, hx.2.1 h.2.1, hy.2.1 h.2.2, and_self]
    | 3 =>
      refine ⟨fun h => by simp [shapeI] at h, fun h => ?_, fun h => by simp [shapeI] at h⟩
      simp only [shapeI, Bool.and_eq_true] at h
      simp only [E.sb, E.tden, (hx.2.2 h.2.1).1, (hx.2.2 h.2.1).2, hy.1 h.2.2]
    | 4 =>
      refine ⟨fun h => by simp [shapeI] at h, fun h => ?_, fun h => by simp [shapeI] at h⟩
      simp only [shapeI, Bool.and_eq_true] at h
      simp only [E.sb, E.tden, hx.2.1 h.2.1, hy.1 h.2.2]
    | n + 5 =>
      refine ⟨fun h => ?_, fun h => ?_, fun h => ?_⟩
      · simp only [shapeI, Bool.and_eq_true] at h
        simp only [E.sb, E.den, (hx.2.2 h.2.1).1, (hx.2.2 h.2.1).2, hy.1 h.2.2]
      · simp only [shapeI, Bool.and_eq_true] at h
        simp only [E.sb, E.tden, (hx.2.2 h.2.1).1, (hx.2.2 h.2.1).2, hy.1 h.2.2]
      · simp only [shapeI, Bool.and_eq_true] at h
        have := h.1
        split at this <;> simp at this
def E.flatT (e : E) : Bool := shapeI e 0
def E.flatB (e : E) : Bool := shapeI e 1
theorem sb_den (ρ : Env) (a b : Asg) (e : E) (h : e.flatT = true) : (e.sb a b).den ρ = e.den (ρ.puts a b) := (sb_all ρ a b e).1 h
theorem sb_tden (ρ : Env) (a b : Asg) (e : E) (h : e.flatB = true) : (e.sb a b).tden ρ = e.tden (ρ.puts a b) := (sb_all ρ a b e).2.1 h
def asgOf : Pairs → Asg → Asg
  | [], a => a
  | (e, .var i) :: r, a => match Nat.ble 100 i && (asgGet a i).isNone with
    | true => e.deepK fun e => asgOf r ((i, e) :: a)
    | false => asgOf r a
  | _ :: r, a => asgOf r a
def tasgOf : TPairs → Asg → Asg
  | [], a => a
  | (e, .tv i, _) :: r, a => match Nat.ble 100 i && (asgGet a i).isNone with
    | true => e.deepK fun e => tasgOf r ((i, e) :: a)
    | false => tasgOf r a
  | _ :: r, a => tasgOf r a
/-- Is it 0 or 1? -/
def isB (e : E) : Bool := match e with
  | .bin .eq _ _ => true
  | .bin .lt _ _ => true
  | .bin .beq _ _ => true
  | .un .not _ => true
  | _ => false
theorem isB_den {e : E} (h : isB e = true) (ρ : Env) : e.den ρ = 0 ∨ e.den ρ = 1 := by
  cases e with
  | bin o a b => cases o <;> simp only [isB, Bool.false_eq_true] at h <;> (simp only [E.den, BO.den]; split <;> simp)
  | un o a => cases o <;> simp only [isB, Bool.false_eq_true] at h <;> (simp only [E.den, UO.den]; split <;> simp)
  | _ => simp only [isB, Bool.false_eq_true] at h
/-- A test that is decided, and a literal. -/
def sameB (k : Known) (n : Int) (y : E) : Bool := match isB y with
  | true => (match dec k y with
    | some true => ieq n 1
    | some false => ieq n 0
    | none => false)
  | false => false
theorem sameB_ok {ρ : Env} {k : Known} (hk : Known.holds ρ k) {n : Int} {y : E} (h : sameB k n y = true) : n = y.den ρ := by
  unfold sameB at h
  split at h
  · rename_i hb
    have hb := isB_den hb ρ
    split at h
    · rename_i hd
      have := (dec_sound hk hd).2 rfl
      rw [ieq_eq h]; omega
    · rename_i hd
      have := dec_sound hk hd
      have : y.den ρ = 0 := by
        by_cases h0 : y.den ρ = 0
        · exact h0
        · exact absurd (this.1 h0) (by simp)
      rw [ieq_eq h, this]
    · cases h
  · cases h
def sameN (k : Known) (x y : E) : Bool := match x with
  | .lit n => sameB k n y
  | x => (match y with
    | .lit n => sameB k n x
    | _ => false)
theorem sameN_ok {ρ : Env} {k : Known} (hk : Known.holds ρ k) {x y : E} (h : sameN k x y = true) : x.den ρ = y.den ρ := by
  unfold sameN at h
  split at h
  · exact sameB_ok hk h
  · split at h
    · exact (sameB_ok hk h).symm
    · cases h
/-- A choice that is decided. -/
def resolve (k : Known) : E → E
  | .ite c a b => (match dec k c with
    | some true => resolve k a
    | some false => resolve k b
    | none => .ite c a b)
  | e => e
theorem resolve_den {ρ : Env} {k : Known} (hk : Known.holds ρ k) : ∀ e : E, (resolve k e).den ρ = e.den ρ
  | .ite c a b => by
    unfold resolve
    split
    · rename_i hd
      have h1 := (dec_sound hk hd).2 rfl
      rw [resolve_den hk a]
      simp only [E.den]
      rw [if_neg h1]
    · rename_i hd
      have h1 : c.den ρ = 0 := by
        have := dec_sound hk hd
        by_cases h0 : c.den ρ = 0
        · exact h0
        · exact absurd (this.1 h0) (by simp)
      rw [resolve_den hk b]
      simp only [E.den]
      rw [if_pos h1]
    · rfl
  | .lit _ | .var _ | .tv _ | .get _ _ _ | .un _ _ | .bin _ _ _ | .upd _ _ _ _ | .app _ _ _ => by simp only [resolve]
/-- Is one at most the other? By looks, by a comparison, by bounds. -/
def leK (k : Known) (x y : E) : Bool := match relLe0 k 0 x y with
  | true => true
  | false => (match relLe0 k 0 (norm k x) (norm k y) with
    | true => true
    | false => (match (bnd k (norm k x)).2, (bnd k (norm k y)).1 with
      | some h, some l => ile h l
      | _, _ => false))
theorem leK_ok {ρ : Env} {k : Known} (hk : Known.holds ρ k) {x y : E} (h : leK k x y = true) : x.den ρ ≤ y.den ρ := by
  unfold leK at h
  split at h
  · rename_i h1; have := relLe0_ok hk h1; omega
  · split at h
    · rename_i h1
      have := relLe0_ok hk h1
      rw [norm_den hk, norm_den hk] at this
      omega
    · split at h
      · rename_i a b ha hb
        have h1 := (bnd_has hk (norm k x)).2 _ ha
        have h2 := (bnd_has hk (norm k y)).1 _ hb
        rw [norm_den hk] at h1 h2
        have := ile_iff.1 h
        omega
      · cases h
def sameK (k : Known) (x y : E) : Bool := match x.same y with
  | true => true
  | false => (match isT (dec k (.bin .eq x y)) with
    | true => true
    | false => (match sameN k (norm k x) (norm k y) with
      | true => true
      | false => (match (norm k (resolve k (norm k x))).same (norm k (resolve k (norm k y))) with
        | true => true
        | false => leK k x y && leK k y x)))
theorem sameK_ok {ρ : Env} {k : Known} (hk : Known.holds ρ k) {x y : E} (h : sameK k x y = true) : x.den ρ = y.den ρ := by
  unfold sameK at h
  split at h
  · rename_i hs; rw [E.same_eq hs]
  · split at h
    · rename_i hT
      cases hd : dec k (.bin .eq x y) with
      | none => rw [hd] at hT; cases hT
      | some b =>
        rw [hd] at hT
        simp only [isT] at hT
        subst hT
        exact (eq_iff.1 (dec_sound hk hd)).2 rfl
    · split at h
      · rename_i h3
        have h2 := sameN_ok hk h3
        rwa [norm_den hk, norm_den hk] at h2
      · split at h
        · rename_i h3
          have h2 := congrArg (E.den ρ) (E.same_eq h3)
          rwa [norm_den hk, norm_den hk, resolve_den hk, resolve_den hk, norm_den hk, norm_den hk] at h2
        · simp only [Bool.and_eq_true] at h
          have h1 := leK_ok hk h.1
          have h2 := leK_ok hk h.2
          omega
def eqsOk (k : Known) (a b : Asg) : Pairs → Bool
  | [] => true
  | (e, e') :: r => match e'.flatT && sameK k e (e'.sb a b) with | true => eqsOk k a b r | false => false
theorem eqsOk_ok {ρ : Env} {k : Known} (hk : Known.holds ρ k) {a b : Asg} : ∀ {ps : Pairs}, eqsOk k a b ps = true → ∀ p ∈ ps, p.1.den ρ = p.2.den (ρ.puts a b)
  | [], _, p, h => by cases h
  | (e, e') :: r, h, p, hp => by
    unfold eqsOk at h
    split at h
    · rename_i hs
      simp only [Bool.and_eq_true] at hs
      rcases List.mem_cons.1 hp with rfl | hp
      · rw [← sb_den ρ a b e' hs.1]; exact sameK_ok hk hs.2
      · exact eqsOk_ok hk h p hp
    · cases h
def loOk (a : Option Int) : Option Int → Bool
  | none => true
  | some n => match a with | some m => ile n m | none => false
def hiOk (a : Option Int) : Option Int → Bool
  | none => true
  | some n => match a with | some m => ile m n | none => false
theorem ile_le {a b : Int} (h : ile a b = true) : a ≤ b := ile_iff.1 h
theorem bd_in {r s : Bd} {n : Int} (h : r.has n) (h1 : loOk r.1 s.1 = true) (h2 : hiOk r.2 s.2 = true) : s.has n := by
  constructor
  · intro m hm
    rw [hm] at h1
    unfold loOk at h1
    simp only at h1
    split at h1
    · rename_i x hx; exact Int.le_trans (ile_le h1) (h.1 _ hx)
    · cases h1
  · intro m hm
    rw [hm] at h2
    unfold hiOk at h2
    simp only at h2
    split at h2
    · rename_i x hx; exact Int.le_trans (h.2 _ hx) (ile_le h2)
    · cases h2
def bdOk1 (k : Known) (e : E) (r : Bd) : Bool := (norm k e).deepK fun e => match bnd k e with | (lo, hi) => loOk lo r.1 && hiOk hi r.2
def bdOk (k : Known) (e : E) (r : Bd) : Bool := match bdOk1 k e r with
  | true => true
  | false => match r with
    | (some lo, some hi) => ieq lo hi && isT (dec k (.bin .eq e (.lit lo)))
    | _ => false
theorem bdOk1_ok {ρ : Env} {k : Known} (hk : Known.holds ρ k) {e : E} {r : Bd} (h : bdOk1 k e r = true) : r.has (e.den ρ) := by
  unfold bdOk1 at h
  rw [E.deepK_eq] at h
  simp only [Bool.and_eq_true] at h
  have := bnd_has hk (norm k e)
  rw [norm_den hk] at this
  exact bd_in this h.1 h.2
theorem bdOk_ok {ρ : Env} {k : Known} (hk : Known.holds ρ k) {e : E} {r : Bd} (h : bdOk k e r = true) : r.has (e.den ρ) := by
  unfold bdOk at h
  split at h
  · rename_i h1; exact bdOk1_ok hk h1
  · obtain ⟨lo?, hi?⟩ := r
    cases lo? <;> cases hi? <;> simp only [Bool.false_eq_true] at h
    · rename_i lo hi
      simp only [Bool.and_eq_true] at h
      have e1 := (ieq_eq h.1).symm
      subst e1
      cases hd : dec k (.bin .eq e (.lit lo)) with
      | none => rw [hd] at h; cases h.2
      | some b =>
        rw [hd] at h
        have hb : b = true := h.2
        subst hb
        have := (eq_iff.1 (dec_sound hk hd)).2 rfl
        simp only [E.den] at this
        exact ⟨fun m hm => by cases hm; omega, fun m hm => by cases hm; omega⟩
/-! ### what follows from a comparison -/
def relT (k : Known) (y x : E × Int) (t : E × Bool) : Bool := match t with
  | (.bin .lt a b, v) => (match exactOff k (norm k a), exactOff k (norm k b) with
    | some (ba, oa), some (bb, ob) => (match v with
      | false => bb.same y.1 && (ba.same x.1 && ile ((oa - x.2) + (y.2 - ob)) 0)
      | true => ba.same y.1 && (bb.same x.1 && ile ((ob - x.2) + (y.2 - oa)) 1))
    | _, _ => false)
  | _ => false
theorem relT_ok {ρ : Env} {k : Known} (hk : Known.holds ρ k) {y x : E × Int} {t : E × Bool} (ht : t.1.den ρ ≠ 0 ↔ t.2 = true) (h : relT k y x t = true) : y.1.den ρ + y.2 ≤ x.1.den ρ + x.2 := by
  unfold relT at h
  split at h
  · rename_i a b v
    split at h
    · rename_i ba oa bb ob h1 h2
      have e1 := exactOff_ok hk h1
      have e2 := exactOff_ok hk h2
      rw [norm_den hk] at e1 e2
      have hl := lt_den ht
      split at h
      · simp only [Bool.and_eq_true] at h
        have g1 := E.same_eq h.1; have g2 := E.same_eq h.2.1; have g3 := ile_iff.1 h.2.2
        rw [g1] at e2; rw [g2] at e1
        simp only [Bool.false_eq_true, iff_false] at hl
        omega
      · simp only [Bool.and_eq_true] at h
        have g1 := E.same_eq h.1; have g2 := E.same_eq h.2.1; have g3 := ile_iff.1 h.2.2
        rw [g1] at e1; rw [g2] at e2
        simp only [iff_true] at hl
        omega
    · cases h
  · cases h
/-- Is y, and d, at most x? -/
def relLe (k : Known) (d : Int) (y x : E) : Bool := match exactOff k (norm k y), exactOff k (norm k x) with
  | some (by_, oy), some x' => (by_.same x'.1 && ile (oy + d) x'.2) || k.tr.any (relT k (by_, oy + d) x')
  | _, _ => false
theorem relLe_ok {ρ : Env} {k : Known} (hk : Known.holds ρ k) {d : Int} {y x : E} (h : relLe k d y x = true) : y.den ρ + d ≤ x.den ρ := by
  unfold relLe at h
  split at h
  · rename_i by_ oy x' h1 h2
    have e1 := exactOff_ok hk h1
    have e2 := exactOff_ok hk (show exactOff k (norm k x) = some (x'.1, x'.2) from h2)
    rw [norm_den hk] at e1 e2
    rcases Bool.or_eq_true_iff.1 h with h | h
    · simp only [Bool.and_eq_true] at h
      have g1 := E.same_eq h.1; have g2 := ile_iff.1 h.2
      rw [g1] at e1
      omega
    · obtain ⟨t, ht, hr⟩ := List.any_eq_true.1 h
      have := relT_ok hk (hk.tr t ht) hr
      simp only at this
      omega
  · cases h
def relH (k : Known) (y : E × Int) (hi : Int) (t : E × Bool) : Bool := match t with
  | (.bin .lt a b, v) => (match v with
    | false => (match exactOff k (norm k b), (bnd k (norm k a)).2 with
      | some (bb, ob), some h => bb.same y.1 && ile (h + (y.2 - ob)) hi
      | _, _ => false)
    | true => (match exactOff k (norm k a), (bnd k (norm k b)).2 with
      | some (ba, oa), some h => ba.same y.1 && ile (h + (y.2 - oa)) (hi + 1)
      | _, _ => false))
  | _ => false
theorem relH_ok {ρ : Env} {k : Known} (hk : Known.holds ρ k) {y : E × Int} {hi : Int} {t : E × Bool} (ht : t.1.den ρ ≠ 0 ↔ t.2 = true) (h : relH k y hi t = true) : y.1.den ρ + y.2 ≤ hi := by
  unfold relH at h
  split at h
  · rename_i a b v
    have hl := lt_den ht
    split at h
    · split at h
      · rename_i bb ob m h1 h2
        have e1 := exactOff_ok hk h1
        have e2 := (bnd_has hk (norm k a)).2 _ h2
        rw [norm_den hk] at e1 e2
        simp only [Bool.and_eq_true] at h
        have g1 := E.same_eq h.1; have g2 := ile_iff.1 h.2
        rw [g1] at e1
        simp only [Bool.false_eq_true, iff_false] at hl
        omega
      · cases h
    · split at h
      · rename_i ba oa m h1 h2
        have e1 := exactOff_ok hk h1
        have e2 := (bnd_has hk (norm k b)).2 _ h2
        rw [norm_den hk] at e1 e2
        simp only [Bool.and_eq_true] at h
        have g1 := E.same_eq h.1; have g2 := ile_iff.1 h.2
        rw [g1] at e1
        simp only [iff_true] at hl
        omega
      · cases h
  · cases h
def relHi (k : Known) (e : E) (hi : Int) : Bool := match exactOff k (norm k e) with
  | some y => k.tr.any (relH k y hi)
  | none => false
theorem relHi_ok {ρ : Env} {k : Known} (hk : Known.holds ρ k) {e : E} {hi : Int} (h : relHi k e hi = true) : e.den ρ ≤ hi := by
  unfold relHi at h
  split at h
  · rename_i y h1
    have e1 := exactOff_ok hk (show exactOff k (norm k e) = some (y.1, y.2) from h1)
    rw [norm_den hk] at e1
    obtain ⟨t, ht, hr⟩ := List.any_eq_true.1 h
    have := relH_ok hk (hk.tr t ht) hr
    omega
  · cases h
/-- Bounds, the upper one from a comparison. -/
def bdOkR (k : Known) (e : E) (r : Bd) : Bool := match bdOk k e r with
  | true => true
  | false => (match r with
    | (lo, some hi) => bdOk k e (lo, none) && relHi k e hi
    | _ => false)
theorem bdOkR_ok {ρ : Env} {k : Known} (hk : Known.holds ρ k) {e : E} {r : Bd} (h : bdOkR k e r = true) : r.has (e.den ρ) := by
  unfold bdOkR at h
  split at h
  · rename_i h1; exact bdOk_ok hk h1
  · split at h
    · rename_i lo hi
      simp only [Bool.and_eq_true] at h
      have h1 := bdOk_ok hk h.1
      have h2 := relHi_ok hk h.2
      exact ⟨fun m hm => h1.1 m hm, fun m hm => by cases hm; exact h2⟩
    · cases h
/-- A comparison from another one. -/
def ltOk (k : Known) (v : Bool) : E → Bool
  | .bin .lt x y => (match v with | false => relLe k 0 y x | true => relLe k 1 x y)
  | _ => false
theorem ltOk_ok {ρ : Env} {k : Known} (hk : Known.holds ρ k) {v : Bool} {e : E} (h : ltOk k v e = true) : e.den ρ ≠ 0 ↔ v = true := by
  unfold ltOk at h
  split at h
  · rename_i x y
    refine lt_iff.2 ?_
    cases v
    · have := relLe_ok hk h
      constructor
      · intro hh; omega
      · intro hh; cases hh
    · have := relLe_ok hk h
      constructor
      · intro; rfl
      · intro; omega
  · cases h
def factOk (k : Known) (a b : Asg) : Fact → Bool
  | .tr e v => match e.flatT with | true => (match dec k (e.sb a b) with | some c => eqB01 v c | none => ltOk k v (e.sb a b)) | false => false
  | .rng e r => e.flatT && bdOkR k (e.sb a b) r
  | .rep _ _ => false
  | .sem _ _ _ _ => false
theorem factOk_ok {ρ : Env} {k : Known} (hk : Known.holds ρ k) {a b : Asg} {g : Fact} (h : factOk k a b g = true) : Fact.holds (ρ.puts a b) g := by
  cases g with
  | tr e v =>
    simp only [factOk] at h
    split at h
    · rename_i hf
      split at h
      · rename_i c hc
        have := dec_sound hk hc
        rw [sb_den ρ a b e hf] at this
        rw [eqB01_eq h]
        exact this
      · have := ltOk_ok hk h
        rw [sb_den ρ a b e hf] at this
        exact this
    · cases h
  | rng e r =>
    simp only [factOk, Bool.and_eq_true] at h
    have := bdOkR_ok hk h.2
    rw [sb_den ρ a b e h.1] at this
    exact this
  | rep i j => cases h
  | sem n P ts es => cases h
def factsOk (k : Known) (a b : Asg) : List Fact → Bool
  | [] => true
  | g :: r => match factOk k a b g with | true => factsOk k a b r | false => false
theorem factsOk_ok {ρ : Env} {k : Known} (hk : Known.holds ρ k) {a b : Asg} : ∀ {l : List Fact}, factsOk k a b l = true → ∀ g ∈ l, Fact.holds (ρ.puts a b) g
  | [], _, g, hg => by cases hg
  | x :: r, h, g, hg => by
    unfold factsOk at h
    split at h
    · rename_i hx
      rcases List.mem_cons.1 hg with rfl | hg
      · exact factOk_ok hk hx
      · exact factsOk_ok hk h g hg
    · cases h
/-- Counts: one that stays; one that goes up by one, and had not come to its end. -/
def cntOk1 (k : Known) (a : Asg) (c : Nat) : Option Int → Bool
  | none => (match asgGet a c with | none => true | some e => sameK k e (.var c))
  | some B => match asgGet a c with
    | some e => sameK k e (.bin (.add .i64) (.var c) (.lit (.ofNat 1))) && (bdOkR k (.var c) (some (.negSucc 9223372036854775807), some (B - 1)) && ile B (.ofNat 9223372036854775807))
    | none => false
def cntOk (k : Known) (a : Asg) : List (Nat × Option Int) → Bool
  | [] => true
  | (c, B) :: r => match cntOk1 k a c B with | true => cntOk k a r | false => false
theorem cntOk1_ok {ρ : Env} {k : Known} (hk : Known.holds ρ k) {a b : Asg} {c : Nat} {B : Option Int} (h : cntOk1 k a c B = true) : cntLt1 ρ (ρ.puts a b) c B := by
  cases B with
  | none =>
    simp only [cntOk1] at h
    simp only [cntLt1, Env.puts]
    cases hg : asgGet a c with
    | none => rfl
    | some e =>
      rw [hg] at h
      have := sameK_ok hk h
      simpa [E.den] using this
  | some B =>
    simp only [cntOk1] at h
    cases hg : asgGet a c with
    | none => rw [hg] at h; cases h
    | some e =>
      rw [hg] at h
      simp only [Bool.and_eq_true] at h
      have h1 := sameK_ok hk h.1
      have h2 := bdOkR_ok hk h.2.1
      have h3 : B ≤ 9223372036854775807 := ile_le h.2.2
      have hlo : (-9223372036854775808 : Int) ≤ ρ.v c := h2.1 _ rfl
      have hhi : ρ.v c ≤ B - 1 := h2.2 _ rfl
      simp only [E.den, BO.den] at h1
      have h4 := h1.trans (wrap_i64 (z := ρ.v c + 1) (by omega))
      simp only [cntLt1, Env.puts, hg, h4]
      omega
theorem cntOk_ok {ρ : Env} {k : Known} (hk : Known.holds ρ k) {a b : Asg} : ∀ {l : List (Nat × Option Int)}, cntOk k a l = true → cntLt ρ (ρ.puts a b) l
  | [], _, p, hp => by cases hp
  | (c, B) :: r, h, p, hp => by
    simp only [cntOk] at h
    split at h
    · rename_i h1
      rcases List.mem_cons.1 hp with rfl | hp
      · exact cntOk1_ok hk h1
      · exact cntOk_ok hk h p hp
    · cases h
/-- A table without what was written behind row n. -/
def stripR (k : Known) (n : E) : E → E
  | .upd t i j v => (match relLe k 0 n i with | true => stripR k n t | false => .upd (stripR k n t) i j v)
  | .app 6 (.app 2 a b) m => (match relLe k 0 n m with | true => stripR k n a | false => .app 6 (.app 2 a b) m)
  | .app 3 (.app 2 a b) m => (match relLe k 0 n m with | true => stripR k n a | false => .app 3 (.app 2 a b) m)
  | .app 16 (.app 2 a _) _ => .app 16 (.app 2 (stripR k n a) (.tv 0)) (.lit (.ofNat 0))
  | e => e
theorem ordS_congr {t t' : Int → Nat → Int} {n : Int} (h : ∀ x, x < n → ∀ j, t x j = t' x j) : ∀ i : Nat, (i : Int) < n → ordS t i = ordS t' i
  | 0, _ => rfl
  | i + 1, hi => by
    have h1 := ordS_congr h i (by omega)
    have h2 := h i (by omega)
    have h3 := h ((i : Int) + 1) (by omega)
    simp only [ordS, h1, waitS, h2, h3]
theorem stripR_ok {ρ : Env} {k : Known} (hk : Known.holds ρ k) {n : E} (e : E) : ∀ {x : Int}, x < n.den ρ → ∀ jj : Nat, (stripR k n e).tden ρ x jj = e.tden ρ x jj := by
  fun_induction stripR k n e with
  | case1 t i j v h ih =>
    intro x hx jj
    have := relLe_ok hk h
    rw [ih hx]
    simp only [E.tden]
    rw [if_neg (by omega)]
  | case2 t i j v h ih => intro x hx jj; simp only [E.tden, ih hx]
  | case3 a b m h ih =>
    intro x hx jj
    have := relLe_ok hk h
    rw [ih hx]
    simp only [E.tden, specT]
    rw [if_pos (by omega)]
  | case4 a b m h => intro x hx jj; rfl
  | case5 a b m h ih =>
    intro x hx jj
    have := relLe_ok hk h
    rw [ih hx]
    simp only [E.tden]
    rw [if_pos (by omega)]
  | case6 a b m h => intro x hx jj; rfl
  | case7 a b m ih =>
    intro x hx jj
    simp only [E.tden, specT]
    split
    · rcases Int.lt_or_le x 0 with h0 | h0
      · rw [Int.toNat_of_nonpos (by omega)]; rfl
      · exact ordS_congr (fun y hy j => ih hy j) x.toNat (by omega)
    · rfl
  | case8 e _ _ _ _ => intro x hx jj; rfl
def colsOk (k : Known) (x y : E) (i : Nat) : Nat → Bool
  | 0 => true
  | c + 1 => match sameK k (mkGetK k x (.lit (.ofNat i)) c) (mkGetK k y (.lit (.ofNat i)) c) with | true => colsOk k x y i c | false => false
def rowsOk (k : Known) (x y : E) (c : Nat) : Nat → Bool
  | 0 => true
  | m + 1 => match colsOk k x y m c with | true => rowsOk k x y c m | false => false
theorem colsOk_ok {ρ : Env} {k : Known} (hk : Known.holds ρ k) {x y : E} {i : Nat} : ∀ {c : Nat}, colsOk k x y i c = true → ∀ j, j < c → x.tden ρ i j = y.tden ρ i j
  | 0, _, j, hj => absurd hj (Nat.not_lt_zero _)
  | c + 1, h, j, hj => by
    simp only [colsOk] at h
    split at h
    · rename_i hs
      have := sameK_ok hk hs
      rw [mkGetK_den hk, mkGetK_den hk] at this
      rcases Nat.lt_succ_iff_lt_or_eq.1 hj with hj | rfl
      · exact colsOk_ok hk h j hj
      · exact this
    · cases h
theorem rowsOk_ok {ρ : Env} {k : Known} (hk : Known.holds ρ k) {x y : E} {c : Nat} : ∀ {m : Nat}, rowsOk k x y c m = true → ∀ i, i < m → ∀ j, j < c → x.tden ρ (i : Int) j = y.tden ρ (i : Int) j
  | 0, _, i, hi => absurd hi (Nat.not_lt_zero _)
  | m + 1, h, i, hi => by
    simp only [rowsOk] at h
    split at h
    · rename_i hs
      rcases Nat.lt_succ_iff_lt_or_eq.1 hi with hi | rfl
      · exact rowsOk_ok hk h i hi
      · exact colsOk_ok hk hs
    · cases h
/-- Tables of few rows, row by row. -/
def fewOk (k : Known) (x y n : E) (c : Nat) : Bool := match n with
  | .lit (.ofNat m) => (match Nat.ble m 16 with | true => rowsOk k x y c m | false => false)
  | _ => false
def teqOk (k : Known) (x y : E) : Option (E × Nat) → Bool
  | none => x.same y
  | some (n, c) => (match x.same y with
    | true => true
    | false => (match (stripR k n x).same (stripR k n y) with
      | true => true
      | false => fewOk k x y (norm k n) c))
def teqsOk (k : Known) (a b : Asg) : TPairs → Bool
  | [] => true
  | (e, e', n) :: r => match e'.flatB && teqOk k (normT k e) (normT k (e'.sb a b)) n with | true => teqsOk k a b r | false => false
theorem teqsOk_ok {ρ : Env} {k : Known} (hk : Known.holds ρ k) {a b : Asg} : ∀ {ps : TPairs}, teqsOk k a b ps = true → ∀ p ∈ ps, TEqP ρ (ρ.puts a b) p
  | [], _, p, h => by cases h
  | (e, e', n) :: r, h, p, hp => by
    unfold teqsOk at h
    split at h
    · rename_i hs
      simp only [Bool.and_eq_true] at hs
      rcases List.mem_cons.1 hp with rfl | hp
      · have key : e'.tden (ρ.puts a b) = (normT k (e'.sb a b)).tden ρ := by rw [(norm2_den hk _).2.1, sb_tden ρ a b e' hs.1]
        have key2 : e.tden ρ = (normT k e).tden ρ := (norm2_den hk e).2.1.symm
        have h2 := hs.2
        cases n with
        | none =>
          simp only [teqOk] at h2
          simp only [TEqP]
          rw [key, key2, E.same_eq h2]
        | some nc =>
          obtain ⟨n, c⟩ := nc
          simp only [TEqP]
          simp only [teqOk] at h2
          intro i hi j hj
          rw [key, key2]
          split at h2
          · rename_i h3; rw [E.same_eq h3]
          · split at h2
            · rename_i h3
              have := congrArg (fun t => E.tden ρ t i j) (E.same_eq h3)
              simp only [stripR_ok hk _ hi j] at this
              exact this
            · unfold fewOk at h2
              split at h2
              · rename_i m hm
                have hn := norm_den hk n
                rw [hm] at hn
                simp only [E.den, Int.ofNat_eq_natCast] at hn
                split at h2
                · exact rowsOk_ok hk h2 i (by omega) j hj
                · cases h2
              · cases h2
      · exact teqsOk_ok hk h p hp
    · cases h
/-! ### rows that are the same -/
def ckvE (d : Nat) (e : E) : E := match Nat.beq d 9 with
  | true => .un .not (.un .not e)
  | false => .un (.wrap (kof (Nat.pred d))) e
theorem ckvE_den (ρ : Env) (d : Nat) (e : E) : (ckvE d e).den ρ = ckv d (e.den ρ) := by
  unfold ckvE ckv
  split
  · rename_i h
    rw [if_pos (Nat.eq_of_beq_eq_true h)]
    simp only [E.den, UO.den]
    by_cases h0 : e.den ρ = 0 <;> simp [h0]
  · rename_i h
    rw [if_neg (Nat.ne_of_beq_eq_false h)]
    rfl
def rowK (k : Known) (t u i : E) : List Nat → Nat → Bool
  | [], _ => true
  | d :: r, j => match sameK k (ckvE d (.get t i j)) (ckvE d (.get u i j)) with | true => rowK k t u i r (j + 1) | false => false
theorem rowK_ok {ρ : Env} {k : Known} (hk : Known.holds ρ k) {t u i : E} : ∀ {ds : List Nat} {j : Nat}, rowK k t u i ds j = true → rowEq (t.tden ρ) (u.tden ρ) (i.den ρ) ds j = true
  | [], _, _ => rfl
  | d :: r, j, h => by
    simp only [rowK] at h
    split at h
    · rename_i hs
      have := sameK_ok hk hs
      rw [ckvE_den, ckvE_den] at this
      simp only [E.den] at this
      simp only [rowEq, this, decide_true, rowK_ok hk h, Bool.and_self]
    · cases h
def rowsKnown (k : Known) (f : Nat) (t u n : E) : Bool := k.tr.any fun p => match p with
  | (.app f' (.app 2 t' u') m, true) => Nat.beq f f' && (t.same t' && (u.same u' && leK k n m))
  | _ => false
theorem eqRowsK_le {ds : List Nat} {t u : Int → Nat → Int} {n m : Int} (h : n ≤ m) (hm : eqRowsK ds t u m = true) : eqRowsK ds t u n = true := by
  unfold eqRowsK at hm ⊢
  rw [List.all_eq_true] at hm ⊢
  exact fun i hi => hm i (List.mem_range.2 (by have := List.mem_range.1 hi; omega))
theorem eqRowsK_succ {ds : List Nat} {t u : Int → Nat → Int} {n : Int} (h0 : 0 ≤ n) (h : eqRowsK ds t u n = true) (hr : rowEq t u n ds 0 = true) : eqRowsK ds t u (n + 1) = true := by
  unfold eqRowsK at h ⊢
  rw [List.all_eq_true] at h ⊢
  intro i hi
  have := List.mem_range.1 hi
  by_cases hin : i < n.toNat
  · exact h i (List.mem_range.2 hin)
  · have : (i : Int) = n := by omega
    rw [this]; exact hr
theorem app64_den {ρ : Env} {f : Nat} {t u n : E} (h : Nat.ble 64 f = true) : (E.app f (.app 2 t u) n).den ρ = b01 (eqRowsK (digs 60 (f - 64)) (t.tden ρ) (u.tden ρ) (n.den ρ)) := by
  have hne : f ≠ 1 := by rintro rfl; cases h
  simp only [E.den, specN, h, E.tden, E.t2den]
theorem b01_ne {b : Bool} : b01 b ≠ 0 ↔ b = true := by cases b <;> simp [b01]
theorem rowsKnown_ok {ρ : Env} {k : Known} (hk : Known.holds ρ k) {f : Nat} (h64 : Nat.ble 64 f = true) {t u n : E} (h : rowsKnown k f t u n = true) : eqRowsK (digs 60 (f - 64)) (t.tden ρ) (u.tden ρ) (n.den ρ) = true := by
  unfold rowsKnown at h
  obtain ⟨p, hp, hx⟩ := List.any_eq_true.1 h
  have ht := hk.tr p hp
  split at hx
  · rename_i f' t' u' m
    simp only [Bool.and_eq_true] at hx
    have e1 := Nat.eq_of_beq_eq_true hx.1
    have e2 := E.same_eq hx.2.1
    have e3 := E.same_eq hx.2.2.1
    have e4 := leK_ok hk hx.2.2.2
    subst e1; subst e2; subst e3
    simp only [app64_den h64, b01_ne, iff_true] at ht
    exact eqRowsK_le e4 ht
  · cases hx
/-- Are the rows of two tables known to be the same? -/
def rowsTrue (k : Known) (e : E) : Bool := match e with
  | .app f (.app 2 t u) n => (match Nat.ble 64 f with
    | true => (match rowsKnown k f t u n with
      | true => true
      | false => (match exactOff k n with
        | some (m, a) => ieq a 1 && (geZ k m && (rowsKnown k f t u m && rowK k t u m (digs 60 (f - 64)) 0))
        | none => false))
    | false => false)
  | _ => false
theorem rowsTrue_ok {ρ : Env} {k : Known} (hk : Known.holds ρ k) {e : E} (h : rowsTrue k e = true) : e.den ρ = 1 := by
  unfold rowsTrue at h
  split at h
  · rename_i f t u n
    split at h
    · rename_i h64
      have key : eqRowsK (digs 60 (f - 64)) (t.tden ρ) (u.tden ρ) (n.den ρ) = true := by
        split at h
        · rename_i h1; exact rowsKnown_ok hk h64 h1
        · split at h
          · rename_i m a hm
            simp only [Bool.and_eq_true] at h
            have e1 := exactOff_ok hk hm
            have e2 := ieq_eq h.1
            rw [e1, e2]
            exact eqRowsK_succ (geZ_ok hk h.2.1) (rowsKnown_ok hk h64 h.2.2.1) (rowK_ok hk h.2.2.2)
          · cases h
      rw [app64_den h64, key]
      rfl
    · cases h
  · cases h
/-- A row held against another, column by column: do the rows' kinds say so too? -/
def eqCol (ds : List Nat) (t u i : E) : E → Bool
  | .bin .eq (.un (.wrap q) (.get t' i' j)) (.un (.wrap q') (.get u' i'' j')) => keq q q' && (Nat.beq j j' && (t.same t' && (u.same u' && (i.same i' && (i.same i'' && (match ds[j]? with | some d => Nat.beq d (kcode q + 1) | none => false))))))
  | .bin .beq (.un .not (.un .not (.get t' i' j))) (.un .not (.un .not (.get u' i'' j'))) => Nat.beq j j' && (t.same t' && (u.same u' && (i.same i' && (i.same i'' && (match ds[j]? with | some d => Nat.beq d 9 | none => false)))))
  | _ => false
def rowTest (ds : List Nat) (t u i : E) : E → Bool
  | .ite c r (.lit n) => ieq n 0 && (eqCol ds t u i c && rowTest ds t u i r)
  | .lit n => !ieq n 0
  | c => eqCol ds t u i c
theorem rowEq_get {t u : Int → Nat → Int} {i : Int} : ∀ {ds : List Nat} {j0 : Nat}, rowEq t u i ds j0 = true → ∀ (j d : Nat), ds[j]? = some d → ckv d (t i (j0 + j)) = ckv d (u i (j0 + j))
  | [], _, _, j, d, hd => by simp at hd
  | d0 :: r, j0, h, j, d, hd => by
    simp only [rowEq, Bool.and_eq_true, decide_eq_true_eq] at h
    cases j with
    | zero => simp only [List.getElem?_cons_zero, Option.some.injEq] at hd; subst hd; exact h.1
    | succ j =>
      simp only [List.getElem?_cons_succ] at hd
      have := rowEq_get h.2 j d hd
      rw [show j0 + (j + 1) = j0 + 1 + j by omega]
      exact this
theorem eqCol_ok {ρ : Env} {ds : List Nat} {t u i : E} {c : E} (h : eqCol ds t u i c = true) (hr : rowEq (t.tden ρ) (u.tden ρ) (i.den ρ) ds 0 = true) : c.den ρ ≠ 0 := by
  unfold eqCol at h
  split at h
  · rename_i q t' i' j q' u' i'' j'
    simp only [Bool.and_eq_true] at h
    obtain ⟨h1, h2, h3, h4, h5, h6, h7⟩ := h
    have h1 := keq_eq h1
    have h2 := Nat.eq_of_beq_eq_true h2
    have h3 := E.same_eq h3; have h4 := E.same_eq h4; have h5 := E.same_eq h5; have h6 := E.same_eq h6
    subst h1; subst h2; subst h3; subst h4; subst h5; subst h6
    split at h7
    · rename_i d hd
      have h7 := Nat.eq_of_beq_eq_true h7
      subst h7
      have := rowEq_get hr j _ hd
      simp only [Nat.zero_add] at this
      have hck : ∀ x, ckv (kcode q + 1) x = q.wrap x := fun x => by
        unfold ckv
        rw [if_neg (by cases q <;> decide), Nat.add_sub_cancel, kof_kcode]
      rw [hck, hck] at this
      simp only [E.den, UO.den, BO.den, this, if_true]
      omega
    · cases h7
  · rename_i t' i' j u' i'' j'
    simp only [Bool.and_eq_true] at h
    obtain ⟨h2, h3, h4, h5, h6, h7⟩ := h
    have h2 := Nat.eq_of_beq_eq_true h2
    have h3 := E.same_eq h3; have h4 := E.same_eq h4; have h5 := E.same_eq h5; have h6 := E.same_eq h6
    subst h2; subst h3; subst h4; subst h5; subst h6
    split at h7
    · rename_i d hd
      have h7 := Nat.eq_of_beq_eq_true h7
      subst h7
      have := rowEq_get hr j _ hd
      simp only [Nat.zero_add] at this
      unfold ckv at this
      simp only [if_true] at this
      simp only [E.den, UO.den, BO.den]
      by_cases a0 : t.tden ρ (i.den ρ) j = 0 <;> by_cases b0 : u.tden ρ (i.den ρ) j = 0 <;> simp [a0, b0] at this ⊢
    · cases h7
  · cases h
theorem rowTest_ok {ρ : Env} {ds : List Nat} {t u i : E} (hr : rowEq (t.tden ρ) (u.tden ρ) (i.den ρ) ds 0 = true) : ∀ {c : E}, rowTest ds t u i c = true → c.den ρ ≠ 0 := by
  intro c h
  fun_induction rowTest ds t u i c with
  | case1 c r n ih =>
    simp only [Bool.and_eq_true] at h
    simp only [E.den]
    rw [if_neg (eqCol_ok h.2.1 hr)]
    exact ih h.2.2
  | case2 n =>
    simp only [E.den]
    exact ieq_ne (by simpa using h)
  | case3 c _ _ => exact eqCol_ok h hr
/-- The row that a test is about. -/
def rowOf : E → Option E
  | .ite c _ _ => rowOf c
  | .bin .eq (.un _ (.get _ i _)) _ => some i
  | .bin .beq (.un .not (.un .not (.get _ i _))) _ => some i
  | _ => none
def rowsFalse (k : Known) (e : E) : Bool := match e with
  | .app f (.app 2 t u) n => (match Nat.ble 64 f with
    | true => k.tr.any fun p => match p with
      | (c, false) => (match rowOf c with
        | some i => rowTest (digs 60 (f - 64)) t u i c && (geZ k i && relLe0 k 1 i n)
        | none => false)
      | _ => false
    | false => false)
  | _ => false
theorem rowsFalse_ok {ρ : Env} {k : Known} (hk : Known.holds ρ k) {e : E} (h : rowsFalse k e = true) : e.den ρ = 0 := by
  unfold rowsFalse at h
  split at h
  · rename_i f t u n
    split at h
    · rename_i h64
      obtain ⟨p, hp, hx⟩ := List.any_eq_true.1 h
      have ht := hk.tr p hp
      split at hx
      · rename_i c
        split at hx
        · rename_i i hi
          simp only [Bool.and_eq_true] at hx
          have h1 := geZ_ok hk hx.2.1
          have h2 := relLe0_ok hk hx.2.2
          rw [app64_den h64]
          cases hb : eqRowsK (digs 60 (f - 64)) (t.tden ρ) (u.tden ρ) (n.den ρ) with
          | false => rfl
          | true =>
            unfold eqRowsK at hb
            rw [List.all_eq_true] at hb
            have h3 := hb (i.den ρ).toNat (List.mem_range.2 (by omega))
            rw [show (((i.den ρ).toNat : Nat) : Int) = i.den ρ by omega] at h3
            have := rowTest_ok h3 hx.1
            exact absurd (ht.1 this) Bool.false_ne_true
        · cases hx
      · cases hx
    · cases h
  · cases h
/-- Sameness, rows among it. -/
def sameX1 (k : Known) (x y : E) : Bool := match x with
  | .lit n => (match ieq n 1 with | true => rowsTrue k y | false => ieq n 0 && rowsFalse k y)
  | x => (match y with
    | .lit n => (match ieq n 1 with | true => rowsTrue k x | false => ieq n 0 && rowsFalse k x)
    | _ => false)
theorem sameX1_ok {ρ : Env} {k : Known} (hk : Known.holds ρ k) {x y : E} (h : sameX1 k x y = true) : x.den ρ = y.den ρ := by
  unfold sameX1 at h
  split at h
  · rename_i n
    split at h
    · rename_i hn
      rw [rowsTrue_ok hk h]
      simp only [E.den]; exact ieq_eq hn
    · simp only [Bool.and_eq_true] at h
      rw [rowsFalse_ok hk h.2]
      simp only [E.den]; exact ieq_eq h.1
  · split at h
    · rename_i n
      split at h
      · rename_i hn
        rw [rowsTrue_ok hk h]
        simp only [E.den]; exact (ieq_eq hn).symm
      · simp only [Bool.and_eq_true] at h
        rw [rowsFalse_ok hk h.2]
        simp only [E.den]; exact (ieq_eq h.1).symm
    · cases h
def sameX (k : Known) (x y : E) : Bool := match sameK k x y with
  | true => true
  | false => sameX1 k (norm k x) (norm k y)
theorem sameX_ok {ρ : Env} {k : Known} (hk : Known.holds ρ k) {x y : E} (h : sameX k x y = true) : x.den ρ = y.den ρ := by
  unfold sameX at h
  split at h
  · rename_i h1; exact sameK_ok hk h1
  · have := sameX1_ok hk h
    rwa [norm_den hk, norm_den hk] at this
def eqsR (k : Known) (a b : Asg) : Pairs → List Rsd
  | [] => []
  | (e, e') :: r => match e'.flatT with
    | true => (match sameX k e (e'.sb a b) with | true => eqsR k a b r | false => .eqn (norm k e) (norm k (e'.sb a b)) :: eqsR k a b r)
    | false => .bad :: eqsR k a b r
theorem eqsR_ok {ρ : Env} {k : Known} (hk : Known.holds ρ k) {a b : Asg} : ∀ {ps : Pairs}, (∀ r ∈ eqsR k a b ps, r.holds ρ) → ∀ p ∈ ps, p.1.den ρ = p.2.den (ρ.puts a b)
  | [], _, p, hp => by cases hp
  | (e, e') :: r, h, p, hp => by
    simp only [eqsR] at h
    split at h
    · rename_i hf
      split at h
      · rename_i hs
        rcases List.mem_cons.1 hp with rfl | hp
        · exact (sameX_ok hk hs).trans (sb_den ρ a b e' hf)
        · exact eqsR_ok hk h p hp
      · rcases List.mem_cons.1 hp with rfl | hp
        · have := h _ (List.mem_cons_self ..)
          simp only [Rsd.holds, norm_den hk] at this
          exact this.trans (sb_den ρ a b e' hf)
        · exact eqsR_ok hk (fun r hr => h r (List.mem_cons_of_mem _ hr)) p hp
    · exact (h _ (List.mem_cons_self ..)).elim
def teqsR (k : Known) (a b : Asg) : TPairs → List Rsd
  | [] => []
  | (e, e', n) :: r => match e'.flatB with
    | true => (match teqOk k (normT k e) (normT k (e'.sb a b)) n with | true => teqsR k a b r | false => .teq (normT k e) (normT k (e'.sb a b)) n :: teqsR k a b r)
    | false => .bad :: teqsR k a b r
theorem teqsR_ok {ρ : Env} {k : Known} (hk : Known.holds ρ k) {a b : Asg} : ∀ {ps : TPairs}, (∀ r ∈ teqsR k a b ps, r.holds ρ) → ∀ p ∈ ps, TEqP ρ (ρ.puts a b) p
  | [], _, p, hp => by cases hp
  | (e, e', n) :: r, h, p, hp => by
    simp only [teqsR] at h
    split at h
    · rename_i hf
      split at h
      · rename_i hs
        rcases List.mem_cons.1 hp with rfl | hp
        · exact teqsOk_ok hk (ps := [(e, e', n)]) (by simp only [teqsOk, hf, hs, Bool.and_self]) _ (List.mem_cons_self ..)
        · exact teqsR_ok hk h p hp
      · rcases List.mem_cons.1 hp with rfl | hp
        · have := h _ (List.mem_cons_self ..)
          simp only [Rsd.holds, TEqP, (norm2_den hk _).2.1, sb_tden ρ a b e' hf] at this ⊢
          exact this
        · exact teqsR_ok hk (fun r hr => h r (List.mem_cons_of_mem _ hr)) p hp
    · exact (h _ (List.mem_cons_self ..)).elim
def factR (k : Known) (a b : Asg) : Fact → List Rsd
  | .tr e v => (match factOk k a b (.tr e v) with | true => [] | false => (match e.flatT with | true => (match v && rowsTrue k (norm k (e.sb a b)) with | true => [] | false => [.fact (.tr (norm k (e.sb a b)) v)]) | false => [.bad]))
  | .rng e r => (match factOk k a b (.rng e r) with | true => [] | false => (match e.flatT with | true => [.fact (.rng (norm k (e.sb a b)) r)] | false => [.bad]))
  | .rep _ _ => [.bad]
  | .sem n P ts es => (match ts.all E.flatB && es.all E.flatT with | true => [.fact (.sem n P (ts.map fun e => normT k (e.sb a b)) (es.map fun e => norm k (e.sb a b)))] | false => [.bad])
theorem factR_ok {ρ : Env} {k : Known} (hk : Known.holds ρ k) {a b : Asg} {g : Fact} (h : ∀ r ∈ factR k a b g, r.holds ρ) : Fact.holds (ρ.puts a b) g := by
  cases g with
  | tr e v =>
    simp only [factR] at h
    split at h
    · rename_i h1; exact factOk_ok hk h1
    · split at h
      · rename_i hf
        split at h
        · rename_i hv
          simp only [Bool.and_eq_true] at hv
          have := rowsTrue_ok hk hv.2
          rw [norm_den hk, sb_den ρ a b e hf] at this
          simp only [Fact.holds, this, hv.1, iff_true]
          omega
        · have := h _ (List.mem_cons_self ..)
          simp only [Rsd.holds, Fact.holds, norm_den hk, sb_den ρ a b e hf] at this ⊢
          exact this
      · exact (h _ (List.mem_cons_self ..)).elim
  | rng e r =>
    simp only [factR] at h
    split at h
    · rename_i h1; exact factOk_ok hk h1
    · split at h
      · rename_i hf
        have := h _ (List.mem_cons_self ..)
        simp only [Rsd.holds, Fact.holds, norm_den hk, sb_den ρ a b e hf] at this ⊢
        exact this
      · exact (h _ (List.mem_cons_self ..)).elim
  | rep i j => exact (h _ (List.mem_cons_self ..)).elim
  | sem n P ts es =>
    simp only [factR] at h
    split at h
    · rename_i hf
      simp only [Bool.and_eq_true, List.all_eq_true] at hf
      have := h _ (List.mem_cons_self ..)
      simp only [Rsd.holds, Fact.holds, List.map_map] at this ⊢
      have h1 : ts.map ((fun e => e.tden ρ) ∘ fun e => normT k (e.sb a b)) = ts.map fun e => e.tden (ρ.puts a b) := List.map_congr_left fun e he => by
        show (normT k (e.sb a b)).tden ρ = _
        rw [(norm2_den hk _).2.1, sb_tden ρ a b e (hf.1 e he)]
      have h2 : es.map ((fun e => e.den ρ) ∘ fun e => norm k (e.sb a b)) = es.map fun e => e.den (ρ.puts a b) := List.map_congr_left fun e he => by
        simp only [Function.comp_apply, norm_den hk, sb_den ρ a b e (hf.2 e he)]
      rw [← h1, ← h2]
      exact this
    · exact (h _ (List.mem_cons_self ..)).elim
def factsR (k : Known) (a b : Asg) : List Fact → List Rsd
  | [] => []
  | g :: r => factR k a b g ++ factsR k a b r
theorem factsR_ok {ρ : Env} {k : Known} (hk : Known.holds ρ k) {a b : Asg} : ∀ {l : List Fact}, (∀ r ∈ factsR k a b l, r.holds ρ) → ∀ g ∈ l, Fact.holds (ρ.puts a b) g
  | [], _, g, hg => by cases hg
  | f :: r, h, g, hg => by
    simp only [factsR] at h
    rcases List.mem_cons.1 hg with rfl | hg
    · exact factR_ok hk fun x hx => h x (List.mem_append_left _ hx)
    · exact factsR_ok hk (fun x hx => h x (List.mem_append_right _ hx)) g hg
def cntR (k : Known) (a : Asg) (l : List (Nat × Option Int)) : List Rsd := match cntOk k a l with | true => [] | false => [.bad]
def solved (k : Known) (g : Tgt) (F : List Fact) (ps : Pairs) (ts : TPairs) : List Rsd :=
  match asgOf ps [], tasgOf ts [] with
  | a, b => eqsR k a b ps ++ (teqsR k a b ts ++ (factsR k a b F ++ cntR k a g.c))
theorem asgOf_high : ∀ {ps : Pairs} {a : Asg}, (∀ i, i < 100 → asgGet a i = none) → ∀ i, i < 100 → asgGet (asgOf ps a) i = none
  | [], a, h, i, hi => h i hi
  | (e, e') :: r, a, h, i, hi => by
    unfold asgOf
    split
    · rename_i h2; cases h2
    · rename_i e2 j r2 heq
      cases heq
      split
      · rename_i hj
        rw [E.deepK_eq]
        simp only [Bool.and_eq_true] at hj
        have := Nat.le_of_ble_eq_true hj.1
        refine asgOf_high (fun m hm => ?_) i hi
        simp only [asgGet]
        split
        · rename_i hb
          have := Nat.eq_of_beq_eq_true hb
          omega
        · exact h m hm
      · exact asgOf_high h i hi
    · rename_i heq
      cases heq
      exact asgOf_high h i hi
theorem tasgOf_high : ∀ {ps : TPairs} {a : Asg}, (∀ i, i < 100 → asgGet a i = none) → ∀ i, i < 100 → asgGet (tasgOf ps a) i = none
  | [], a, h, i, hi => h i hi
  | (e, e', n) :: r, a, h, i, hi => by
    unfold tasgOf
    split
    · rename_i h2; cases h2
    · rename_i e2 j n2 r2 heq
      cases heq
      split
      · rename_i hj
        rw [E.deepK_eq]
        simp only [Bool.and_eq_true] at hj
        have := Nat.le_of_ble_eq_true hj.1
        refine tasgOf_high (fun m hm => ?_) i hi
        simp only [asgGet]
        split
        · rename_i hb
          have := Nat.eq_of_beq_eq_true hb
          omega
        · exact h m hm
      · exact tasgOf_high h i hi
    · rename_i heq
      cases heq
      exact tasgOf_high h i hi
theorem puts_fix (ρ : Env) (ps : Pairs) (ts : TPairs) : Fix ρ (ρ.puts (asgOf ps []) (tasgOf ts [])) := fun i hi => by
  have h1 := asgOf_high (ps := ps) (a := []) (fun _ _ => rfl) i hi
  have h2 := tasgOf_high (ps := ts) (a := []) (fun _ _ => rfl) i hi
  simp only [Env.puts, h1, h2, and_self]
theorem solved_ok {ρ : Env} {k : Known} (hk : Known.holds ρ k) {g : Tgt} {F : List Fact} {ps : Pairs} {ts : TPairs} (h : ∀ r ∈ solved k g F ps ts, r.holds ρ) : ∃ ρ', Eqs ρ ρ' ps ts ∧ g.ok ρ F ρ' := by
  simp only [solved] at h
  have h4 : cntOk k (asgOf ps []) g.c = true := by
    have := fun r hr => h r (List.mem_append_right _ (List.mem_append_right _ (List.mem_append_right _ hr)))
    unfold cntR at this
    split at this
    · assumption
    · exact (this _ (List.mem_cons_self ..)).elim
  exact ⟨_, ⟨eqsR_ok hk fun r hr => h r (List.mem_append_left _ hr), teqsR_ok hk fun r hr => h r (List.mem_append_right _ (List.mem_append_left _ hr))⟩, puts_fix ρ ps ts,
    factsR_ok hk fun r hr => h r (List.mem_append_right _ (List.mem_append_right _ (List.mem_append_left _ hr))), cntOk_ok hk h4⟩
def settled (k : Known) (N : Option Tgt) (X : List (Nat × Tgt)) : What → List Rsd
  | .next F ps ts => (match N with | some g => solved k g F ps ts | none => [.bad])
  | .out i F ps ts => (match tgtOf X i with | some g => solved k g F ps ts | none => [.bad])
  | .done e => (match isT (dec k e) with | true => [] | false => [.done (norm k e)])
  | .fin ps ts => eqsR k [] [] ps ++ teqsR k [] [] ts
/-- How a run is made: types, functions, hints, fuel; the function, and what it should hand back. -/
structure Rn where
  ty : Tys
  fm : FuncId → Option Func
  hn : Hn
  n : Nat
  fn : Func
  R : Option Res
def lftOf (k : Known) : List Rsd → List Lft → List Lft
  | [], os => os
  | r :: rs, os => (k.tr, r :: rs) :: os
def obsB (x : Rn) (N : Option Tgt) (X : List (Nat × Tgt)) : Outs → Option (List Lft)
  | [] => some []
  | (k, y, s) :: r => match whatOf k x.ty x.fn x.R N X y s, obsB x N X r with
    | some o, some os => some (lftOf k (settled k N X o) os)
    | _, _ => none
def runBk (x : Rn) (l : List Code) (k : Known) (s : S) (N : Option Tgt) (X : List (Nat × Tgt)) : Option (List Lft) :=
  match execL (mkCfgM x.ty x.fm x.hn) x.n x.fn.ntmps l k s with
    | some outs => obsB x N X outs
    | none => none
/-- On a path of tests. -/
def runBP (x : Rn) (l : List Code) (facts : List Fact) (s : S) (N : Option Tgt) (X : List (Nat × Tgt)) (path : List (E × Bool)) : Option (List Lft) :=
  Known.addsK Known.nil facts fun k => assumesK k path fun k => runBk x l k s N X
theorem lftOf_ok {k : Known} {rs : List Rsd} {os : List Lft} : (∀ ob ∈ os, ob ∈ lftOf k rs os) ∧ (rs = [] ∨ (k.tr, rs) ∈ lftOf k rs os) := by
  cases rs with
  | nil => exact ⟨fun _ h => h, .inl rfl⟩
  | cons r rs => exact ⟨fun _ h => List.mem_cons_of_mem _ h, .inr (List.mem_cons_self ..)⟩
theorem obsB_ok {x : Rn} {N : Option Tgt} {X : List (Nat × Tgt)} : ∀ {outs : Outs} {obs : List Lft}, obsB x N X outs = some obs → ∀ o ∈ outs,
    ∃ wh, whatOf o.1 x.ty x.fn x.R N X o.2.1 o.2.2 = some wh ∧ ∀ ρ, Known.holds ρ o.1 → ObsOk ρ obs → ∀ r ∈ settled o.1 N X wh, r.holds ρ
  | [], obs, h, o, ho => by cases ho
  | (k, y, s) :: r, obs, h, o, ho => by
    simp only [obsB] at h
    split at h
    · rename_i wh os hw hos
      have ih := obsB_ok hos
      cases h
      have hl := lftOf_ok (k := k) (rs := settled k N X wh) (os := os)
      rcases List.mem_cons.1 ho with rfl | ho
      · refine ⟨wh, hw, fun ρ hk hob r hr => ?_⟩
        rcases hl.2 with h0 | h0
        · simp only at hr
          rw [h0] at hr
          cases hr
        · exact hob _ h0 hk.tr r hr
      · obtain ⟨wh', h1, h2⟩ := ih o ho
        exact ⟨wh', h1, fun ρ hk hob => h2 ρ hk fun ob hm => hob ob (hl.1 ob hm)⟩
    · cases h
def GoodP (x : Rn) (l : List Code) (facts : List Fact) (s : S) (N : Option Tgt) (X : List (Nat × Tgt)) (p : List (E × Bool)) : Prop :=
  ∃ obs, runBP x l facts s N X p = some obs ∧ ∀ ρ, (∀ g ∈ facts, Fact.holds ρ g) → ObsOk ρ obs
def GoodT (x : Rn) (l : List Code) (facts : List Fact) (s : S) (N : Option Tgt) (X : List (Nat × Tgt)) (t : DT) : Prop :=
  ∀ p ∈ t.paths, GoodP x l facts s N X p
/-- A part that has come to where it should. -/
def Meets (C : Ctx) (nt : Nat) (ρ : Env) (g : Tgt) (a : Act) (w : World) : Prop := ∃ ρ' β' t F, (t, F) ∈ (g.t, g.F) :: g.m ∧ g.ok ρ F ρ' ∧ TS C ρ' β' nt t.toS a w
def Post (P : Program) (x : Rn) (C : Ctx) (ρ : Env) (N : Option Tgt) (X : List (Nat × Tgt)) : Exit → Act → World → Prop
  | .normal, a, w => match N with | some g => Meets C x.fn.ntmps ρ g a w | none => EndAt P x.fn C x.R .normal a w
  | .exit b, a, w => match tgtOf X b with | some g => Meets C x.fn.ntmps ρ g a w | none => False
  | .ret, a, w => EndAt P x.fn C x.R .ret a w
  | _, _, _ => False
/-- The labels that stay, stay in all templates. -/
def resOk (C : Ctx) : Option Res → Prop
  | some r => C.n0 ≤ r.n0
  | none => True
structure LabsOk (C : Ctx) (R : Option Res) (N : Option Tgt) (X : List (Nat × Tgt)) : Prop where
  n : ∀ g, N = some g → ∀ p ∈ (g.t, g.F) :: g.m, C.n0 ≤ p.1.n0
  x : ∀ i g, tgtOf X i = some g → ∀ p ∈ (g.t, g.F) :: g.m, C.n0 ≤ p.1.n0
  r : resOk C R
theorem labsOk_zero {C : Ctx} (h : C.n0 = 0) (R : Option Res) (N : Option Tgt) (X : List (Nat × Tgt)) : LabsOk C R N X :=
  ⟨fun _ _ _ _ => by rw [h]; exact Nat.zero_le _, fun _ _ _ _ _ => by rw [h]; exact Nat.zero_le _, by cases R with | none => trivial | some r => simp only [resOk, h]; exact Nat.zero_le _⟩
section
variable {P : Program} {x : Rn} (hm : P.follows .mixedOrders = true) (hty : TysOk P x.ty) (hfn : FnOk P x.fm) (hct : ∀ ρ, CallOk P ρ x.hn.ct)
include hm hty hfn hct in
theorem run_Bk {l : List Code} {k0 : Known} {s : S} {N : Option Tgt} {X : List (Nat × Tgt)} {obs : List Lft}
    (hrun : runBk x l k0 s N X = some obs) {ρ : Env} (hk : Known.holds ρ k0) {C : Ctx} (hC : LabsOk C x.R N X) {β : Lab} {a : Act} {w : World} (hs : TS C ρ β x.fn.ntmps s a w) (hob : ObsOk ρ obs) : WPs C.Δ.rd P l (Post P x C ρ N X) a w := by
  unfold runBk at hrun
  split at hrun
  · rename_i outs houts
    refine execL_TS hm hty hfn hct houts hk hs fun o ho hok β' a' w' hts => ?_
    obtain ⟨wh, hwh, hin⟩ := obsB_ok hrun o ho
    obtain ⟨k, y, s'⟩ := o
    have done : ∀ y, (y = .ret ∨ y = .normal) → endOf x.ty x.fn x.R s' = some wh → EndAt P x.fn C x.R y a' w' := by
      intro y hy he
      unfold endOf at he
      split at he
      · rename_i hR
        rw [hR]
        cases hr : retE x.ty x.fn s' with
        | none => rw [hr] at he; cases he
        | some e =>
          rw [hr] at he
          cases he
          refine ret_TS hty hts hr ?_ hy
          have hin := hin ρ hok hob
          simp only [settled] at hin
          split at hin
          · rename_i hx
            cases hd : dec k e with
            | none => rw [hd] at hx; cases hx
            | some b => rw [hd] at hx; simp only [isT] at hx; subst hx; exact (dec_sound hok hd).2 rfl
          · have := hin _ (List.mem_cons_self ..)
            simp only [Rsd.holds, norm_den hok] at this
            exact this
      · rename_i R hR
        have hCr := hC.r
        rw [hR] at hCr ⊢
        cases hr : retM x.ty x.fn s' R with
        | none => rw [hr] at he; cases he
        | some m =>
          rw [hr] at he
          cases he
          refine retM_ok hty hts hr ?_ hCr hy
          have hin := hin ρ hok hob
          simp only [settled] at hin
          exact ⟨eqsR_ok hok fun r hr => hin r (List.mem_append_left _ hr), teqsR_ok hok fun r hr => hin r (List.mem_append_right _ hr)⟩
    cases y with
    | nrm =>
      simp only [whatOf] at hwh
      cases N with
      | none => exact done _ (.inr rfl) hwh
      | some g =>
        simp only at hwh
        cases hr : pickA k s' ((g.t, g.F) :: g.m) with
        | none => rw [hr] at hwh; cases hwh
        | some Fm =>
          obtain ⟨F, ps⟩ := Fm
          rw [hr] at hwh
          cases hwh
          obtain ⟨t, htm, hr⟩ := pickA_mem hr
          have next : ∃ ρ', Eqs ρ ρ' ps.ps ps.ts ∧ g.ok ρ F ρ' := solved_ok hok (hin ρ hok hob)
          obtain ⟨ρ', h1, h2⟩ := next
          obtain ⟨β2, hts2⟩ := matchS_ok hr h1 (hts.fix.trans h2.1) (hC.n g rfl _ htm) hts
          exact ⟨ρ', β2, t, F, htm, h2, hts2⟩
    | ret => exact done _ (.inl rfl) hwh
    | ext id =>
      simp only [whatOf] at hwh
      split at hwh
      · rename_i g hg
        cases hr : pickA k s' ((g.t, g.F) :: g.m) with
        | none => rw [hr] at hwh; cases hwh
        | some Fm =>
          obtain ⟨F, ps⟩ := Fm
          rw [hr] at hwh
          cases hwh
          obtain ⟨t, htm, hr⟩ := pickA_mem hr
          have out : ∃ ρ', Eqs ρ ρ' ps.ps ps.ts ∧ g.ok ρ F ρ' := by
            have hin := hin ρ hok hob
            simp only [settled, hg] at hin
            exact solved_ok hok hin
          obtain ⟨ρ', h1, h2⟩ := out
          obtain ⟨β2, hts2⟩ := matchS_ok hr h1 (hts.fix.trans h2.1) (hC.x id g hg _ htm) hts
          show Post P x C ρ N X (.exit id) a' w'
          simp only [Post, hg]
          exact ⟨ρ', β2, t, F, htm, h2, hts2⟩
      · cases hwh
  · cases hrun
include hm hty hfn hct in
/-- By cases. -/
theorem run_T {l : List Code} {facts lem : List Fact} {s : S} {N : Option Tgt} {X : List (Nat × Tgt)} {t : DT}
    (hg : GoodT x l (facts ++ lem) s N X t) (hlem : ∀ ρ, (∀ g ∈ facts, Fact.holds ρ g) → ∀ g ∈ lem, Fact.holds ρ g) {ρ : Env} (hk : ∀ g ∈ facts, Fact.holds ρ g)
    {C : Ctx} (hC : LabsOk C x.R N X) {β : Lab} {a : Act} {w : World} (hs : TS C ρ β x.fn.ntmps s a w) : WPs C.Δ.rd P l (Post P x C ρ N X) a w := by
  obtain ⟨p, hp, hc⟩ := DT.cover ρ t
  obtain ⟨obs, hrun, hob⟩ := hg p hp
  have hall : ∀ g ∈ facts ++ lem, Fact.holds ρ g := fun g hg => by
    rcases List.mem_append.1 hg with h | h
    · exact hk g h
    · exact hlem ρ hk g h
  unfold runBP at hrun
  rw [Known.addsK_eq, assumesK_eq] at hrun
  exact run_Bk hm hty hfn hct hrun (assumes_holds (Known.adds_holds (Known.nil_holds ρ) hall) hc) hC hs (hob ρ hall)
/-- A part whose beginning is known by its template. -/
def From (P : Program) (x : Rn) (C : Ctx) (s : S) (F : List Fact) (l : List Code) (N : Option Tgt) (X : List (Nat × Tgt)) : Prop :=
  ∀ ρ β a w, (∀ g ∈ F, Fact.holds ρ g) → TS C ρ β x.fn.ntmps s a w → WPs C.Δ.rd P l (Post P x C ρ N X) a w
theorem cntLt_keep {ρ ρ' ρ'' : Env} {l : List (Nat × Option Int)} {c : List Nat} (h : cntLt ρ ρ' (c.map fun i => (i, none))) (h' : cntLt ρ' ρ'' l) (hc : ∀ p ∈ l, p.1 ∈ c) : cntLt ρ ρ'' l := by
  intro p hp
  have h1 := h' p hp
  have h2 := h (p.1, none) (List.mem_map.2 ⟨_, hc p hp, rfl⟩)
  simp only at h2
  obtain ⟨i, B⟩ := p
  cases B with
  | none => exact Eq.trans h1 h2
  | some B =>
    simp only [cntLt1] at h1 h2 ⊢
    rw [← h2]
    exact h1
/-- A part from each of a target's templates. -/
def AllF (P : Program) (x : Rn) (C : Ctx) (g : Tgt) (l : List Code) (N : Option Tgt) (X : List (Nat × Tgt)) : Prop := ∀ p ∈ (g.t, g.F) :: g.m, From P x C p.1.toS p.2 l N X
theorem AllF.one {C : Ctx} {t : Tm} {F : List Fact} {c : List (Nat × Option Int)} {l : List Code} {N : Option Tgt} {X : List (Nat × Tgt)} (h : From P x C t.toS F l N X) : AllF P x C ⟨t, F, c, []⟩ l N X := by
  intro p hp
  simp only [List.mem_singleton] at hp
  subst hp
  exact h
theorem AllF.cons {C : Ctx} {t : Tm} {F : List Fact} {q : Tm × List Fact} {m : List (Tm × List Fact)} {c : List (Nat × Option Int)} {l : List Code} {N : Option Tgt} {X : List (Nat × Tgt)} (h : From P x C t.toS F l N X) (hs : AllF P x C ⟨q.1, q.2, c, m⟩ l N X) : AllF P x C ⟨t, F, c, q :: m⟩ l N X := by
  intro p hp
  rcases List.mem_cons.1 hp with rfl | hp
  · exact h
  · exact hs p hp
/-- One part behind another; what the second counts, the first keeps. -/
theorem From.seq {C : Ctx} {s : S} {F : List Fact} {l r : List Code} {g : Tgt} {N : Option Tgt} {X : List (Nat × Tgt)} (h : From P x C s F l (some g) X) (h' : AllF P x C g r N X) {c : List Nat} (hc : g.c = c.map fun i => (i, none))
    (hN : ∀ g', N = some g' → ∀ p ∈ g'.c, p.1 ∈ c) (hX : ∀ i g', tgtOf X i = some g' → ∀ p ∈ g'.c, p.1 ∈ c) : From P x C s F (l ++ r) N X := by
  intro ρ β a w hF hs
  refine WPs.append ((h ρ β a w hF hs).mono fun e a w he => ?_)
  cases e with
  | normal =>
    obtain ⟨ρ', β', t, F', htm, hok, hts⟩ := he
    refine (h' _ htm ρ' β' a w hok.2.1 hts).mono fun e a w he => ?_
    have key : ∀ g' : Tgt, (∀ p ∈ g'.c, p.1 ∈ c) → Meets C x.fn.ntmps ρ' g' a w → Meets C x.fn.ntmps ρ g' a w := by
      rintro g' hg' ⟨ρ2, β2, t2, F2, htm2, hok2, hts2⟩
      refine ⟨ρ2, β2, t2, F2, htm2, ⟨hok.1.trans hok2.1, hok2.2.1, cntLt_keep (c := c) ?_ hok2.2.2 hg'⟩, hts2⟩
      rw [← hc]
      exact hok.2.2
    cases e with
    | normal =>
      cases N with
      | none => exact he
      | some g' => exact key g' (hN g' rfl) he
    | exit b =>
      simp only [Post] at he ⊢
      split at he
      · rename_i g' hg'
        exact key g' (hX b g' hg') he
      · exact he
    | ret => exact he
    | panic ch => exact he
    | outgrown => exact he
    | goto l => exact he
  | exit b => exact he
  | ret => exact he
  | panic ch => exact he
  | outgrown => exact he
  | goto l => exact he
/-- A loop: its body comes to its own beginning again, a count up; or out by its block's door. The doors of the body are those of the loop, and the loop's own. -/
theorem From.loop {C : Ctx} {body : Code} {b c : Nat} {B : Int} {cs : List Nat} {gE : Tgt} {X : List (Nat × Tgt)} {g g0 : Tgt} (hg0 : (g0.t, g0.F) :: g0.m = (g.t, g.F) :: g.m) (hgc : g.c = (c, some B) :: cs.map fun i => (i, none))
    (h : AllF P x C g (flat body) (some g) ((b, gE) :: X)) (hE : ∀ p ∈ gE.c, p.1 ∈ cs) (hX : ∀ i g', tgtOf X i = some g' → ∀ p ∈ g'.c, p.1 ∈ cs) : AllF P x C g0 [.block b (.loop body)] (some gE) X := by
  intro p0 hp0 ρ0 β0 a0 w0 hF0 hs0
  rw [hg0] at hp0
  show Code.wpIn (fen C.Δ.rd) 0 P (.block b (.loop body)) (Exit.then (WPs C.Δ.rd P [] (Post P x C ρ0 (some gE) X)) (Post P x C ρ0 (some gE) X)) a0 w0
  refine wpIn_mono (Q := Post P x C ρ0 (some gE) X) ?_ fun e a w he => by cases e <;> exact he
  refine wpIn_block ?_
  have lift : ∀ {ρ1 ρ2 : Env}, Fix ρ0 ρ1 → cntLt ρ0 ρ1 (cs.map fun i => (i, none)) → ∀ (g' : Tgt), (∀ p ∈ g'.c, p.1 ∈ cs) → ∀ a w, Meets C x.fn.ntmps ρ1 g' a w → Meets C x.fn.ntmps ρ0 g' a w := by
    rintro ρ1 _ hf hk g' hg' a w ⟨ρ2, β2, t2, F2, htm2, hok2, hts2⟩
    exact ⟨ρ2, β2, t2, F2, htm2, ⟨hf.trans hok2.1, hok2.2.1, cntLt_keep hk hok2.2.2 hg'⟩, hts2⟩
  have key : ∀ (d : Nat) (q : Tm × List Fact), q ∈ (g.t, g.F) :: g.m → ∀ (ρ : Env) (β : Lab) (a : Act) (w : World), (B - ρ.v c).toNat < d → (∀ f ∈ q.2, Fact.holds ρ f) → Fix ρ0 ρ → cntLt ρ0 ρ (cs.map fun i => (i, none)) → TS C ρ β x.fn.ntmps q.1.toS a w →
      Code.roundsIn (fen C.Δ.rd) 0 P body (Exit.inBlock b (Post P x C ρ0 (some gE) X)) d a w := by
    intro d
    induction d with
    | zero => intro q hq ρ β a w hd; omega
    | succ d ih =>
      intro q hq ρ β a w hd hf hfx hck hs
      rw [roundsIn_succ]
      refine WPs.flat ((h q hq ρ β a w hf hs).mono fun e a w he => ?_)
      cases e with
      | normal =>
        obtain ⟨ρ', β', t', F', htm', hok, hts⟩ := he
        have hc := hok.2.2
        rw [hgc] at hc
        have h1 := hc (c, some B) (List.mem_cons_self ..)
        simp only [cntLt1] at h1
        have h2 : cntLt ρ ρ' (cs.map fun i => (i, none)) := fun p hp => hc p (List.mem_cons_of_mem _ hp)
        exact ih _ htm' ρ' β' a w (by omega) hok.2.1 (hfx.trans hok.1) (cntLt_keep hck h2 (fun p hp => by obtain ⟨i, hi, rfl⟩ := List.mem_map.1 hp; exact hi)) hts
      | exit b' =>
        simp only [Post, tgtOf] at he
        show Exit.inBlock b _ (.exit b') a w
        simp only [Exit.inBlock]
        cases hb : Nat.beq b' b with
        | true =>
          rw [hb] at he
          have := Nat.eq_of_beq_eq_true hb
          rw [if_pos this]
          exact lift (ρ2 := ρ) hfx hck gE hE a w he
        | false =>
          rw [hb] at he
          have := Nat.ne_of_beq_eq_false hb
          rw [if_neg this]
          simp only [Post]
          simp only at he
          split at he
          · rename_i g' hg'
            exact lift (ρ2 := ρ) hfx hck g' (hX b' g' hg') a w he
          · exact he
      | ret => exact he
      | panic ch => exact he
      | outgrown => exact he
      | goto l => exact he
  exact wpIn_loop_rounds _ (key ((B - ρ0.v c).toNat + 1) p0 hp0 ρ0 β0 a0 w0 (by omega) hF0 (Fix.refl _) (fun p hp => by obtain ⟨i, hi, rfl⟩ := List.mem_map.1 hp; rfl) hs0)
/-- By a number's size. -/
theorem From.split {C : Ctx} {s : S} {F : List Fact} {l : List Code} {N : Option Tgt} {X : List (Nat × Tgt)} (i : Nat) (m : Int) (h1 : From P x C s (.rng (.var i) (none, some (m - 1)) :: F) l N X) (h2 : From P x C s (.rng (.var i) (some m, none) :: F) l N X) : From P x C s F l N X := by
  intro ρ β a w hF hs
  rcases Int.lt_or_le (ρ.v i) m with h | h
  · exact h1 ρ β a w (List.forall_mem_cons.2 ⟨⟨fun _ e => (by cases e), fun q e => (by cases e; simp only [E.den]; omega)⟩, hF⟩) hs
  · exact h2 ρ β a w (List.forall_mem_cons.2 ⟨⟨fun q e => (by cases e; simp only [E.den]; omega), fun _ e => (by cases e)⟩, hF⟩) hs
/-- A list of parts with a loop in it. -/
theorem From.cut {C : Ctx} {s : S} {F : List Fact} {l : List Code} {i b : Nat} {body : Code} (hl : l[i]? = some (.block b (.loop body))) {g gE : Tgt} {N : Option Tgt} {X : List (Nat × Tgt)} (h0 : From P x C s F (l.take i) (some g) X)
    (hL : AllF P x C g [.block b (.loop body)] (some gE) X) (h2 : AllF P x C gE (l.drop (i + 1)) N X) {c : List Nat} (hc : g.c = c.map fun i => (i, none)) (hcE : gE.c = c.map fun i => (i, none))
    (hN : ∀ g', N = some g' → ∀ p ∈ g'.c, p.1 ∈ c) (hX : ∀ i g', tgtOf X i = some g' → ∀ p ∈ g'.c, p.1 ∈ c) : From P x C s F l N X := by
  rw [cut_at hl]
  refine From.seq h0 ?_ hc hN hX
  intro p hp
  show From P x C p.1.toS p.2 ([.block b (.loop body)] ++ l.drop (i + 1)) N X
  exact From.seq (hL p hp) h2 hcE hN hX
include hm hty hfn hct in
theorem From.run {C : Ctx} {s : S} {facts lem : List Fact} {l : List Code} {N : Option Tgt} {X : List (Nat × Tgt)} {tr : DT} (hC : LabsOk C x.R N X) (hg : GoodT x l (facts ++ lem) s N X tr) (hlem : ∀ ρ, (∀ g ∈ facts, Fact.holds ρ g) → ∀ g ∈ lem, Fact.holds ρ g) :
    From P x C s facts l N X := fun ρ β a w hF hs => run_T hm hty hfn hct hg hlem hF hC hs
end
end
end Go.Sx
/-
  SX: CONTRACTS. What is shown of a function once, from a pattern on, is used wherever it is called and the pattern fits.
-/
namespace Go.Sx
set_option linter.unusedSimpArgs false
set_option linter.unusedVariables false
set_option linter.unusedSectionVars false
noncomputable section
set_option linter.unusedVariables false
set_option linter.unusedSimpArgs false
/-- A contract: the arguments, the blocks behind them, what is known; what is handed back. -/
structure Ctr where
  f : FuncId
  args : List V1
  heap : List (Nat × Ent)
  nx : Nat
  facts : List Fact
  R : Res
/-- The old blocks that may be written. -/
def Ctr.wrt (c : Ctr) (β : Lab) (k : Nat) : Prop := ∃ p ∈ c.heap, p.2.wr = true ∧ p.2.blk.hb β ∧ β.b p.1 = k
def Ctr.ctx (c : Ctr) (ρ : Env) (β : Lab) (w : World) : Ctx := ⟨w, c.wrt β, c.nx, β, ρ, ⟨[], none⟩⟩
def Ctr.ok (P : Program) (c : Ctr) : Prop := ∀ (ρ : Env) (β : Lab) (w : World), (∀ g ∈ c.facts, Fact.holds ρ g) → SatH ρ β c.nx (putSets .leaf c.heap).get w →
  Calls P c.f (c.args.map (V1.den ρ β)).toArray w (REnd (c.ctx ρ β w) c.R)
def Ctr.s0 (c : Ctr) : S := ⟨argSlots c.args 0 .nil, putSets .leaf c.heap, c.nx, []⟩
theorem Ctr.ok_of {P : Program} {c : Ctr} {x : Rn} {body : Code} (hf : P.funcs[c.f]? = some x.fn) (hb : x.fn.body = some body) (hR : x.R = some c.R) (hbel : c.args.all (V1.bel c.nx) = true)
    (h : ∀ C, C.n0 = c.nx → From P x C c.s0 c.facts (flat body) none []) : c.ok P := by
  intro ρ β w hk hs
  refine calls_of_wp hf hb ?_
  have hi := SatS.init (ρ := ρ) (β := β) (args := c.args) (heap := putSets .leaf c.heap) (nx := c.nx) (w := w) (nt := x.fn.ntmps) (fun v hv => SV.bel_ok (x := .v v) (List.all_eq_true.1 hbel v hv)) hs
  have ht : TS (c.ctx ρ β w) ρ β x.fn.ntmps c.s0 _ w := ⟨hi, Frm.refl _ _, fun l y hy hw hh => .inr ⟨(l, y), putSets_mem hy, hw, hh, rfl⟩, Fix.refl _, Lab.agree_refl _ _, Nat.le_refl _⟩
  refine (wpIn_wide (n := 0)).1 (wpIn_mono (WPs.flat (h (c.ctx ρ β w) rfl ρ β _ w hk ht)) fun e a w he => ?_)
  cases e with
  | normal => simp only [Post, hR] at he; exact bodyPostE_nil he
  | ret => simp only [Post, hR] at he; exact bodyPostE_nil he
  | panic ch => exact he.elim
  | outgrown => exact he.elim
  | exit id => exact he.elim
  | goto l => exact he.elim
/-! ### renaming -/
def asgAll : Pairs → Asg → Asg
  | [], a => a
  | (e, .var i) :: r, a => match (asgGet a i).isNone with
    | true => e.deepK fun e => asgAll r ((i, e) :: a)
    | false => asgAll r a
  | (e, .un (.wrap _) (.var i)) :: r, a => match (asgGet a i).isNone with
    | true => e.deepK fun e => asgAll r ((i, e) :: a)
    | false => asgAll r a
  | _ :: r, a => asgAll r a
def tasgAll : TPairs → Asg → Asg
  | [], a => a
  | (e, .tv i, _) :: r, a => match (asgGet a i).isNone with
    | true => e.deepK fun e => tasgAll r ((i, e) :: a)
    | false => tasgAll r a
  | _ :: r, a => tasgAll r a
structure Rnm where
  lp : LP
  n0 : Nat
  nx : Nat
  a : Asg
  b : Asg
  k : Known
def Rnm.l (r : Rnm) (l : Nat) : Option Nat := match Nat.blt l r.n0 with
  | true => (match lpGet r.lp l with | some (.lab m) => (match Nat.blt m r.nx with | true => some m | false => none) | _ => none)
  | false => some (Nat.add r.nx (Nat.sub l r.n0))
/-- Sameness of rows, what lies behind them left out. -/
def rowsX (k : Known) (e : E) : E := match e with
  | .app f (.app 2 t u) n => (match Nat.ble 64 f with
    | true => (match (stripR k n t).same (stripR k n u) with | true => .lit 1 | false => .app f (.app 2 t u) n)
    | false => .app f (.app 2 t u) n)
  | e => e
theorem rowEq_of {t u : Int → Nat → Int} {i : Int} (h : ∀ j, t i j = u i j) : ∀ (ds : List Nat) (j : Nat), rowEq t u i ds j = true
  | [], _ => rfl
  | d :: r, j => by simp only [rowEq, h j, decide_true, rowEq_of h r, Bool.and_self]
theorem rowsX_den {ρ : Env} {k : Known} (hk : Known.holds ρ k) (e : E) : (rowsX k e).den ρ = e.den ρ := by
  unfold rowsX
  split
  · rename_i f t u n
    split
    · rename_i h64
      split
      · rename_i hs
        have hs := E.same_eq hs
        have h1 : ∀ i : Nat, (i : Int) < n.den ρ → ∀ j, t.tden ρ i j = u.tden ρ i j := fun i hi j => by
          rw [← stripR_ok hk t hi j, hs, stripR_ok hk u hi j]
        have h2 : eqRowsK (digs 60 (f - 64)) (t.tden ρ) (u.tden ρ) (n.den ρ) = true := by
          unfold eqRowsK
          rw [List.all_eq_true]
          intro i hi
          exact rowEq_of (h1 i (by have := List.mem_range.1 hi; omega)) _ _
        have e1 : (E.app f (.app 2 t u) n).den ρ = specN f (t.tden ρ) (u.tden ρ) (n.den ρ) := by
          have hne : f ≠ 1 := by rintro rfl; cases h64
          simp only [E.den]
          simp only [E.tden, E.t2den]
        rw [e1]
        simp only [E.den, specN, h64, h2, b01, if_true]
      · rfl
    · rfl
  · rfl
def Rnm.e (r : Rnm) (e : E) : Option E := match e.flatT with | true => some (rowsX r.k (norm r.k (e.sb r.a r.b))) | false => none
def Rnm.t (r : Rnm) (e : E) : Option E := match e.flatB with | true => some (normT r.k (e.sb r.a r.b)) | false => none
def Rnm.cv (r : Rnm) : CV → Option CV
  | .int k e => (match r.e e with | some e => some (.int k e) | none => none)
  | .bool e => (match r.e e with | some e => some (.bool e) | none => none)
  | .ptr l o => (match r.l l with | some l => some (.ptr l o) | none => none)
  | .nilp => some .nilp
  | .nils => some .nils
  | .nilf => some .nilf
  | .osl l => (match r.l l with | some l => some (.osl l) | none => none)
  | .osub l n c => (match r.l l, r.e n, r.e c with | some l, some n, some c => some (.osub l n c) | _, _, _ => none)
  | .str t n => (match r.t t, r.e n with | some t, some n => some (.str t n) | _, _ => none)
  | _ => none
def Rnm.cvs (r : Rnm) : List CV → Option (List CV)
  | [] => some []
  | c :: cs => match r.cv c, r.cvs cs with | some c, some cs => some (c :: cs) | _, _ => none
def Rnm.v1 (r : Rnm) : V1 → Option V1
  | .one c => (match r.cv c with | some c => some (.one c) | none => none)
  | .agg cs => (match r.cvs cs with | some cs => some (.agg cs) | none => none)
def Rnm.v1s (r : Rnm) : List V1 → Option (List V1)
  | [] => some []
  | c :: cs => match r.v1 c, r.v1s cs with | some c, some cs => some (c :: cs) | _, _ => none
def Rnm.blk (r : Rnm) : Blk → Option Blk
  | .cells cs ty => (match r.cvs cs with | some cs => some (.cells cs ty) | none => none)
  | .arr t n k ty => (match r.t t with | some t => some (.arr t n k ty) | none => none)
  | .seq q t n ks ty => (match r.l q, r.t t, r.e n with | some q, some t, some n => some (.seq q t n ks ty) | _, _, _ => none)
  | .lst q cs n sz ty => (match r.l q, r.cvs cs with | some q, some cs => some (.lst q cs n sz ty) | _, _ => none)
  | .bag q n sz ty => (match r.l q, r.e n with | some q, some n => some (.bag q n sz ty) | _, _ => none)
  | .nn q => (match r.l q with | some q => some (.nn q) | none => none)
  | .dead => some .dead
  | .lrec _ _ => none
  | .tab _ _ _ _ => none
def Rnm.sets (r : Rnm) : List (Nat × Ent) → Option Sets
  | [] => some []
  | (l, ⟨wr, b⟩) :: s => match r.l l, r.blk b, r.sets s with
    | some l, some b, some s => (match wr with | true => some ((l, ⟨true, b⟩) :: s) | false => none)
    | _, _, _ => none
/-- How β's labels and those of the pattern stand to each other behind the call. -/
structure RnmOk (r : Rnm) (ρ : Env) (βf β' : Lab) (n nf : Nat) : Prop where
  lab : ∀ l m, r.l l = some m → βf.b m = β'.b l ∧ βf.o m = β'.o l
  lt : ∀ l m, r.l l = some m → l < n → m < nf
  k : Known.holds ρ r.k
section
variable {r : Rnm} {ρ : Env} {βf β' : Lab} {n nf : Nat} (hr : RnmOk r ρ βf β' n nf)
include hr
theorem Rnm.e_ok {e e' : E} (h : r.e e = some e') : e'.den ρ = e.den (ρ.puts r.a r.b) := by
  unfold Rnm.e at h
  split at h
  · rename_i hf; cases h; rw [rowsX_den hr.k, norm_den hr.k, sb_den _ _ _ _ hf]
  · cases h
theorem Rnm.t_ok {e e' : E} (h : r.t e = some e') : e'.tden ρ = e.tden (ρ.puts r.a r.b) := by
  unfold Rnm.t at h
  split at h
  · rename_i hf; cases h; rw [(norm2_den hr.k _).2.1, sb_tden _ _ _ _ hf]
  · cases h
theorem Rnm.cv_ok {c c' : CV} (h : r.cv c = some c') : c'.den ρ βf = c.den (ρ.puts r.a r.b) β' ∧ (c.below n → c'.below nf) := by
  cases c <;> simp only [Rnm.cv] at h
  case int k e => split at h <;> first | cases h; done | (rename_i e' he; cases h; exact ⟨by simp only [CV.den, Rnm.e_ok hr he], fun _ => trivial⟩)
  case bool e => split at h <;> first | cases h; done | (rename_i e' he; cases h; exact ⟨by simp only [CV.den, Rnm.e_ok hr he], fun _ => trivial⟩)
  case ptr l o => split at h <;> first | cases h; done | (rename_i e' he; cases h; exact ⟨by simp only [CV.den, (hr.lab _ _ he).1], fun hb => hr.lt _ _ he hb⟩)
  case nilp => cases h; exact ⟨rfl, fun _ => trivial⟩
  case nils => cases h; exact ⟨rfl, fun _ => trivial⟩
  case nilf => cases h; exact ⟨rfl, fun _ => trivial⟩
  case osl l => split at h <;> first | cases h; done | (rename_i e' he; cases h; exact ⟨by simp only [CV.den, (hr.lab _ _ he).2], fun hb => hr.lt _ _ he hb⟩)
  case osub l m c =>
    split at h
    · rename_i l' m' c' h1 h2 h3
      cases h
      exact ⟨by simp only [CV.den, (hr.lab _ _ h1).2, Rnm.e_ok hr h2, Rnm.e_ok hr h3], fun hb => hr.lt _ _ h1 hb⟩
    · cases h
  case str t m =>
    split at h
    · rename_i t' m' h2 h3
      cases h
      exact ⟨by simp only [CV.den, Rnm.t_ok hr h2, Rnm.e_ok hr h3], fun hb => trivial⟩
    · cases h
  all_goals cases h
theorem Rnm.cvs_ok : ∀ {cs cs' : List CV}, r.cvs cs = some cs' → cs'.map (CV.den ρ βf) = cs.map (CV.den (ρ.puts r.a r.b) β') ∧ ((∀ c ∈ cs, c.below n) → ∀ c ∈ cs', c.below nf)
  | [], cs', h => by cases h; exact ⟨rfl, fun _ c hc => (by cases hc)⟩
  | c :: cs, cs', h => by
    simp only [Rnm.cvs] at h
    split at h
    · rename_i c1 cs1 h1 h2
      cases h
      have i1 := Rnm.cv_ok hr h1
      have i2 := Rnm.cvs_ok h2
      refine ⟨by simp only [List.map_cons, i1.1, i2.1], fun hb x hx => ?_⟩
      rcases List.mem_cons.1 hx with rfl | hx
      · exact i1.2 (hb _ (List.mem_cons_self ..))
      · exact i2.2 (fun y hy => hb y (List.mem_cons_of_mem _ hy)) x hx
    · cases h
theorem Rnm.v1_ok {c c' : V1} (h : r.v1 c = some c') : c'.den ρ βf = c.den (ρ.puts r.a r.b) β' ∧ (c.below n → c'.below nf) := by
  cases c with
  | one c =>
    simp only [Rnm.v1] at h
    split at h
    · rename_i c1 h1; cases h; exact Rnm.cv_ok hr h1
    · cases h
  | agg cs =>
    simp only [Rnm.v1] at h
    split at h
    · rename_i c1 h1; cases h
      have := Rnm.cvs_ok hr h1
      exact ⟨by simp only [V1.den, this.1], this.2⟩
    · cases h
theorem Rnm.v1s_ok : ∀ {cs cs' : List V1}, r.v1s cs = some cs' → cs'.map (V1.den ρ βf) = cs.map (V1.den (ρ.puts r.a r.b) β') ∧ ((∀ c ∈ cs, V1.below n c) → ∀ c ∈ cs', V1.below nf c)
  | [], cs', h => by cases h; exact ⟨rfl, fun _ c hc => (by cases hc)⟩
  | c :: cs, cs', h => by
    simp only [Rnm.v1s] at h
    split at h
    · rename_i c1 cs1 h1 h2
      cases h
      have i1 := Rnm.v1_ok hr h1
      have i2 := Rnm.v1s_ok h2
      refine ⟨by simp only [List.map_cons, i1.1, i2.1], fun hb x hx => ?_⟩
      rcases List.mem_cons.1 hx with rfl | hx
      · exact i1.2 (hb _ (List.mem_cons_self ..))
      · exact i2.2 (fun y hy => hb y (List.mem_cons_of_mem _ hy)) x hx
    · cases h
theorem Rnm.blk_ok {x x' : Blk} (h : r.blk x = some x') : (x'.hb βf ↔ x.hb β') ∧ (x.below n → x'.below nf) ∧ ∀ b w, x.sat (ρ.puts r.a r.b) β' b w → x'.sat ρ βf b w := by
  cases x with
  | cells cs ty =>
    simp only [Rnm.blk] at h
    split at h
    · rename_i c1 h1; cases h
      have := Rnm.cvs_ok hr h1
      exact ⟨Iff.rfl, this.2, fun b w hs => by simp only [Blk.sat] at hs ⊢; rw [hs, this.1]⟩
    · cases h
  | arr t m k ty =>
    simp only [Rnm.blk] at h
    split at h
    · rename_i t1 h1; cases h
      exact ⟨Iff.rfl, fun _ => trivial, fun b w hs => by simp only [Blk.sat] at hs ⊢; rw [hs, Rnm.t_ok hr h1]⟩
    · cases h
  | seq q t m ks ty =>
    simp only [Rnm.blk] at h
    split at h
    · rename_i q' t' m' h1 h2 h3
      cases h
      have := hr.lab _ _ h1
      exact ⟨by simp only [Blk.hb, this.2], fun hb => hr.lt _ _ h1 hb, fun b w hs => by simp only [Blk.sat] at hs ⊢; rw [this.2, Rnm.t_ok hr h2, Rnm.e_ok hr h3]; exact hs⟩
    · cases h
  | lst q cs m sz ty =>
    simp only [Rnm.blk] at h
    split at h
    · rename_i q' cs' h1 h2
      cases h
      have := hr.lab _ _ h1
      have hc := Rnm.cvs_ok hr h2
      exact ⟨by simp only [Blk.hb, this.2], fun hb => ⟨hr.lt _ _ h1 hb.1, hc.2 hb.2⟩, fun b w hs => by simp only [Blk.sat] at hs ⊢; rw [this.2, hc.1]; exact hs⟩
    · cases h
  | bag q m sz ty =>
    simp only [Rnm.blk] at h
    split at h
    · rename_i q' m' h1 h3
      cases h
      have := hr.lab _ _ h1
      exact ⟨by simp only [Blk.hb, this.2], fun hb => hr.lt _ _ h1 hb, fun b w hs => by simp only [Blk.sat] at hs ⊢; rw [this.2, Rnm.e_ok hr h3]; exact hs⟩
    · cases h
  | nn q =>
    simp only [Rnm.blk] at h
    split at h
    · rename_i q' h1
      cases h
      have := hr.lab _ _ h1
      exact ⟨Iff.rfl, fun hb => hr.lt _ _ h1 hb, fun b w hs => by simp only [Blk.sat] at hs ⊢; rw [this.2]; exact hs⟩
    · cases h
  | dead => cases h; exact ⟨Iff.rfl, fun _ => trivial, fun _ _ _ => trivial⟩
  | tab q t m ks => cases h
  | lrec i cs => cases h
omit hr in
theorem Rnm.sets_mem : ∀ {l : List (Nat × Ent)} {s : Sets}, r.sets l = some s → (∀ p ∈ s, ∃ q ∈ l, r.l q.1 = some p.1 ∧ r.blk q.2.blk = some p.2.blk ∧ q.2.wr = true ∧ p.2.wr = true) ∧ (∀ q ∈ l, ∃ p ∈ s, r.l q.1 = some p.1 ∧ r.blk q.2.blk = some p.2.blk)
  | [], s, h => by cases h; exact ⟨fun p hp => (by cases hp), fun p hp => (by cases hp)⟩
  | (l, ⟨wr, b⟩) :: r0, s, h => by
    simp only [Rnm.sets] at h
    split at h
    · rename_i l' b' s' h1 h2 h3
      split at h
      · cases h
        have ih := Rnm.sets_mem h3
        refine ⟨fun p hp => ?_, fun q hq => ?_⟩
        · rcases List.mem_cons.1 hp with rfl | hp
          · exact ⟨_, List.mem_cons_self .., h1, h2, rfl, rfl⟩
          · obtain ⟨q, hq, hh⟩ := ih.1 p hp
            exact ⟨q, List.mem_cons_of_mem _ hq, hh⟩
        · rcases List.mem_cons.1 hq with rfl | hq
          · exact ⟨_, List.mem_cons_self .., h1, h2⟩
          · obtain ⟨p, hp, hh⟩ := ih.2 q hq
            exact ⟨p, List.mem_cons_of_mem _ hp, hh⟩
      · cases h
    · cases h
end
/-! ### a contract that is used -/
def hasL (l : Nat) : List (Nat × Ent) → Bool
  | [] => false
  | (m, _) :: r => match Nat.beq l m with | true => true | false => hasL l r
/-- An old block that is set: it was there to be written; it dies, or stays cells. -/
def oldOk (heap : List (Nat × Ent)) (l : Nat) : Blk → Bool
  | .dead => heap.any fun p => Nat.beq p.1 l && (p.2.wr && (match p.2.blk with | .dead => false | _ => true))
  | .cells _ _ => heap.any fun p => Nat.beq p.1 l && (p.2.wr && (match p.2.blk with | .cells _ _ => true | .arr _ _ _ _ => true | _ => false))
  | .seq q _ _ _ _ => heap.any fun p => Nat.beq p.1 l && (p.2.wr && (match p.2.blk with | .seq q' _ _ _ _ => Nat.beq q l && Nat.beq q' l | _ => false))
  | .lst q _ _ _ _ => heap.any fun p => Nat.beq p.1 l && (p.2.wr && (match p.2.blk with | .lst q' _ _ _ _ => Nat.beq q l && Nat.beq q' l | _ => false))
  | .bag q _ _ _ => heap.any fun p => Nat.beq p.1 l && (p.2.wr && (match p.2.blk with | .bag q' _ _ _ => Nat.beq q l && Nat.beq q' l | _ => false))
  | .nn _ => false
  | _ => false
/-- Is the contract fit to be used? -/
def Ctr.fit (c : Ctr) : Bool := Nat.beq c.f yldId == false && Nat.ble c.nx c.R.nx && (c.heap.all (fun p => !p.2.wr || hasL p.1 c.R.heap) && c.R.heap.all (fun p => !Nat.blt p.1 c.nx || oldOk c.heap p.1 p.2.blk))
def Ctr.run (c : Ctr) (args : List V1) (heap : T Ent) (nx : Nat) (k : Known) : Option EAlts :=
  match v1sM c.nx args c.args with
  | some p => (match heapM heap c.nx p.lp c.heap with
    | some q => (match lpOk (p.lp ++ q.lp) with
      | true => (match asgAll (p.ps ++ q.ps) [], tasgAll (p.ts ++ q.ts) [] with
        | a, b => (match eqsOk k a b (p.ps ++ q.ps) && (teqsOk k a b (p.ts ++ q.ts) && factsOk k a b c.facts) with
          | true => (match Rnm.v1s ⟨p.lp ++ q.lp, c.nx, nx, a, b, k⟩ c.R.vs, Rnm.sets ⟨p.lp ++ q.lp, c.nx, nx, a, b, k⟩ c.R.heap with
            | some vs, some sets => some [(k, ⟨svOfList vs, sets, Nat.add nx (Nat.sub c.R.nx c.nx)⟩)]
            | _, _ => none)
          | false => none))
      | false => none)
    | none => none)
  | none => none
def ctRun (f : FuncId) (args : List V1) (heap : T Ent) (nx : Nat) (k : Known) : List Ctr → Option EAlts
  | [] => none
  | c :: r => match Nat.beq f c.f with
    | true => (match c.run args heap nx k with | some x => some x | none => ctRun f args heap nx k r)
    | false => ctRun f args heap nx k r
/-- The contracts, as they are called. -/
def ctOf (cs : List Ctr) : CallF := fun f args heap nx k => ctRun f args heap nx k cs
theorem hasL_iff {l : Nat} : ∀ {r : List (Nat × Ent)}, hasL l r = true → ∃ x, (l, x) ∈ r
  | [], h => by cases h
  | (m, x) :: r, h => by
    simp only [hasL] at h
    split at h
    · rename_i hb; rw [Nat.eq_of_beq_eq_true hb]; exact ⟨x, List.mem_cons_self ..⟩
    · obtain ⟨y, hy⟩ := hasL_iff h; exact ⟨y, List.mem_cons_of_mem _ hy⟩
theorem oldOk_ok {heap : List (Nat × Ent)} {l : Nat} {b : Blk} (h : oldOk heap l b = true) (β β' : Lab) (ho : β'.o l = β.o l) : ∃ x, (l, x) ∈ heap ∧ x.wr = true ∧ x.blk ≠ .dead ∧ (b.hb β' → x.blk.hb β) := by
  cases b <;> simp only [oldOk, List.any_eq_true, Bool.and_eq_true, Bool.false_eq_true] at h
  case dead => obtain ⟨p, hp, h1, h2, h3⟩ := h; obtain ⟨m, x⟩ := p; have := Nat.eq_of_beq_eq_true h1; subst this; exact ⟨x, hp, h2, fun hx => (by rw [hx] at h3; simp at h3), fun hh => hh.elim⟩
  case cells cs ty =>
    obtain ⟨p, hp, h1, h2, h3⟩ := h; obtain ⟨m, x⟩ := p; have := Nat.eq_of_beq_eq_true h1; subst this
    refine ⟨x, hp, h2, fun hx => (by rw [hx] at h3; simp at h3), fun _ => ?_⟩
    simp only at h3
    split at h3 <;> first | (rename_i hx; rw [hx]; trivial) | cases h3
  case seq q t n ks ty =>
    obtain ⟨p, hp, h1, h2, h3⟩ := h; obtain ⟨m, x⟩ := p; have := Nat.eq_of_beq_eq_true h1; subst this
    refine ⟨x, hp, h2, fun hx => (by rw [hx] at h3; simp at h3), fun hh => ?_⟩
    simp only at h3
    split at h3
    · rename_i q' t' n' ks' ty' hx
      simp only [Bool.and_eq_true] at h3
      have e1 := Nat.eq_of_beq_eq_true h3.1
      have e2 := Nat.eq_of_beq_eq_true h3.2
      rw [hx]
      subst e2
      simp only [Blk.hb] at hh ⊢
      rw [e1, ho] at hh
      exact hh
    · cases h3
  case lst q cs n sz ty =>
    obtain ⟨p, hp, h1, h2, h3⟩ := h; obtain ⟨m, x⟩ := p; have := Nat.eq_of_beq_eq_true h1; subst this
    refine ⟨x, hp, h2, fun hx => (by rw [hx] at h3; simp at h3), fun hh => ?_⟩
    simp only at h3
    split at h3
    · rename_i q' cs' n' sz' ty' hx
      simp only [Bool.and_eq_true] at h3
      have e1 := Nat.eq_of_beq_eq_true h3.1
      have e2 := Nat.eq_of_beq_eq_true h3.2
      rw [hx]
      subst e2
      simp only [Blk.hb] at hh ⊢
      rw [e1, ho] at hh
      exact hh
    · cases h3
  case bag q n sz ty =>
    obtain ⟨p, hp, h1, h2, h3⟩ := h; obtain ⟨m, x⟩ := p; have := Nat.eq_of_beq_eq_true h1; subst this
    refine ⟨x, hp, h2, fun hx => (by rw [hx] at h3; simp at h3), fun hh => ?_⟩
    simp only at h3
    split at h3
    · rename_i q' n' sz' ty' hx
      simp only [Bool.and_eq_true] at h3
      have e1 := Nat.eq_of_beq_eq_true h3.1
      have e2 := Nat.eq_of_beq_eq_true h3.2
      rw [hx]
      subst e2
      simp only [Blk.hb] at hh ⊢
      rw [e1, ho] at hh
      exact hh
    · cases h3
theorem svOfList_ren {r : Rnm} {ρ : Env} {βf β' : Lab} {n nf : Nat} (hr : RnmOk r ρ βf β' n nf) {vs vs' : List V1} (h : r.v1s vs = some vs') (hb : (svOfList vs).below n) : (svOfList vs').den ρ βf = (svOfList vs).den (ρ.puts r.a r.b) β' ∧ (svOfList vs').below nf := by
  have h1 := Rnm.v1s_ok hr h
  refine ⟨svOfList_map h1.1, svOfList_below (h1.2 ?_)⟩
  match vs, hb with
  | [], _ => exact fun c hc => (by cases hc)
  | [x], hb => intro c hc; rw [List.mem_singleton.1 hc]; exact hb
  | x :: y :: r, hb => exact hb
theorem Ctr.run_ok {P : Program} {c : Ctr} (hfit : c.fit = true) (hc : c.ok P) {ρ : Env} {args : List V1} {heap : T Ent} {nx : Nat} {k : Known} {l : EAlts} (h : c.run args heap nx k = some l) : AltsOk ρ k l (CGood P ρ c.f args heap nx) := by
  unfold Ctr.run at h
  split at h
  · rename_i p hp
    split at h
    · rename_i q hq
      split at h
      · rename_i hok
        split at h
        rename_i a b
        split at h
        · rename_i hall
          split at h
          · rename_i vs sets hvs hsets
            cases h
            simp only [Bool.and_eq_true] at hall
            obtain ⟨g1, g2, g3⟩ := hall
            refine AltsOk.single fun hk => ?_
            intro β w hb hs
            have hfy : Nat.beq c.f yldId = false := by
              simp only [Ctr.fit, Bool.and_eq_true, beq_iff_eq] at hfit
              exact hfit.1.1
            simp only [Ctr.fit, Bool.and_eq_true, List.all_eq_true] at hfit
            replace hfit := And.intro hfit.1.2 hfit.2
            obtain ⟨f1, f2, f3⟩ := hfit
            have f1 := Nat.le_of_ble_eq_true f1
            generalize hab : asgAll (p.ps ++ q.ps) [] = a at *
            generalize hbb : tasgAll (p.ts ++ q.ts) [] = b at *
            have hmaps := maps_all (ρ := ρ) (β := β) hok 0
            have hM : MOk ρ (ρ.puts a b) β (labOf ρ β 0 (p.lp ++ q.lp)) (p.app q) := ⟨eqsOk_ok hk g1, teqsOk_ok hk g2, hmaps⟩
            obtain ⟨hpm, hqm⟩ := MOk.app_iff hM
            have e1 := v1sM_ok hp hpm
            have e2 := (heapL_ok (n0 := 0) (s := ⟨.nil, heap, 0, []⟩) hq hok hqm (C := ⟨w, fun _ => True, 0, β, ρ, ⟨[], none⟩⟩) hs (fun _ _ _ _ _ => .inr trivial)).1
            have e3 := heapM_ok hq hqm hpm.lp
            generalize hβ0 : labOf ρ β 0 (p.lp ++ q.lp) = β0 at *
            have hsat : SatH (ρ.puts a b) β0 c.nx (putSets .leaf c.heap).get w := ⟨fun l x hx => e2.blk _ (putSets_mem hx), fun l l' x x' hx hx' hne hw hh hh' => e2.inj _ (putSets_mem hx) _ (putSets_mem hx') hne hw hh hh'⟩
            have hcall := hc (ρ.puts a b) β0 w (factsOk_ok hk g3) hsat
            rw [e1.1]
            refine Called.of hfy (hcall.mono fun e w' he => ?_)
            obtain ⟨β', hfrm, hL, hag, hown, hbel, rfl⟩ := he
            simp only [Ctr.ctx] at hfrm hag hown hL
            have hRnm : RnmOk ⟨p.lp ++ q.lp, c.nx, nx, a, b, k⟩ ρ ⟨fun l => if l < nx then β.b l else β'.b (c.nx + (l - nx)), fun l => if l < nx then β.o l else β'.o (c.nx + (l - nx))⟩ β' c.R.nx (nx + (c.R.nx - c.nx)) := by
              have key : ∀ l m, Rnm.l ⟨p.lp ++ q.lp, c.nx, nx, a, b, k⟩ l = some m → (l < c.nx ∧ m < nx ∧ (l, LM.lab m) ∈ p.lp ++ q.lp) ∨ (c.nx ≤ l ∧ m = nx + (l - c.nx)) := by
                intro l m hm
                simp only [Rnm.l] at hm
                split at hm
                · rename_i hlt
                  split at hm
                  · rename_i m' hg
                    split at hm
                    · rename_i hlt'
                      cases hm
                      exact .inl ⟨by simpa using hlt, by simpa using hlt', lpGet_mem hg⟩
                    · cases hm
                  · cases hm
                · rename_i hlt
                  cases hm
                  refine .inr ⟨?_, rfl⟩
                  rcases Nat.lt_or_ge l c.nx with h' | h'
                  · have : Nat.blt l c.nx = true := by simpa using h'
                    rw [this] at hlt; cases hlt
                  · exact h'
              refine ⟨fun l m hm => ?_, fun l m hm hl => ?_, hk⟩
              · rcases key l m hm with ⟨h1, h2, h3⟩ | ⟨h1, h2⟩
                · have := hmaps _ h3
                  have h4 := hag l h1
                  simp only [if_pos h2]
                  exact ⟨by rw [h4.1, this.1], by rw [h4.2, this.2]⟩
                · subst h2
                  simp only [if_neg (show ¬ nx + (l - c.nx) < nx by omega)]
                  rw [show c.nx + (nx + (l - c.nx) - nx) = l by omega]
                  exact ⟨rfl, rfl⟩
              · rcases key l m hm with ⟨h1, h2, h3⟩ | ⟨h1, h2⟩
                · omega
                · omega
            have keyL : ∀ l m, Rnm.l ⟨p.lp ++ q.lp, c.nx, nx, a, b, k⟩ l = some m → (l < c.nx ∧ m < nx ∧ (l, LM.lab m) ∈ p.lp ++ q.lp) ∨ (c.nx ≤ l ∧ nx ≤ m) := by
              intro l m hm
              simp only [Rnm.l] at hm
              split at hm
              · rename_i hlt
                split at hm
                · rename_i m' hg
                  split at hm
                  · rename_i hlt'
                    cases hm
                    exact .inl ⟨by simpa using hlt, by simpa using hlt', lpGet_mem hg⟩
                  · cases hm
                · cases hm
              · rename_i hlt
                cases hm
                refine .inr ⟨?_, Nat.le_add_right _ _⟩
                rcases Nat.lt_or_ge l c.nx with h' | h'
                · have : Nat.blt l c.nx = true := by simpa using h'
                  rw [this] at hlt; cases hlt
                · exact h'
            generalize hβf : (⟨fun l => if l < nx then β.b l else β'.b (c.nx + (l - nx)), fun l => if l < nx then β.o l else β'.o (c.nx + (l - nx))⟩ : Lab) = βf at *
            have hagf : β.agree nx βf := by
              intro l hl
              subst hβf
              simp only [if_pos hl, and_self]
            have hmem := Rnm.sets_mem hsets
            -- an old block that may be written is one that is set
            have oldS : ∀ bk, c.wrt β0 bk → ∃ m y, m < nx ∧ heap.get m = some y ∧ y.wr = true ∧ y.blk.hb β ∧ β.b m = bk ∧ m ∈ Sets.labels sets := by
              rintro bk ⟨pr, hpr, hwr, hhb, hbk⟩
              obtain ⟨l0, x0⟩ := pr
              have hcov := f2 _ hpr
              have hwr' : x0.wr = true := hwr
              simp only [hwr', Bool.not_true, Bool.false_or] at hcov
              obtain ⟨x1, hx1⟩ := hasL_iff hcov
              obtain ⟨pm, hpm2, hrl, _⟩ := hmem.2 _ hx1
              obtain ⟨h1, h2, h3⟩ := e3 l0 x0 hpr
              rcases h3 with ⟨l', y, hlm, hy, hyw, hyh, _⟩ | ⟨hn, _⟩
              · have hl0 : l0 < c.nx := h1
                rcases keyL _ _ hrl with ⟨_, k2, k3⟩ | ⟨k1, _⟩
                · have hmm : LM.lab l' = LM.lab pm.1 := (lpOk_ok hok l0 _ l0 _ hlm k3).1 rfl
                  cases hmm
                  refine ⟨pm.1, y, k2, hy, hyw hwr, hyh.1 hhb, ?_, List.mem_map.2 ⟨pm, hpm2, rfl⟩⟩
                  rw [← (hmaps _ hlm).1]
                  exact hbk
                · simp only at k1; omega
              · exact absurd hhb hn
            -- a block that was not set is as it was
            have notS : ∀ m x, heap.get m = some x → m ∉ Sets.labels sets → x.blk.hb β → ¬ c.wrt β0 (β.b m) := by
              intro m x hx hm hh hS
              obtain ⟨m', y, h1, h2, h3, h4, h5, h6⟩ := oldS _ hS
              refine hs.inj m' m y x h2 hx (fun e => hm (e ▸ h6)) (by rw [h3]; rfl) h4 hh h5
            have hsz : w.heap.size ≤ w'.heap.size := hfrm.size
            refine ⟨βf, ⟨Nat.le_add_right _ _, hagf, ⟨fun m x hx => ?_, fun m m' x x' hx hx' hne hw hh hh' => ?_⟩, hfrm.mono fun bk _ hS => ?_, fun m x hx hlt => ?_, fun m x hx hge => ?_⟩, ?_⟩
            · by_cases hm : m ∈ Sets.labels sets
              · rw [Heap.set_of_mem hm] at hx
                obtain ⟨q0, hq0, i1, i2, i3, i4⟩ := hmem.1 _ (Sets.find_pair hx)
                obtain ⟨j1, j2, j3, j4⟩ := hL.blk q0 hq0
                have i5 := Rnm.blk_ok hRnm i2
                have i6 := hRnm.lab _ _ i1
                refine ⟨hRnm.lt _ _ i1 j1, i5.2.1 j2, fun hh => ?_, ?_⟩
                · rw [i6.1]; exact j3 (i5.1.1 hh)
                · rw [i6.1]; exact i5.2.2 _ _ j4
              · rw [Heap.set_of_not_mem hm] at hx
                obtain ⟨j1, j2, j3, j4⟩ := hs.blk m x hx
                refine ⟨Nat.lt_of_lt_of_le j1 (Nat.le_add_right _ _), Blk.below_mono (Nat.le_add_right _ _) j2, fun hh => ?_, ?_⟩
                · rw [(hagf m j1).1]
                  exact Nat.lt_of_lt_of_le (j3 ((Blk.hb_agree hagf j2).1 hh)) hsz
                · rw [(hagf m j1).1]
                  exact Blk.sat_keep j2 hagf (fun hh => hfrm.old _ (j3 hh) (notS m x hx hm hh)) j4
            · -- no two for one block
              have oldNew : ∀ m x q0 m', heap.get m = some x → m ∉ Sets.labels sets → x.blk.hb βf → q0 ∈ c.R.heap → Rnm.l ⟨p.lp ++ q.lp, c.nx, nx, a, b, k⟩ q0.1 = some m' → q0.2.wr = true → q0.2.blk.hb β' → βf.b m ≠ βf.b m' := by
                intro m x q0 m' hx hm hh hq0 hl hwr hh2 heq
                obtain ⟨j1, j2, j3, j4⟩ := hs.blk m x hx
                have hhβ := (Blk.hb_agree hagf j2).1 hh
                rw [(hagf m j1).1, (hRnm.lab _ _ hl).1] at heq
                rcases hown q0 hq0 hwr hh2 with h1 | h1
                · have := j3 hhβ
                  omega
                · rw [← heq] at h1
                  exact notS m x hx hm hhβ h1
              by_cases hm : m ∈ Sets.labels sets
              · rw [Heap.set_of_mem hm] at hx
                obtain ⟨q0, hq0, i1, i2, i3, i4⟩ := hmem.1 _ (Sets.find_pair hx)
                have i5 := Rnm.blk_ok hRnm i2
                by_cases hm' : m' ∈ Sets.labels sets
                · rw [Heap.set_of_mem hm'] at hx'
                  obtain ⟨q1, hq1, k1, k2, k3, k4⟩ := hmem.1 _ (Sets.find_pair hx')
                  have k5 := Rnm.blk_ok hRnm k2
                  rw [(hRnm.lab _ _ i1).1, (hRnm.lab _ _ k1).1]
                  refine hL.inj q0 hq0 q1 hq1 (fun e => hne ?_) (by rw [i3]; rfl) (i5.1.1 hh) (k5.1.1 hh')
                  simp only at i1 k1
                  rw [e, k1] at i1
                  cases i1
                  rfl
                · rw [Heap.set_of_not_mem hm'] at hx'
                  exact fun e => oldNew m' x' q0 m hx' hm' hh' hq0 i1 i3 (i5.1.1 hh) e.symm
              · rw [Heap.set_of_not_mem hm] at hx
                by_cases hm' : m' ∈ Sets.labels sets
                · rw [Heap.set_of_mem hm'] at hx'
                  obtain ⟨q1, hq1, k1, k2, k3, k4⟩ := hmem.1 _ (Sets.find_pair hx')
                  have k5 := Rnm.blk_ok hRnm k2
                  exact oldNew m x q1 m' hx hm hh hq1 k1 k3 (k5.1.1 hh')
                · rw [Heap.set_of_not_mem hm'] at hx'
                  obtain ⟨j1, j2, _, _⟩ := hs.blk m x hx
                  obtain ⟨j1', j2', _, _⟩ := hs.blk m' x' hx'
                  rw [(hagf m j1).1, (hagf m' j1').1]
                  exact hs.inj m m' x x' hx hx' hne hw ((Blk.hb_agree hagf j2).1 hh) ((Blk.hb_agree hagf j2').1 hh')
            · obtain ⟨m, y, h1, h2, h3, h4, h5, h6⟩ := oldS bk hS
              exact ⟨m, h6, h1, ⟨y, h2, h4⟩, h5⟩
            · obtain ⟨q0, hq0, i1, i2, i3, i4⟩ := hmem.1 _ (Sets.find_pair hx)
              simp only at i1 i2 i4
              rcases keyL _ _ i1 with ⟨k1, k2, k3⟩ | ⟨_, k2⟩
              · have hold := f3 _ hq0
                have hblt : Nat.blt q0.1 c.nx = true := by simpa using k1
                simp only [hblt, Bool.not_true, Bool.false_or] at hold
                obtain ⟨x0, hx0, hw0, hnd, hh0⟩ := oldOk_ok hold β0 β' (hag _ k1).2
                obtain ⟨_, _, h3⟩ := e3 _ x0 hx0
                rcases h3 with ⟨l', y, hlm, hy, hyw, hyh, _⟩ | ⟨hn, _, hnil⟩
                · have hmm : LM.lab l' = LM.lab m := (lpOk_ok hok _ _ _ _ hlm k3).1 rfl
                  cases hmm
                  exact ⟨y, hy, hyw hw0, fun hh => hyh.1 (hh0 ((Rnm.blk_ok hRnm i2).1.1 hh))⟩
                · rcases hnil with hnil | hnil
                  · have hmm : LM.nil = LM.lab m := (lpOk_ok hok _ _ _ _ hnil k3).1 rfl
                    cases hmm
                  · exact absurd hnil hnd
              · omega
            · obtain ⟨q0, hq0, i1, i2, i3, i4⟩ := hmem.1 _ (Sets.find_pair hx)
              obtain ⟨j1, _⟩ := hL.blk q0 hq0
              refine ⟨hRnm.lt _ _ i1 j1, fun hh => ?_⟩
              rw [(hRnm.lab _ _ i1).1]
              rcases hown q0 hq0 i3 ((Rnm.blk_ok hRnm i2).1.1 hh) with h1 | h1
              · exact .inl h1
              · obtain ⟨m0, y, h1, h2, h3, h4, h5, h6⟩ := oldS _ h1
                exact .inr ⟨m0, h6, h1, ⟨y, h2, h4⟩, h5⟩
            · have := svOfList_ren hRnm hvs hbel
              exact ⟨this.2, congrArg Ending.returned this.1.symm⟩
          · cases h
        · cases h
      · cases h
    · cases h
  · cases h
theorem ctOf_ok {P : Program} {cs : List Ctr} (h : ∀ c ∈ cs, c.fit = true ∧ c.ok P) (ρ : Env) : CallOk P ρ (ctOf cs) := by
  intro f args heap nx k l hl
  unfold ctOf at hl
  induction cs with
  | nil => cases hl
  | cons c r ih =>
    simp only [ctRun] at hl
    split at hl
    · rename_i hf
      split at hl
      · rename_i x hx
        cases hl
        rw [Nat.eq_of_beq_eq_true hf]
        exact Ctr.run_ok (h c (List.mem_cons_self ..)).1 (h c (List.mem_cons_self ..)).2 hx
      · exact ih (fun c hc => h c (List.mem_cons_of_mem _ hc)) hl
    · exact ih (fun c hc => h c (List.mem_cons_of_mem _ hc)) hl
/-! ### short words for printed proofs -/
def tgtGeB (n : Nat) (g : Tgt) : Bool := Nat.ble n g.t.n0 && g.m.all fun p => Nat.ble n p.1.n0
def labsB (n : Nat) (R : Option Res) (N : Option Tgt) (X : List (Nat × Tgt)) : Bool :=
  (match R with | some r => Nat.ble n r.n0 | none => true) && ((match N with | some g => tgtGeB n g | none => true) && X.all fun p => tgtGeB n p.2)
theorem tgtOf_mem : ∀ {X : List (Nat × Tgt)} {i : Nat} {g : Tgt}, tgtOf X i = some g → ∃ j, (j, g) ∈ X
  | [], i, g, h => by simp [tgtOf] at h
  | (j, y) :: r, i, g, h => by
    simp only [tgtOf] at h
    split at h
    · cases h; exact ⟨j, List.mem_cons_self ..⟩
    · obtain ⟨q, hq⟩ := tgtOf_mem h
      exact ⟨q, List.mem_cons_of_mem _ hq⟩
theorem labsOkB {C : Ctx} {n : Nat} (h : C.n0 = n) {R : Option Res} {N : Option Tgt} {X : List (Nat × Tgt)} (hb : labsB n R N X = true) : LabsOk C R N X := by
  unfold labsB at hb
  simp only [Bool.and_eq_true, List.all_eq_true] at hb
  obtain ⟨h1, h2, h3⟩ := hb
  have key : ∀ g : Tgt, tgtGeB n g = true → ∀ p ∈ (g.t, g.F) :: g.m, C.n0 ≤ p.1.n0 := fun g hg p hp => by
    unfold tgtGeB at hg
    simp only [Bool.and_eq_true, List.all_eq_true] at hg
    rw [h]
    rcases List.mem_cons.1 hp with rfl | hp
    · exact Nat.le_of_ble_eq_true hg.1
    · exact Nat.le_of_ble_eq_true (hg.2 p hp)
  refine ⟨fun g hg => ?_, fun i g hg => ?_, ?_⟩
  · subst hg
    exact key g h2
  · obtain ⟨j, hj⟩ := tgtOf_mem hg
    exact key g (h3 _ hj)
  · cases R with
    | none => trivial
    | some r => show C.n0 ≤ r.n0; rw [h]; exact Nat.le_of_ble_eq_true h1
theorem goodL {x : Rn} {l : List Code} {facts : List Fact} {s : S} {N : Option Tgt} {X : List (Nat × Tgt)} (h : GoodP x l facts s N X []) : GoodT x l facts s N X .leaf := by
  intro p hp
  simp only [DT.paths, List.mem_singleton] at hp
  subst hp
  exact h
def nl : List Fact := []
theorem nl_ok {F : List Fact} : ∀ ρ : Env, (∀ g ∈ F, Fact.holds ρ g) → ∀ g ∈ nl, Fact.holds ρ g := fun _ _ _ h => absurd h List.not_mem_nil
end
end Go.Sx
/-
  SX: A RANGE OVER A FUNCTION THAT NEVER YIELDS: the loop's record is laid, the function called; behind it the activation bears a mark.
-/
namespace Go.Sx
set_option linter.unusedSimpArgs false
set_option linter.unusedVariables false
set_option linter.unusedSectionVars false
noncomputable section
set_option linter.unusedVariables false
/-- The world in which a loop's record has been laid. -/
def laid (w : World) (r : Loop) : World := (w.alloc (.deferred (some []))).alloc (.loop r)
def yieldV (w : World) : Value := .func (.yield (w.heap.size + 1)) #[] #[]
def markOf (n : Nat) : Deferred := { target := .collected n, args := #[] }
theorem wp_never {P : Program} {g : Operand} {ps : Array Tmp} {assign body : Code} {Q : Exit → Act → World → Prop} {a : Act} {w : World} {f : FuncId} {caps : Array Value} {fnf : Func}
    (hg : a.eval g = .func (.func f) #[] caps) (hfs : P.funcs[f]? = some fnf) (hname : (fnf.name == "runtime.NumGoroutine") = false) (hbn : fnf.body.isNone = false)
    (hcall : ∀ r : Loop, r.state = .ready → r.pending = none → Calls P f (#[yieldV w] ++ caps) (laid w r) fun e w' =>
      (∃ v, e = .returned v) ∧ w'.heap[w.heap.size + 1]? = some (.loop r) ∧ Q .normal { a with defers := markOf w.heap.size :: a.defers } (w'.putObj (w.heap.size + 1) (.loop { r with state := .exhausted }))) :
    (Code.rangeFunc g ps assign body).wpIn (fen none) 0 P Q a w := by
  refine wpIn_rangeFunc (F := Fence.wide) fun fn _ => ?_
  have hres : (Go.resolve a.eval (rangeCall g (w.heap.size + 1)) 0).run P (laid w { state := .ready, pending := none, fn, tmps := a.tmps, params := ps, assign, body, defers := w.heap.size }) =
      .ok ⟨.fn (.func f) caps, #[yieldV w]⟩ (laid w { state := .ready, pending := none, fn, tmps := a.tmps, params := ps, assign, body, defers := w.heap.size }) := by
    have harg : (#[] : Array Value) ++ Array.map a.eval #[Operand.const (Value.func (Fn.yield (w.heap.size + 1)) #[] #[])] = #[yieldV w] := by simp [yieldV, Act.eval]
    simp only [Go.resolve, hg, Deferred.ofValue, Sem.run_pure, harg]
  refine ⟨w.heap.size + 1, [markOf w.heap.size], _, ⟨.fn (.func f) caps, #[yieldV w]⟩, _, f, #[yieldV w] ++ caps, _, run_enterLoop_outer .., hres, fun _ _ => trivial, ?_, fun h => (by cases h), callsIn_wide.2 ((hcall { state := .ready, pending := none, fn, tmps := a.tmps, params := ps, assign, body, defers := w.heap.size } rfl rfl).mono fun e w' h => ?_)⟩
  · simp only [invoke, callFunc, Sem.run_bind, Sem.run_pure, Result.andThen_ok, run_program, hfs, hname, hbn, Bool.false_eq_true, if_false]
  · obtain ⟨⟨v, rfl⟩, h1, h2⟩ := h
    exact ⟨none, _, run_endLoop h1 (by simp), h2⟩
/-- The contract of a function that is handed a yield and a pointer to a nil slice: it does nothing. -/
def ctNever (f : FuncId) (ty : TypeId) : Ctr := ⟨f, [.one (.opq 1), .one (.ptr 0 0)], [(0, ⟨false, .cells [.nils] ty⟩)], 2, [], ⟨[], [], 2, 2⟩⟩
/-- What a run's end says. -/
def InR (C : Ctx) : Option Res → Ending → World → Prop
  | none => fun e w' => e = .returned (.bool true) ∧ Frm C.S C.W w'
  | some R => REnd C R
theorem EndAt_of {P : Program} {fn : Func} {C : Ctx} {o : Option Res} {e : Exit} {a : Act} {w : World} (h : EndAt P fn C o e a w) : bodyPostE P fn C.Δ.ds (InR C o) e a w := by
  cases o <;> exact h
/-- A state in a world in which the blocks of its labels are the same. -/
theorem SatH.moved {ρ : Env} {β : Lab} {n : Nat} {h : Heap} {w w' : World} (hs : SatH ρ β n h w) (hsz : w.heap.size ≤ w'.heap.size) (hk : ∀ k, k < w.heap.size → w'.heap[k]? = w.heap[k]?) : SatH ρ β n h w' :=
  ⟨fun l x hl => by
    obtain ⟨h1, h2, h3, h4⟩ := hs.blk l x hl
    exact ⟨h1, h2, fun hb => Nat.lt_of_lt_of_le (h3 hb) hsz, Blk.sat_keep h2 (Lab.agree_refl _ _) (fun hb => hk _ (h3 hb)) h4⟩, hs.inj⟩
/-- The blocks that a state's labels let be written. -/
def wrS (β : Lab) (h : T Ent) (k : Nat) : Prop := ∃ l x, h.get l = some x ∧ x.wr = true ∧ x.blk.hb β ∧ β.b l = k
/-- Behind the range. -/
def Behind (P : Program) (x : Rn) (C : Ctx) (s : S) (F : List Fact) (post : List Code) (R' : Ending → World → Prop) : Prop :=
  ∀ ρ β a w w', (∀ g ∈ F, Fact.holds ρ g) → TS C ρ β x.fn.ntmps s a w → C.Δ = ⟨[], none⟩ →
    w.heap.size + 2 ≤ w'.heap.size → (∀ k, k < w.heap.size → w'.heap[k]? = w.heap[k]?) → w'.heap[w.heap.size]? = some (.deferred (some [])) → Frm (fun _ => False) w w' →
    WPs none P post (bodyPostM Fence.wide 0 P x.fn R') { a with defers := [markOf w.heap.size] } w'

theorem fz_alloc {w : World} {o : Obj} (ho : noCells o = true) (a : Addr) : (w.alloc o).frozen? a = w.frozen? a := by
  have hh : (w.alloc o).heap = w.heap.push o := rfl
  unfold World.frozen?
  rw [hh, Array.getElem?_push]
  by_cases h : a.block = w.heap.size
  · rw [if_pos h, h, Array.getElem?_eq_none (Nat.le_refl _)]
    cases o <;> simp_all [noCells]
  · rw [if_neg h]
theorem laid_size (w : World) (r : Loop) : (laid w r).heap.size = w.heap.size + 2 := by
  show ((w.heap.push (.deferred (some []))).push (.loop r)).size = _
  simp
theorem laid_old (w : World) (r : Loop) {k : Nat} (h : k < w.heap.size) : (laid w r).heap[k]? = w.heap[k]? := by
  show ((w.heap.push (.deferred (some []))).push (.loop r))[k]? = _
  rw [Array.getElem?_push, if_neg (by simp; omega), Array.getElem?_push, if_neg (by omega)]
theorem laid_dfr (w : World) (r : Loop) : (laid w r).heap[w.heap.size]? = some (.deferred (some [])) := by
  show ((w.heap.push (.deferred (some []))).push (.loop r))[w.heap.size]? = _
  rw [Array.getElem?_push, if_neg (by simp), Array.getElem?_push, if_pos rfl]
theorem laid_rec (w : World) (r : Loop) : (laid w r).heap[w.heap.size + 1]? = some (.loop r) := by
  show ((w.heap.push (.deferred (some []))).push (.loop r))[w.heap.size + 1]? = _
  rw [Array.getElem?_push, if_pos (by simp)]
theorem behind_of {P : Program} {x : Rn} {C : Ctx} {s : S} {F : List Fact} {post : List Code} {R' : Ending → World → Prop} (hpost : ∀ C', C'.n0 = 0 → From P x C' s F post none [])
    (hR : ∀ C' e w2 w3, InR C' x.R e w2 → Frm C.S C.W w3 → R' e w3) : Behind P x C s F post R' := by
  intro ρ β a w w' hF hs hΔ hsz hk hd hfr
  have hts : TS ⟨w', wrS β s.heap, 0, β, ρ, ⟨[markOf w.heap.size], none⟩⟩ ρ β x.fn.ntmps s { a with defers := [markOf w.heap.size] } w' :=
    ⟨⟨⟨hs.sat.sa.slot, rfl⟩, hs.sat.sz, SatH.moved hs.sat.sh (by omega) hk⟩, Frm.refl _ _, fun l x hx hw hh => .inr ⟨l, x, hx, hw, hh, rfl⟩, Fix.refl _, Lab.agree_refl _ _, Nat.zero_le _⟩
  have hnot : ¬ wrS β s.heap w.heap.size := by
    rintro ⟨l, y, hy, _, hh, he⟩
    have := (hs.sat.sh.blk l y hy).2.2.1 hh
    omega
  have fin : ∀ e a2 w2, bodyPostE P x.fn [markOf w.heap.size] (InR ⟨w', wrS β s.heap, 0, β, ρ, ⟨[markOf w.heap.size], none⟩⟩ x.R) e a2 w2 → (e = .normal ∨ e = .ret) → LeavesInM Fence.wide 0 P x.fn a2.tmps R' a2.defers .returning w2 := by
    intro e a2 w2 he hor
    have he' : a2.defers = [markOf w.heap.size] ∧ ∃ v, (∀ w', CellsKept w2 w' → (results x.fn a2.tmps).run P w' = .ok v w') ∧ InR ⟨w', wrS β s.heap, 0, β, ρ, ⟨[markOf w.heap.size], none⟩⟩ x.R (.returned v) w2 := by
      rcases hor with rfl | rfl <;> exact he
    obtain ⟨hdef, v, hres, hin⟩ := he'
    have hf2 : Frm (wrS β s.heap) w' w2 := by
      cases hx : x.R with
      | none => rw [hx] at hin; exact hin.2
      | some R => rw [hx] at hin; obtain ⟨β2, h1, _⟩ := hin; exact h1
    have hd2 : w2.heap[w.heap.size]? = some (.deferred (some [])) := by rw [hf2.old _ (by omega) hnot]; exact hd
    have hck : CellsKept w2 (w2.putObj w.heap.size (.deferred none)) := fun k cs t z h => by
      rw [World.putObj_heap_other (by rintro rfl; rw [hd2] at h; cases h)]
      exact h
    have hfrm : Frm C.S C.W (w2.putObj w.heap.size (.deferred none)) := by
      refine ⟨hf2.os.trans (hfr.os.trans hs.frm.os), hf2.tape.trans (hfr.tape.trans hs.frm.tape), hf2.output.trans (hfr.output.trans hs.frm.output), ?_, fun k hk1 hn => ?_, fun ad => ?_⟩
      · have h1 := hs.frm.size
        have h2 := hfr.size
        have h3 := hf2.size
        simp only [World.putObj_size]
        omega
      · have h1 := hs.frm.size
        rw [World.putObj_heap_other (by omega), hf2.old k (by omega) ?_, hk k (by omega), hs.frm.old k hk1 hn]
        rintro ⟨l, y, hy, hw, hh, he⟩
        rcases hs.own l y hy hw hh with h2 | h2
        · omega
        · rw [he] at h2
          exact hn h2
      · rw [fz_put hd2 rfl rfl, hf2.fz, hfr.fz, hs.frm.fz]
    rw [hdef]
    exact ⟨by simp, .inl ⟨w.heap.size, _, rfl, run_takeDeferred hd2, v, hres _ hck, hR _ _ _ _ hin hfrm⟩⟩
  refine (hpost _ rfl ρ β _ w' hF hts).mono fun e a2 w2 he => ?_
  cases e with
  | normal => exact fin .normal a2 w2 (EndAt_of he) (.inl rfl)
  | ret => exact fin .ret a2 w2 (EndAt_of he) (.inr rfl)
  | exit b => exact he.elim
  | panic ch => exact he.elim
  | outgrown => exact he.elim
  | goto l => exact he.elim
theorem never_wps {P : Program} {x : Rn} {C : Ctx} {s : S} {F : List Fact} {pre post : List Code} {b t : Nat} {ps : Array Tmp} {assign bd : Code} {T : Tm} {F1 : List Fact} {cc : List (Nat × Option Int)} {f : FuncId} {lb : Nat} {wr : Bool} {ty : TypeId} {fnf : Func} {R' : Ending → World → Prop}
    (hpre : From P x C s F pre (some ⟨T, F1, cc, []⟩) []) (hslot : T.toS.slots.get t = some (.v (.one (.fn f [] [(lb, 0)])))) (hheap : T.toS.heap.get lb = some ⟨wr, .cells [.nils] ty⟩)
    (hct : (ctNever f ty).ok P) (hfs : P.funcs[f]? = some fnf) (hname : (fnf.name == "runtime.NumGoroutine") = false) (hbn : fnf.body.isNone = false)
    (hR0 : ∀ e w, InR C x.R e w → R' e w) (hbh : Behind P x C T.toS F1 post R') (hΔ : C.Δ = ⟨[], none⟩) :
    ∀ ρ β a w, (∀ g ∈ F, Fact.holds ρ g) → TS C ρ β x.fn.ntmps s a w → WPs none P (pre ++ ([.block b (.rangeFunc (.tmp t) ps assign bd)] ++ post)) (bodyPostM Fence.wide 0 P x.fn R') a w := by
  intro ρ β a w hF hs
  have h0 : WPs C.Δ.rd P pre _ a w := hpre ρ β a w hF hs
  have hrd : C.Δ.rd = none := by rw [hΔ]
  rw [hrd] at h0
  refine WPs.append (h0.mono fun e a w he => ?_)
  cases e with
  | normal =>
    obtain ⟨ρ', β', T', F', htm, hok, hts⟩ := he
    simp only [List.mem_singleton] at htm
    cases htm
    refine WPs.append ?_
    show Code.wpIn (fen none) 0 P (.block b (.rangeFunc (.tmp t) ps assign bd)) (Exit.then (WPs none P [] (Exit.then (WPs none P post (bodyPostM Fence.wide 0 P x.fn R')) (bodyPostM Fence.wide 0 P x.fn R'))) (Exit.then (WPs none P post (bodyPostM Fence.wide 0 P x.fn R')) (bodyPostM Fence.wide 0 P x.fn R'))) a w
    refine wpIn_mono (Q := Exit.then (WPs none P post (bodyPostM Fence.wide 0 P x.fn R')) (bodyPostM Fence.wide 0 P x.fn R')) ?_ fun e a w he => by cases e <;> exact he
    refine wpIn_block ?_
    have hev : a.eval (.tmp t) = .func (.func f) #[] ([(lb, 0)].map β'.pt).toArray := (hts.sat.sa.ev (.tmp t) _ hslot).2
    have hblk := hts.sat.sh.blk lb _ hheap
    have hlt : β'.b lb < w.heap.size := hblk.2.2.1 trivial
    have hcell : w.heap[β'.b lb]? = some (.cells #[.slice none 0 0] ty (0, 0)) := hblk.2.2.2
    refine wp_never hev hfs hname hbn fun r hr hp => ?_
    have hdef : a.defers = [] := hts.sat.sa.defers.trans (by rw [hΔ])
    have hcall := hct ρ' ⟨fun _ => β'.b lb, fun _ => yieldV w⟩ (laid w r) (fun g hg => (by cases hg)) ⟨fun l y hl => by
      have h1 := putSets_mem hl
      simp only [ctNever, List.mem_singleton, Prod.mk.injEq] at h1
      obtain ⟨rfl, rfl⟩ := h1
      refine ⟨Nat.zero_lt_succ _, fun c hc => ?_, fun _ => by rw [laid_size]; show β'.b lb < _; omega, ?_⟩
      · simp only [List.mem_singleton] at hc
        subst hc
        trivial
      · show (laid w r).heap[β'.b lb]? = _
        rw [laid_old _ _ hlt, hcell]
        rfl, fun l l' y y' hl hl' hne => by
      have h1 := putSets_mem hl
      have h2 := putSets_mem hl'
      simp only [ctNever, List.mem_singleton, Prod.mk.injEq] at h1 h2
      exact absurd (h1.1.trans h2.1.symm) hne⟩
    have hargs : ((ctNever f ty).args.map (V1.den ρ' ⟨fun _ => β'.b lb, fun _ => yieldV w⟩)).toArray = #[yieldV w] ++ ([(lb, 0)].map β'.pt).toArray := rfl
    rw [hargs] at hcall
    refine hcall.mono fun e w' ⟨β2, hfr, _, _, _, _, he⟩ => ?_
    have hfr : Frm (fun _ => False) (laid w r) w' := hfr.mono fun k _ hk => by
      obtain ⟨p, hp, hw, _⟩ := hk
      simp only [ctNever, List.mem_singleton] at hp
      subst hp
      cases hw
    have hsz : (laid w r).heap.size ≤ w'.heap.size := hfr.size
    rw [laid_size] at hsz
    have hrec : w'.heap[w.heap.size + 1]? = some (.loop r) := by rw [hfr.old _ (by rw [laid_size]; omega) id, laid_rec]
    refine ⟨⟨_, he⟩, hrec, ?_⟩
    show WPs none P post (bodyPostM Fence.wide 0 P x.fn R') _ _
    rw [hdef]
    refine hbh ρ' β' a w _ hok.2.1 hts hΔ (by simp only [World.putObj_size]; omega) (fun k hk => ?_) ?_ ⟨hfr.os, hfr.tape, hfr.output, by simp only [World.putObj_size]; omega, fun k hk _ => ?_, fun ad => ?_⟩
    · rw [World.putObj_heap_other (by omega), hfr.old k (by rw [laid_size]; omega) id, laid_old _ _ hk]
    · rw [World.putObj_heap_other (by omega), hfr.old _ (by rw [laid_size]; omega) id, laid_dfr]
    · rw [World.putObj_heap_other (by omega), hfr.old k (by rw [laid_size]; omega) id, laid_old _ _ hk]
    · rw [fz_put hrec rfl rfl, hfr.fz]
      unfold laid
      rw [fz_alloc rfl, fz_alloc rfl]
  | ret =>
    have h1 := EndAt_of (o := x.R) he
    rw [hΔ] at h1
    obtain ⟨hdef, v, hres, hin⟩ := h1
    show LeavesInM Fence.wide 0 P x.fn a.tmps R' a.defers .returning w
    rw [hdef]
    exact ⟨v, hres w (CellsKept.refl w), hR0 _ _ hin⟩
  | exit b => exact he.elim
  | panic ch => exact he.elim
  | outgrown => exact he.elim
  | goto l => exact he.elim
/-- A contract of a function in which such a range is. -/
theorem Ctr.ok_never {P : Program} {c : Ctr} {x : Rn} {body : Code} (hf : P.funcs[c.f]? = some x.fn) (hb : x.fn.body = some body) (hbel : c.args.all (V1.bel c.nx) = true)
    (h : ∀ ρ β w, (∀ g ∈ c.facts, Fact.holds ρ g) → ∀ a, TS (c.ctx ρ β w) ρ β x.fn.ntmps c.s0 a w → WPs none P (flat body) (bodyPostM Fence.wide 0 P x.fn (REnd (c.ctx ρ β w) c.R)) a w) : c.ok P := by
  intro ρ β w hk hs
  refine callsIn_wide.1 (callsIn_of_wp_marks (F := Fence.wide) (n := 0) hf hb trivial ?_)
  have hi := SatS.init (ρ := ρ) (β := β) (args := c.args) (heap := putSets .leaf c.heap) (nx := c.nx) (w := w) (nt := x.fn.ntmps) (fun v hv => SV.bel_ok (x := .v v) (List.all_eq_true.1 hbel v hv)) hs
  have ht : TS (c.ctx ρ β w) ρ β x.fn.ntmps c.s0 _ w := ⟨hi, Frm.refl _ _, fun l y hy hw hh => .inr ⟨(l, y), putSets_mem hy, hw, hh, rfl⟩, Fix.refl _, Lab.agree_refl _ _, Nat.le_refl _⟩
  exact WPs.flat (h ρ β w hk _ ht)
section
variable {H : Type} {enc : TypeId × Value → H} {P : Program} {W : World} {base : Nat} {spare : Nat → Bool} {held : Bool} {r : Reach}
theorem law_TSM {f : FuncId} {fn : Func} {body : Code} (hf : P.funcs[f]? = some fn) (hb : fn.body = some body) {ts : List TypeId}
    (hw : ∀ fl ∈ flagsAll P ts, ∃ xs hs k m q, symArgsT P ts 0 0 fl = some (xs, hs, k, m, q) ∧ ∀ ρ : Env, (∀ g ∈ k, Fact.holds ρ g) → ∀ (β : Lab) (W : World) (a : Act), TS (Ctx.law W β ρ) ρ β fn.ntmps ⟨argSlots xs 0 .nil, putSets .leaf hs, q, []⟩ a W → WPs none P (Sx.flat body) (bodyPostM Fence.wide 0 P fn fun e w' => e = .returned (.bool true) ∧ Kept W w') a W)
    {args : Array Value} {ds : List (DataW H)} {ps : List MemPlace} (hsz : args.size = ts.length) (hv : ∀ (j : Nat) (t : TypeId) (v : Value), ts[j]? = some t → args[j]? = some v → Value.okWide P W r base t v) (ht : DataW.TrodAll enc P W 0 spare held ts args.toList ds ps) (hwt : ∀ x ∈ DataW.weightsEach P ts ds, x ≤ reachBytes) :
    Calls P f args W fun e w' => e = .returned (.bool true) ∧ Kept W w' := by
  have hv' : ∀ (j : Nat) (t : TypeId) (v : Value), ts[j]? = some t → args.toList[j]? = some v → Value.okWide P W r base t v := fun j t v ht hj => hv j t v ht (by simpa using hj)
  obtain ⟨xs, hs, k, m, q, hsym, hrun⟩ := hw _ (flags_mem (vs := args.toList) (by simpa using hsz) hv')
  obtain ⟨L, Ts, Bs, a1, a2, a3, a4⟩ := symArgsT_ok hsym hv' ht hwt
  let ρ : Env := ⟨fun i => L.getD i 0, fun i => Ts.getD i (fun _ _ => 0)⟩
  let β : Lab := ⟨fun i => (Bs.getD i (0, .bool true)).1, fun i => (Bs.getD i (0, .bool true)).2⟩
  have hfr : FromN ρ β 0 0 L Ts Bs := ⟨fun i _ => by simp [ρ], fun i T hi => by simp [ρ, List.getD, hi], fun i b hi => by simp [β, List.getD, hi]⟩
  obtain ⟨h1, h2, h3, h4⟩ := a4 ρ β hfr
  refine callsIn_wide.1 (callsIn_of_wp_marks (F := Fence.wide) (n := 0) hf hb trivial ?_)
  have hheap : ∀ l x, (putSets .leaf hs).get l = some x → (l, x) ∈ hs := fun l x hx => putSets_mem hx
  have hi := SatS.init (ρ := ρ) (β := β) (args := xs) (heap := putSets .leaf hs) (nx := q) (w := W) (nt := fn.ntmps) h3 ⟨fun l x hx => by
      obtain ⟨e1, e2, e3, e4, e5, e6⟩ := h4 _ (hheap l x hx)
      exact ⟨e2, e4, fun _ => e5, e6⟩, fun l l' x x' hx hx' hne hw _ _ => by
      have e3 := (h4 _ (hheap l x hx)).2.2.1
      have e3' := (h4 _ (hheap l' x' hx')).2.2.1
      simp only at e3 e3'
      rw [e3, e3'] at hw
      cases hw⟩
  rw [h1, Array.toArray_toList] at hi
  exact WPs.flat (hrun ρ h2 β W _ ⟨hi, Frm.refl _ _, fun l x hx hw _ => absurd hw (by
    have e3 := (h4 _ (hheap l x hx)).2.2.1
    simp only at e3
    rw [e3]
    exact Bool.false_ne_true), Fix.refl _, fun l hl => absurd hl (Nat.not_lt_zero _), Nat.zero_le _⟩)
end
/-- The parts of a block in which a range over a function is. -/
def rngPs (l : List Code) (k : Nat) : Array Tmp := match l[k]? with
  | some (.block _ (.rangeFunc _ ps _ _)) => ps
  | _ => #[]
def rngAs (l : List Code) (k : Nat) : Code := match l[k]? with
  | some (.block _ (.rangeFunc _ _ c _)) => c
  | _ => .skip
def rngBd (l : List Code) (k : Nat) : Code := match l[k]? with
  | some (.block _ (.rangeFunc _ _ _ c)) => c
  | _ => .skip
theorem REnd_flat {C C' : Ctx} {R : Res} (hR : R.heap = []) (hd : ∀ ρ β ρ' β', (svOfList R.vs).den ρ β = (svOfList R.vs).den ρ' β') {e : Ending} {w2 w3 : World} (h : REnd C' R e w2) (hf : Frm C.S C.W w3) : REnd C R e w3 := by
  obtain ⟨β2, _, _, _, _, hb, he⟩ := h
  refine ⟨C.β0, hf, ⟨fun p hp => ?_, fun p hp => ?_⟩, Lab.agree_refl _ _, fun p hp => ?_, hb, by rw [he, hd _ _ C.ρ0 C.β0]⟩
  · rw [hR] at hp; cases hp
  · rw [hR] at hp; cases hp
  · rw [hR] at hp; cases hp
theorem law_kept {W : World} {β : Lab} {ρ : Env} {w : World} (h : Frm (Ctx.law W β ρ).S (Ctx.law W β ρ).W w) : Kept W w := ⟨h.grown fun _ h => h, fun k hk => h.old k hk id⟩
end
end Go.Sx
/-
  SX: A RANGE OVER A FUNCTION, ITS ROUNDS RUN IN PLACE.
-/
namespace Go.Sx
set_option linter.unusedSimpArgs false
set_option linter.unusedVariables false
set_option linter.unusedSectionVars false
noncomputable section
set_option linter.unusedVariables false
/-- A call of a loop's function, and the loop's end, as a step. -/
theorem Step.ranged {ρ : Env} {β β2 : Lab} {n n' : Nat} {h h1 : Heap} {w w2 : World} {s : Sets} {r : Loop} {i : RecI} {cs : List CV} (hs : SatH ρ β n h w) (hh1 : ∀ l x, h1 l = some x → (l = n ∧ x = ⟨true, .lrec i cs⟩) ∨ (l ≠ n ∧ h l = some x)) (hh1' : ∀ l x, l ≠ n → h l = some x → h1 l = some x)
    (st : Step ρ (β.upd n (w.heap.size + 1)) (n + 1) h1 (laid w r) s β2 n' w2) (hn : n ∉ s.labels) (o : Loop) :
    Step ρ β n h w s β2 n' (w2.putObj (w.heap.size + 1) (.loop o)) ∧ w2.heap[w.heap.size + 1]? = some (.loop r) ∧ w2.heap[w.heap.size]? = some (.deferred (some [])) ∧ w.heap.size + 2 ≤ w2.heap.size ∧
      (∀ l x, (h.set s) l = some x → x.blk.hb β2 → β2.b l < w.heap.size ∨ w.heap.size + 2 ≤ β2.b l) := by
  have hag : β.agree n (β.upd n (w.heap.size + 1)) := Lab.upd_agree _ _ _
  have hblk : ∀ k, s.blocks (β.upd n (w.heap.size + 1)) (n + 1) h1 k → s.blocks β n h k := by
    rintro k ⟨l, a1, a2, ⟨x, hx, hh⟩, a3⟩
    rcases hh1 l x hx with ⟨rfl, _⟩ | ⟨hne, hx⟩
    · exact absurd a1 hn
    · have hl := hs.blk l x hx
      exact ⟨l, a1, hl.1, ⟨x, hx, (Blk.hb_agree hag hl.2.1).1 hh⟩, by rw [← a3, (hag l hl.1).1]⟩
  have hlt : ∀ k, s.blocks β n h k → k < w.heap.size := by
    rintro k ⟨l, a1, a2, ⟨x, hx, hh⟩, rfl⟩
    exact (hs.blk l x hx).2.2.1 hh
  have hL : w2.heap[w.heap.size + 1]? = some (.loop r) := by
    rw [st.frm.old _ (by rw [laid_size]; omega) (fun hb => by have := hlt _ (hblk _ hb); omega), laid_rec]
  have hD : w2.heap[w.heap.size]? = some (.deferred (some [])) := by
    rw [st.frm.old _ (by rw [laid_size]; omega) (fun hb => by have := hlt _ (hblk _ hb); omega), laid_dfr]
  have hsz : w.heap.size + 2 ≤ w2.heap.size := by
    have := st.frm.size
    rwa [laid_size] at this
  have hset : ∀ l x, (h.set s) l = some x → l ≠ n ∧ (h1.set s) l = some x := by
    intro l x hx
    by_cases hm : l ∈ s.labels
    · have hne : l ≠ n := fun e => hn (e ▸ hm)
      rw [Heap.set_of_mem hm] at hx ⊢
      exact ⟨hne, hx⟩
    · rw [Heap.set_of_not_mem hm] at hx ⊢
      have hl := (hs.blk l x hx).1
      have hne : l ≠ n := by omega
      exact ⟨hne, hh1' l x hne hx⟩
  have hne : ∀ l x, (h.set s) l = some x → x.blk.hb β2 → β2.b l < w.heap.size ∨ w.heap.size + 2 ≤ β2.b l := by
    intro l x hx hh
    by_cases hm : l ∈ s.labels
    · rw [Heap.set_of_mem hm] at hx
      by_cases hln : l < n + 1
      · obtain ⟨y, hy, _, hyh⟩ := st.own l x hx hln
        rcases hh1 l y hy with ⟨rfl, _⟩ | ⟨_, hy⟩
        · exact absurd hm hn
        · have hl := hs.blk l y hy
          left
          rw [(st.agree l hln).1, (hag l hl.1).1]
          exact hl.2.2.1 ((Blk.hb_agree hag hl.2.1).1 (hyh hh))
      · rcases (st.new l x hx (by omega)).2 hh with a | a
        · right
          rwa [laid_size] at a
        · left
          exact hlt _ (hblk _ a)
    · rw [Heap.set_of_not_mem hm] at hx
      have hl := hs.blk l x hx
      left
      rw [(st.agree l (by omega)).1, (hag l hl.1).1]
      have hh' := (Blk.hb_agree (Lab.agree_trans hag (Nat.le_succ n) st.agree) hl.2.1).1 hh
      exact hl.2.2.1 hh'
  refine ⟨⟨by have := st.le; omega, Lab.agree_trans hag (Nat.le_succ n) st.agree, ⟨fun l x hx => ?_, fun l l' x x' hx hx' hll hw => st.sat.inj l l' x x' (hset l x hx).2 (hset l' x' hx').2 hll hw⟩, ⟨st.frm.os, st.frm.tape, st.frm.output, ?_, fun k hk hb => ?_, fun a => ?_⟩, fun l x hx hln => ?_, fun l x hx hln => ?_⟩, hL, hD, hsz, hne⟩
  · obtain ⟨a1, a2, a3, a4⟩ := st.sat.blk l x (hset l x hx).2
    refine ⟨a1, a2, fun hh => by rw [World.putObj_size]; exact a3 hh, Blk.sat_keep a2 (Lab.agree_refl _ _) (fun hh => ?_) a4⟩
    rw [World.putObj_heap_other (by have := hne l x hx hh; omega)]
  · rw [World.putObj_size]
    omega
  · rw [World.putObj_heap_other (by omega), st.frm.old k (by rw [laid_size]; omega) (fun a => hb (hblk _ a)), laid_old _ _ hk]
  · rw [fz_put hL rfl rfl, st.frm.fz]
    unfold laid
    rw [fz_alloc rfl, fz_alloc rfl]
  · obtain ⟨y, hy, a1, a2⟩ := st.own l x hx (by omega)
    rcases hh1 l y hy with ⟨rfl, _⟩ | ⟨_, hy⟩
    · exact absurd hln (Nat.lt_irrefl _)
    · have hl := hs.blk l y hy
      exact ⟨y, hy, a1, fun hh => (Blk.hb_agree hag hl.2.1).1 (a2 hh)⟩
  · have hne' : l ≠ n := fun e => hn (e ▸ Sets.find_mem hx)
    obtain ⟨a1, a2⟩ := st.new l x hx (by omega)
    refine ⟨a1, fun hh => ?_⟩
    rcases a2 hh with a | a
    · left
      rw [laid_size] at a
      omega
    · exact .inr (hblk _ a)
/-- The slots that a round may look at. -/
def lrecCs (sl : Sl) : List Tmp → Option (List CV)
  | [] => some []
  | t :: ts => match sl.get t, lrecCs sl ts with
    | some (.v (.one c)), some cs => some (c :: cs)
    | _, _ => none
theorem lrecCs_ok {sl : Sl} : ∀ {ts : List Tmp} {cs : List CV}, lrecCs sl ts = some cs → cs.length = ts.length ∧ ∀ (j : Nat) (t : Tmp) (c : CV), ts[j]? = some t → cs[j]? = some c → sl.get t = some (.v (.one c))
  | [], cs, h => by cases h; exact ⟨rfl, fun j t c h => by simp at h⟩
  | t :: ts, cs, h => by
    simp only [lrecCs] at h
    split at h
    · rename_i c cs' h1 h2
      cases h
      have ih := lrecCs_ok h2
      refine ⟨by simp [ih.1], fun j t' c' ht hc => ?_⟩
      cases j with
      | zero =>
        simp only [List.getElem?_cons_zero, Option.some.injEq] at ht hc
        subst ht; subst hc
        exact h1
      | succ j => exact ih.2 j t' c' (by simpa using ht) (by simpa using hc)
    · cases h
/-- The states behind the range. -/
def rangeSts (s : S) (h1 : T Ent) (n : Nat) : EAlts → Option Outs
  | [] => some []
  | (k, e) :: r => match e.sets.any (fun p => Nat.beq p.1 n) with
    | true => none
    | false => k.whK fun k => e.deepK fun e => S.whK ⟨s.slots, T.put 40 (putSets h1 e.sets) n ⟨false, .dead⟩, e.nx, s.log⟩ fun s' => match rangeSts s h1 n r with
      | some os => some ((k, .nrm, s') :: os)
      | none => none
theorem rangeSts_ok {s : S} {h1 : T Ent} {n : Nat} : ∀ {l : EAlts} {outs : Outs}, rangeSts s h1 n l = some outs → ∀ o ∈ l, (∀ p ∈ o.2.sets, p.1 ≠ n) ∧ ∃ lg : List Nat, (o.1, .nrm, (⟨s.slots, T.put 40 (putSets h1 o.2.sets) n ⟨false, .dead⟩, o.2.nx, s.log⟩ : S)) ∈ outs
  | [], outs, h, o, ho => by cases ho
  | (k, e) :: r, outs, h, o, ho => by
    simp only [rangeSts, Known.whK_eq, Eff.deepK_eq, S.whK_eq] at h
    split at h
    · cases h
    · rename_i hany
      split at h
      · rename_i os hos
        cases h
        have ih := rangeSts_ok hos
        rcases List.mem_cons.1 ho with rfl | ho
        · refine ⟨fun p hp e => ?_, [], List.mem_cons_self ..⟩
          have := List.any_eq_false.1 hany p hp
          rw [e, Nat.beq_refl] at this
          exact this rfl
        · obtain ⟨a, lg, b⟩ := ih o ho
          exact ⟨a, lg, List.mem_cons_of_mem _ b⟩
      · cases h
def rangeK (x : Rn) (Tp : Tm) (t : Nat) (i : RecI) (N : Tgt) (k : Known) : Option (List Lft) := match Tp.toS.slots.get t, lrecCs Tp.toS.slots i.ts with
  | some (.v (.one (.fn f [] caps))), some cs =>
    (match callN (mkCfgM x.ty x.fm x.hn) x.n f (.one (.yld Tp.nx) :: caps.map ptrV) (T.put 40 Tp.toS.heap Tp.nx ⟨true, .lrec i cs⟩) (Nat.succ Tp.nx) k with
    | some l => (match rangeSts Tp.toS (T.put 40 Tp.toS.heap Tp.nx ⟨true, .lrec i cs⟩) Tp.nx l with
      | some outs => obsB x (some N) [] outs
      | none => none)
    | none => none)
  | _, _ => none
def rangeP (x : Rn) (Tp : Tm) (facts : List Fact) (t : Nat) (i : RecI) (N : Tgt) (path : List (E × Bool)) : Option (List Lft) :=
  Known.addsK Known.nil facts fun k => assumesK k path fun k => rangeK x Tp t i N k
def GoodRg (x : Rn) (Tp : Tm) (facts : List Fact) (t : Nat) (i : RecI) (N : Tgt) (p : List (E × Bool)) : Prop :=
  ∃ obs, rangeP x Tp facts t i N p = some obs ∧ ∀ ρ, (∀ g ∈ facts, Fact.holds ρ g) → ObsOk ρ obs
theorem wp_range {P : Program} {g : Operand} {ps : Array Tmp} {assign body : Code} {Q : Exit → Act → World → Prop} {a : Act} {w : World} {f : FuncId} {caps : Array Value} {fnf : Func}
    (hg : a.eval g = .func (.func f) #[] caps) (hfs : P.funcs[f]? = some fnf) (hname : (fnf.name == "runtime.NumGoroutine") = false) (hbn : fnf.body.isSome = true)
    (hcall : ∀ r : Loop, r.state = .ready → r.pending = none → r.tmps = a.tmps → r.params = ps → r.assign = assign → r.body = body → Calls P f (#[yieldV w] ++ caps) (laid w r) fun e w' =>
      (∃ v, e = .returned v) ∧ w'.heap[w.heap.size + 1]? = some (.loop r) ∧ Q .normal { a with defers := markOf w.heap.size :: a.defers } (w'.putObj (w.heap.size + 1) (.loop { r with state := .exhausted }))) :
    (Code.rangeFunc g ps assign body).wpIn (fen none) 0 P Q a w := by
  have hbn' : fnf.body.isNone = false := by cases hb : fnf.body <;> simp_all
  refine wpIn_rangeFunc (F := Fence.wide) fun fn _ => ?_
  have hres : (Go.resolve a.eval (rangeCall g (w.heap.size + 1)) 0).run P (laid w { state := .ready, pending := none, fn, tmps := a.tmps, params := ps, assign, body, defers := w.heap.size }) =
      .ok ⟨.fn (.func f) caps, #[yieldV w]⟩ (laid w { state := .ready, pending := none, fn, tmps := a.tmps, params := ps, assign, body, defers := w.heap.size }) := by
    have harg : (#[] : Array Value) ++ Array.map a.eval #[Operand.const (Value.func (Fn.yield (w.heap.size + 1)) #[] #[])] = #[yieldV w] := by simp [yieldV, Act.eval]
    simp only [Go.resolve, hg, Deferred.ofValue, Sem.run_pure, harg]
  refine ⟨w.heap.size + 1, [markOf w.heap.size], _, ⟨.fn (.func f) caps, #[yieldV w]⟩, _, f, #[yieldV w] ++ caps, _, run_enterLoop_outer .., hres, fun _ _ => trivial, ?_, fun h => (by cases h), callsIn_wide.2 ((hcall { state := .ready, pending := none, fn, tmps := a.tmps, params := ps, assign, body, defers := w.heap.size } rfl rfl rfl rfl rfl rfl).mono fun e w' h => ?_)⟩
  · simp only [invoke, callFunc, Sem.run_bind, Sem.run_pure, Result.andThen_ok, run_program, hfs, hname, hbn', Bool.false_eq_true, if_false]
  · obtain ⟨⟨v, rfl⟩, h1, h2⟩ := h
    exact ⟨none, _, run_endLoop h1 (by simp), h2⟩
theorem TS.step {C : Ctx} {ρ : Env} {β β' : Lab} {nt : Nat} {s s' : S} {a : Act} {w w' : World} {t : Sets} (h : TS C ρ β nt s a w) (st : Step ρ β s.nx s.heap.get w t β' s'.nx w') (hsl : s'.slots = s.slots)
    (hh : ∀ l x, s'.heap.get l = some x → (Heap.set s.heap.get t) l = some x ∨ (x = ⟨false, .dead⟩ ∧ l < s'.nx)) : TS C ρ β' nt s' a w' := by
  have hblocks : ∀ k, t.blocks β s.nx s.heap.get k → C.W.heap.size ≤ k ∨ C.S k := by
    rintro k ⟨l, hl, hn, ⟨y, hy, hyh⟩, he⟩
    obtain ⟨z, hz⟩ := Sets.mem_find hl
    obtain ⟨y', hy', hyw, _⟩ := st.own l z hz hn
    rw [hy] at hy'
    cases hy'
    have := h.own l y hy hyw hyh
    rw [he] at this
    exact this
  refine ⟨⟨⟨fun i v hv => ?_, h.sat.sa.defers⟩, h.sat.sz, ⟨fun l x hx => ?_, fun l l' x x' hx hx' hne hw hb hb' => ?_⟩⟩, Frm.trans h.frm st.frm fun k hk hb => ?_, fun l x hx hw hb => ?_, h.fix, fun l hl => ?_, Nat.le_trans h.le st.le⟩
  · rw [hsl] at hv
    obtain ⟨a1, a2⟩ := h.sat.sa.slot i v hv
    exact ⟨SV.below_mono st.le a1, by rw [a2, SV.den_agree st.agree a1]⟩
  · rcases hh l x hx with h1 | ⟨rfl, h2⟩
    · exact st.sat.blk l x h1
    · exact ⟨h2, trivial, fun hf => hf.elim, trivial⟩
  · rcases hh l x hx with h1 | ⟨rfl, _⟩
    · rcases hh l' x' hx' with h2 | ⟨rfl, _⟩
      · exact st.sat.inj l l' x x' h1 h2 hne hw hb hb'
      · exact hb'.elim
    · exact hb.elim
  · have h3 := h.frm.size
    rcases hblocks k hb with h1 | h1
    · omega
    · exact h1
  · rcases hh l x hx with h1 | ⟨rfl, _⟩
    · by_cases hm : l ∈ t.labels
      · rw [Heap.set_of_mem hm] at h1
        by_cases hn : l < s.nx
        · obtain ⟨y, hy, hyw, hyh⟩ := st.own l x h1 hn
          rw [(st.agree l hn).1]
          exact h.own l y hy hyw (hyh hb)
        · have h3 := h.frm.size
          rcases (st.new l x h1 (by omega)).2 hb with h2 | h2
          · exact .inl (by omega)
          · exact hblocks _ h2
      · rw [Heap.set_of_not_mem hm] at h1
        have hbk := h.sat.sh.blk l x h1
        rw [(st.agree l hbk.1).1]
        exact h.own l x h1 hw ((Blk.hb_agree st.agree hbk.2.1).1 hb)
    · cases hw
  · have h1 := st.agree l (Nat.lt_of_lt_of_le hl h.le)
    exact ⟨h1.1.trans (h.lab l hl).1, h1.2.trans (h.lab l hl).2⟩
/-- A state that has come to one of a target's templates. -/
theorem meets_of {x : Rn} {g : Tgt} {X : List (Nat × Tgt)} {k : Known} {s : S} {wh : What} (hwh : whatOf k x.ty x.fn x.R (some g) X .nrm s = some wh) {ρ : Env} (hok : Known.holds ρ k) (hin : ∀ r ∈ settled k (some g) X wh, r.holds ρ)
    {C : Ctx} (hC : ∀ p ∈ (g.t, g.F) :: g.m, C.n0 ≤ p.1.n0) {β : Lab} {a : Act} {w : World} (hts : TS C ρ β x.fn.ntmps s a w) : Meets C x.fn.ntmps ρ g a w := by
  simp only [whatOf] at hwh
  cases hr : pickA k s ((g.t, g.F) :: g.m) with
  | none => rw [hr] at hwh; cases hwh
  | some Fm =>
    obtain ⟨F, ps⟩ := Fm
    rw [hr] at hwh
    cases hwh
    obtain ⟨t, htm, hr⟩ := pickA_mem hr
    have next : ∃ ρ', Eqs ρ ρ' ps.ps ps.ts ∧ g.ok ρ F ρ' := solved_ok hok hin
    obtain ⟨ρ', h1, h2⟩ := next
    obtain ⟨β2, hts2⟩ := matchS_ok hr h1 (hts.fix.trans h2.1) (hC _ htm) hts
    exact ⟨ρ', β2, t, F, htm, h2, hts2⟩
section
variable {P : Program} {x : Rn} (hm : P.follows .mixedOrders = true) (hty : TysOk P x.ty) (hfn : FnOk P x.fm) (hct : ∀ ρ, CallOk P ρ x.hn.ct)
include hm hty hfn hct in
theorem range_wps {C : Ctx} {s : S} {F F1 lem : List Fact} {pre post : List Code} {b t : Nat} {ps : Array Tmp} {assign bd : Code} {Tp : Tm} {cc : List (Nat × Option Int)} {ts : List Tmp} {gE : Tgt} {tr : DT} {R : Res}
    (hpre : From P x C s F pre (some ⟨Tp, F1, cc, []⟩) []) (hg : ∀ p ∈ tr.paths, GoodRg x Tp (F1 ++ lem) t ⟨x.fn.ntmps, ps, assign, bd, ts⟩ gE p) (hlem : ∀ ρ, (∀ g ∈ F1, Fact.holds ρ g) → ∀ g ∈ lem, Fact.holds ρ g)
    (hLab : LabsOk C x.R (some gE) []) (hpost : ∀ C', C'.n0 = C.n0 → AllF P x C' gE post none []) (hR : x.R = some R) (hwr : R.heap.all (fun p => p.2.wr) = true) (hΔ : C.Δ = ⟨[], none⟩) :
    ∀ ρ β a w, (∀ g ∈ F, Fact.holds ρ g) → TS C ρ β x.fn.ntmps s a w → WPs none P (pre ++ ([.block b (.rangeFunc (.tmp t) ps assign bd)] ++ post)) (bodyPostM Fence.wide 0 P x.fn (REnd C R)) a w := by
  intro ρ0 β0 a w hF hs
  have h0 : WPs C.Δ.rd P pre _ a w := hpre ρ0 β0 a w hF hs
  have hrd : C.Δ.rd = none := by rw [hΔ]
  rw [hrd] at h0
  refine WPs.append (h0.mono fun e a w he => ?_)
  cases e with
  | normal =>
    obtain ⟨ρ, β, T', F', htm, hok, hts⟩ := he
    simp only [List.mem_singleton] at htm
    cases htm
    refine WPs.append ?_
    show Code.wpIn (fen none) 0 P (.block b (.rangeFunc (.tmp t) ps assign bd)) (Exit.then (WPs none P [] (Exit.then (WPs none P post (bodyPostM Fence.wide 0 P x.fn (REnd C R))) (bodyPostM Fence.wide 0 P x.fn (REnd C R)))) (Exit.then (WPs none P post (bodyPostM Fence.wide 0 P x.fn (REnd C R))) (bodyPostM Fence.wide 0 P x.fn (REnd C R)))) a w
    refine wpIn_mono (Q := Exit.then (WPs none P post (bodyPostM Fence.wide 0 P x.fn (REnd C R))) (bodyPostM Fence.wide 0 P x.fn (REnd C R))) ?_ fun e a w he => by cases e <;> exact he
    refine wpIn_block ?_
    obtain ⟨p, hp, hc⟩ := DT.cover ρ tr
    obtain ⟨obs, hrun, hob⟩ := hg p hp
    have hall : ∀ g ∈ F1 ++ lem, Fact.holds ρ g := fun g hg => by
      rcases List.mem_append.1 hg with h | h
      · exact hok.2.1 g h
      · exact hlem ρ hok.2.1 g h
    unfold rangeP at hrun
    rw [Known.addsK_eq, assumesK_eq] at hrun
    have hk0 := assumes_holds (Known.adds_holds (Known.nil_holds ρ) hall) hc
    generalize hk0e : assumes (Known.nil.adds (F1 ++ lem)) p = k0 at hrun hk0
    have hobs := hob ρ hall
    unfold rangeK at hrun
    split at hrun
    · rename_i f caps cs hslot hcs
      split at hrun
      · rename_i l hl
        split at hrun
        · rename_i outs houts
          obtain ⟨hfy, hl⟩ := callN_ok hl
          have hsound := call_sound hm hty hfn ρ x.hn (hct ρ) x.n f _ _ _ _ _ hl
          obtain ⟨o, ho, hko⟩ := hsound.1 hk0
          have hgood := (hsound.2 o ho hko).2
          obtain ⟨fnf, hfm, hbody⟩ := callDom x.n _ _ _ _ _ _ hfy hl
          obtain ⟨hfs, hname⟩ := hfn _ _ hfm
          have hevs := hts.sat.sa.ev (.tmp t) _ hslot
          have hev : a.eval (.tmp t) = .func (.func f) #[] (caps.map β.pt).toArray := hevs.2
          have hcb : ∀ q ∈ caps, q.1 < Tp.nx := hevs.1.2
          refine wp_range hev hfs hname hbody fun r hr1 hr2 hr3 hr4 hr5 hr6 => ?_
          have hdef : a.defers = [] := hts.sat.sa.defers.trans (by rw [hΔ])
          -- the record in memory
          have hag : β.agree Tp.nx (β.upd Tp.nx (w.heap.size + 1)) := Lab.upd_agree _ _ _
          have hput : ∀ l y, (T.put 40 Tp.toS.heap Tp.nx ⟨true, .lrec ⟨x.fn.ntmps, ps, assign, bd, ts⟩ cs⟩).get l = some y → (l = Tp.nx ∧ y = ⟨true, .lrec ⟨x.fn.ntmps, ps, assign, bd, ts⟩ cs⟩) ∨ (l ≠ Tp.nx ∧ Tp.toS.heap.get l = some y) := fun l y hy => by
            rcases T.get_put 40 Tp.toS.heap Tp.nx l _ y hy with h | h
            · exact .inl h
            · exact .inr h
          have hcsv : ∀ c ∈ cs, CV.below Tp.nx c := fun c hc => by
            obtain ⟨j, hj⟩ := List.getElem?_of_mem hc
            have hlen := (lrecCs_ok hcs).1
            have hlt : j < ts.length := by rw [← hlen]; exact (List.getElem?_eq_some_iff.1 hj).1
            exact (hts.sat.sa.slot _ _ ((lrecCs_ok hcs).2 j ts[j] c (List.getElem?_eq_getElem hlt) hj)).1
          have hrec : LrecAt (laid w r) (w.heap.size + 1) ⟨x.fn.ntmps, ps, assign, bd, ts⟩ (cs.map (CV.den ρ (β.upd Tp.nx (w.heap.size + 1)))) := by
            refine ⟨r, laid_rec w r, hr1, hr2, hr4, hr5, hr6, by rw [hr3]; exact hts.sat.sz, fun j t' u h1 h2 => ?_⟩
            rw [List.getElem?_map] at h2
            cases hcj : cs[j]? with
            | none => rw [hcj] at h2; cases h2
            | some c =>
              rw [hcj] at h2
              cases h2
              obtain ⟨g1, g2⟩ := hts.sat.sa.slot _ _ ((lrecCs_ok hcs).2 j t' c h1 hcj)
              rw [hr3, g2]
              exact congrArg some (CV.den_agree hag g1).symm
          have hsh := hts.sat.sh
          let h1 : Heap := fun l => if l = Tp.nx then some ⟨true, .lrec ⟨x.fn.ntmps, ps, assign, bd, ts⟩ cs⟩ else Tp.toS.heap.get l
          have h1c : ∀ l y, h1 l = some y → (l = Tp.nx ∧ y = ⟨true, .lrec ⟨x.fn.ntmps, ps, assign, bd, ts⟩ cs⟩) ∨ (l ≠ Tp.nx ∧ Tp.toS.heap.get l = some y) := fun l y hy => by
            by_cases e : l = Tp.nx
            · simp only [h1, e, if_true, Option.some.injEq] at hy
              exact .inl ⟨e, hy.symm⟩
            · simp only [h1, e, if_false] at hy
              exact .inr ⟨e, hy⟩
          have hold : ∀ l y, Tp.toS.heap.get l = some y → l < Tp.nx := fun l y hy => (hsh.blk l y hy).1
          have hs1 : SatH ρ (β.upd Tp.nx (w.heap.size + 1)) (Tp.nx + 1) h1 (laid w r) := by
            have hat : (β.upd Tp.nx (w.heap.size + 1)).b Tp.nx = w.heap.size + 1 := Lab.upd_same _ _ _
            refine ⟨fun l y hy => ?_, fun l l' y y' hy hy' hne hw hb hb' => ?_⟩
            · rcases h1c l y hy with ⟨rfl, rfl⟩ | ⟨_, hy⟩
              · exact ⟨Nat.lt_succ_self _, fun c hc => CV.below_mono (Nat.le_succ _) (hcsv c hc), fun _ => by rw [hat, laid_size]; omega, by rw [hat]; exact hrec⟩
              · obtain ⟨b1, b2, b3, b4⟩ := hsh.blk l y hy
                have hbl := (hag l b1).1
                refine ⟨Nat.lt_succ_of_lt b1, Blk.below_mono (Nat.le_succ _) b2, fun hh => ?_, ?_⟩
                · have := b3 ((Blk.hb_agree hag b2).1 hh)
                  rw [hbl, laid_size]
                  omega
                · rw [hbl]
                  exact Blk.sat_keep b2 hag (fun hh => laid_old w r (b3 hh)) b4
            · rcases h1c l y hy with ⟨rfl, rfl⟩ | ⟨_, hy⟩
              · rcases h1c l' y' hy' with ⟨rfl, rfl⟩ | ⟨_, hy'⟩
                · exact absurd rfl hne
                · obtain ⟨b1, b2, b3, b4⟩ := hsh.blk l' y' hy'
                  rw [hat, (hag l' b1).1]
                  have := b3 ((Blk.hb_agree hag b2).1 hb')
                  omega
              · obtain ⟨b1, b2, b3, b4⟩ := hsh.blk l y hy
                rcases h1c l' y' hy' with ⟨rfl, rfl⟩ | ⟨_, hy'⟩
                · rw [hat, (hag l b1).1]
                  have := b3 ((Blk.hb_agree hag b2).1 hb)
                  omega
                · obtain ⟨c1, c2, _, _⟩ := hsh.blk l' y' hy'
                  rw [(hag l b1).1, (hag l' c1).1]
                  exact hsh.inj l l' y y' hy hy' hne hw ((Blk.hb_agree hag b2).1 hb) ((Blk.hb_agree hag c2).1 hb')
          have hsub1 : ∀ l y, (T.put 40 Tp.toS.heap Tp.nx ⟨true, .lrec ⟨x.fn.ntmps, ps, assign, bd, ts⟩ cs⟩).get l = some y → h1 l = some y := fun l y hy => by
            rcases hput l y hy with ⟨rfl, rfl⟩ | ⟨hne, hy⟩
            · simp [h1]
            · simp only [h1, hne, if_false]
              exact hy
          have hcall := (hgood (β.upd Tp.nx (w.heap.size + 1)) (laid w r) (fun v hv => by
            rcases List.mem_cons.1 hv with rfl | hv
            · exact Nat.lt_succ_self _
            · obtain ⟨q, hq, rfl⟩ := List.mem_map.1 hv
              exact Nat.lt_succ_of_lt (hcb q hq)) (hs1.sub hsub1)).fn hfy
          have hargs : ((V1.one (.yld Tp.nx) :: caps.map ptrV).map (V1.den ρ (β.upd Tp.nx (w.heap.size + 1)))).toArray = #[yieldV w] ++ (caps.map β.pt).toArray := by
            apply Array.ext'
            simp only [List.map_cons, ptrV_den, Array.toList_append]
            rw [pt_agree hag caps hcb]
            simp [V1.den, CV.den, yieldV, Lab.upd_same]
          rw [hargs] at hcall
          refine hcall.mono fun e w2 ⟨β2, st, hbe, he⟩ => ?_
          obtain ⟨hno, lg, hmem⟩ := rangeSts_ok houts o ho
          have hnl : Tp.nx ∉ o.2.sets.labels := fun hmm => by
            obtain ⟨q, hq, hqe⟩ := List.mem_map.1 hmm
            exact hno q hq hqe
          have st1 := Step.frame st hsub1 hs1
          obtain ⟨st2, hL, hD, hsz, hsep⟩ := Step.ranged (o := { r with state := .exhausted }) hsh h1c (fun l y hne hy => by show (if l = Tp.nx then _ else _) = _; rw [if_neg (show l ≠ Tp.nx from hne)]; exact hy) st1 hnl
          refine ⟨⟨_, he⟩, hL, ?_⟩
          generalize hw3 : w2.putObj (w.heap.size + 1) (.loop { r with state := .exhausted }) = w3 at st2 ⊢
          have hD3 : w3.heap[w.heap.size]? = some (.deferred (some [])) := by
            rw [← hw3, World.putObj_heap_other (by omega), hD]
          have hsz3 : w.heap.size + 2 ≤ w3.heap.size := by
            rw [← hw3, World.putObj_size]
            exact hsz
          have hts3 : TS C ρ β2 x.fn.ntmps ⟨Tp.toS.slots, T.put 40 (putSets (T.put 40 Tp.toS.heap Tp.nx ⟨true, .lrec ⟨x.fn.ntmps, ps, assign, bd, ts⟩ cs⟩) o.2.sets) Tp.nx ⟨false, .dead⟩, o.2.nx, Tp.toS.log⟩ a w3 := by
            refine TS.step hts st2 rfl fun l y hy => ?_
            rcases T.get_put 40 _ Tp.nx l _ y hy with ⟨rfl, rfl⟩ | ⟨hne, hy⟩
            · have := st.le
              exact .inr ⟨rfl, by show Tp.nx < o.2.nx; omega⟩
            · have h2 := putSets_get _ _ _ _ hy
              left
              by_cases hmm : l ∈ o.2.sets.labels
              · rw [Heap.set_of_mem hmm] at h2 ⊢
                exact h2
              · rw [Heap.set_of_not_mem hmm] at h2 ⊢
                rcases hput l y h2 with ⟨e, _⟩ | ⟨_, h3⟩
                · exact absurd e hne
                · exact h3
          generalize hS3 : (⟨Tp.toS.slots, T.put 40 (putSets (T.put 40 Tp.toS.heap Tp.nx ⟨true, .lrec ⟨x.fn.ntmps, ps, assign, bd, ts⟩ cs⟩) o.2.sets) Tp.nx ⟨false, .dead⟩, o.2.nx, Tp.toS.log⟩ : S) = s3 at hts3 hmem
          have hsep3 : ∀ l y, s3.heap.get l = some y → y.blk.hb β2 → β2.b l ≠ w.heap.size := by
            intro l y hy hh
            have hcase : (Heap.set Tp.toS.heap.get o.2.sets) l = some y ∨ y = ⟨false, .dead⟩ := by
              rw [← hS3] at hy
              rcases T.get_put 40 _ Tp.nx l _ y hy with ⟨rfl, rfl⟩ | ⟨hne, hy⟩
              · exact .inr rfl
              · have h2 := putSets_get _ _ _ _ hy
                left
                by_cases hmm : l ∈ o.2.sets.labels
                · rw [Heap.set_of_mem hmm] at h2 ⊢
                  exact h2
                · rw [Heap.set_of_not_mem hmm] at h2 ⊢
                  rcases hput l y h2 with ⟨e, _⟩ | ⟨_, h3⟩
                  · exact absurd e hne
                  · exact h3
            rcases hcase with h2 | rfl
            · have := hsep l y h2 hh
              omega
            · exact hh.elim
          -- from there on, with a first world of its own
          have hts4 : TS ⟨w3, wrS β2 s3.heap, C.n0, C.β0, C.ρ0, ⟨[markOf w.heap.size], none⟩⟩ ρ β2 x.fn.ntmps s3 { a with defers := markOf w.heap.size :: a.defers } w3 :=
            ⟨⟨⟨hts3.sat.sa.slot, by rw [hdef]⟩, hts3.sat.sz, hts3.sat.sh⟩, Frm.refl _ _, fun l y hy hw hh => .inr ⟨l, y, hy, hw, hh, rfl⟩, hts3.fix, hts3.lab, hts3.le⟩
          obtain ⟨wh, hwh, hin⟩ := obsB_ok hrun _ hmem
          obtain ⟨ρ3, β3, T3, F3, htm3, hok3, hts5⟩ := meets_of (C := ⟨w3, wrS β2 s3.heap, C.n0, C.β0, C.ρ0, ⟨[markOf w.heap.size], none⟩⟩) hwh hko (hin ρ hko hobs) (fun q hq => hLab.n gE rfl q hq) hts4
          have hfin := hpost ⟨w3, wrS β2 s3.heap, C.n0, C.β0, C.ρ0, ⟨[markOf w.heap.size], none⟩⟩ rfl _ htm3 ρ3 β3 _ w3 hok3.2.1 hts5
          have hnot : ¬ wrS β2 s3.heap w.heap.size := by
            rintro ⟨l, y, hy, _, hh, he⟩
            exact hsep3 l y hy hh he
          have hwS : ∀ k, wrS β2 s3.heap k → C.W.heap.size ≤ k ∨ C.S k := by
            rintro k ⟨l, y, hy, hw, hh, rfl⟩
            exact hts3.own l y hy hw hh
          have hCsz := hts.frm.size
          have fin : ∀ e a4 w4, bodyPostE P x.fn [markOf w.heap.size] (REnd ⟨w3, wrS β2 s3.heap, C.n0, C.β0, C.ρ0, ⟨[markOf w.heap.size], none⟩⟩ R) e a4 w4 → (e = .normal ∨ e = .ret) → LeavesInM Fence.wide 0 P x.fn a4.tmps (REnd C R) a4.defers .returning w4 := by
            intro e a4 w4 he hor
            have he' : a4.defers = [markOf w.heap.size] ∧ ∃ v, (∀ w', CellsKept w4 w' → (results x.fn a4.tmps).run P w' = .ok v w') ∧ REnd ⟨w3, wrS β2 s3.heap, C.n0, C.β0, C.ρ0, ⟨[markOf w.heap.size], none⟩⟩ R (.returned v) w4 := by
              rcases hor with rfl | rfl <;> exact he
            obtain ⟨hdef4, v, hres, β4, hf4, hL4, hag4, hown4, hbel4, hret4⟩ := he'
            simp only at hf4 hag4 hown4 hL4 hret4
            have hD4 : w4.heap[w.heap.size]? = some (.deferred (some [])) := by rw [hf4.old _ (by omega) hnot]; exact hD3
            have hck : CellsKept w4 (w4.putObj w.heap.size (.deferred none)) := fun k cs t z h => by
              rw [World.putObj_heap_other (by rintro rfl; rw [hD4] at h; cases h)]
              exact h
            have hsz4 := hf4.size
            have hne4 : ∀ q ∈ R.heap, q.2.blk.hb β4 → β4.b q.1 ≠ w.heap.size := by
              intro q hq hh
              have hw := List.all_eq_true.1 hwr q hq
              rcases hown4 q hq hw hh with h1 | h1
              · omega
              · intro e
                rw [e] at h1
                exact hnot h1
            rw [hdef4]
            refine ⟨by simp, .inl ⟨w.heap.size, _, rfl, run_takeDeferred hD4, v, hres _ hck, β4, ?_, ⟨fun q hq => ?_, hL4.inj⟩, hag4, fun q hq hw hh => ?_, hbel4, hret4⟩⟩
            · have hf3 := hts3.frm
              refine ⟨hf4.os.trans hf3.os, hf4.tape.trans hf3.tape, hf4.output.trans hf3.output, ?_, fun k hk1 hn => ?_, fun ad => ?_⟩
              · have := hf3.size
                rw [World.putObj_size]
                omega
              · have h3 := hf3.size
                rw [World.putObj_heap_other (by omega), hf4.old k (by omega) (fun hw => ?_), hf3.old k hk1 hn]
                rcases hwS k hw with h1 | h1
                · omega
                · exact hn h1
              · rw [fz_put hD4 rfl rfl, hf4.fz, hf3.fz]
            · obtain ⟨b1, b2, b3, b4⟩ := hL4.blk q hq
              exact ⟨b1, b2, fun hh => by rw [World.putObj_size]; exact b3 hh, Blk.sat_keep b2 (Lab.agree_refl _ _) (fun hh => World.putObj_heap_other (hne4 q hq hh)) b4⟩
            · rcases hown4 q hq hw hh with h1 | h1
              · exact .inl (by omega)
              · exact hwS _ h1
          show WPs none P post (bodyPostM Fence.wide 0 P x.fn (REnd C R)) _ _
          refine WPs.mono hfin fun e a4 w4 he => ?_
          cases e with
          | normal => simp only [Post, hR] at he; exact fin .normal a4 w4 he (.inl rfl)
          | ret => simp only [Post, hR] at he; exact fin .ret a4 w4 he (.inr rfl)
          | exit b => exact he.elim
          | panic ch => exact he.elim
          | outgrown => exact he.elim
          | goto l => exact he.elim
        · cases hrun
      · cases hrun
    · cases hrun
  | ret =>
    simp only [Post, hR] at he
    have h1 : bodyPostE P x.fn C.Δ.ds (REnd C R) .ret a w := he
    rw [hΔ] at h1
    obtain ⟨hdef, v, hres, hin⟩ := h1
    show LeavesInM Fence.wide 0 P x.fn a.tmps (REnd C R) a.defers .returning w
    rw [hdef]
    exact ⟨v, hres w (CellsKept.refl w), hin⟩
  | exit b => exact he.elim
  | panic ch => exact he.elim
  | outgrown => exact he.elim
  | goto l => exact he.elim
end
theorem goodRgL {x : Rn} {Tp : Tm} {facts : List Fact} {t : Nat} {i : RecI} {N : Tgt} (h : GoodRg x Tp facts t i N []) : ∀ p ∈ DT.paths .leaf, GoodRg x Tp facts t i N p := by
  intro p hp
  simp only [DT.paths, List.mem_singleton] at hp
  subst hp
  exact h
end
end Go.Sx
/-
  SX: BLOCKS AND CONDITIONS BETWEEN PARTS.
-/
namespace Go.Sx
set_option linter.unusedSimpArgs false
set_option linter.unusedVariables false
set_option linter.unusedSectionVars false
noncomputable section
set_option linter.unusedVariables false
def blockBody (l : List Code) (i : Nat) : Code := match l[i]? with
  | some (.block _ c) => c
  | _ => .skip
def condYes (l : List Code) (i : Nat) : Code := match l[i]? with
  | some (.cond _ a _) => a
  | _ => .skip
def condNo (l : List Code) (i : Nat) : Code := match l[i]? with
  | some (.cond _ _ b) => b
  | _ => .skip
section
variable {P : Program} {x : Rn}
/-- A block: its own door leads to its end. -/
theorem From.block {C : Ctx} {s : S} {F : List Fact} {body : Code} {b : Nat} {g : Tgt} {X : List (Nat × Tgt)} (h : From P x C s F (flat body) (some g) ((b, g) :: X)) : From P x C s F [.block b body] (some g) X := by
  intro ρ0 β0 a0 w0 hF0 hs0
  show Code.wpIn (fen C.Δ.rd) 0 P (.block b body) (Exit.then (WPs C.Δ.rd P [] (Post P x C ρ0 (some g) X)) (Post P x C ρ0 (some g) X)) a0 w0
  refine wpIn_mono (Q := Post P x C ρ0 (some g) X) ?_ fun e a w he => by cases e <;> exact he
  refine wpIn_block ?_
  refine WPs.flat ((h ρ0 β0 a0 w0 hF0 hs0).mono fun e a w he => ?_)
  cases e with
  | normal => exact he
  | exit b' =>
    simp only [Post, tgtOf] at he
    show Exit.inBlock b _ (.exit b') a w
    simp only [Exit.inBlock]
    cases hb : Nat.beq b' b with
    | true =>
      rw [hb] at he
      have := Nat.eq_of_beq_eq_true hb
      rw [if_pos this]
      exact he
    | false =>
      rw [hb] at he
      have := Nat.ne_of_beq_eq_false hb
      rw [if_neg this]
      simp only [Post]
      exact he
  | ret => exact he
  | panic ch => exact he
  | outgrown => exact he
  | goto l => exact he
theorem From.condT {C : Ctx} {s : S} {F : List Fact} {t : Nat} {e : E} {y n : Code} {N : Option Tgt} {X : List (Nat × Tgt)} (hs : s.slots.get t = some (.v (.one (.bool e)))) (he : ∀ ρ, e.den ρ ≠ 0) (h : From P x C s F (flat y) N X) :
    From P x C s F [.cond (.tmp t) y n] N X := by
  intro ρ0 β0 a0 w0 hF0 hs0
  show Code.wpIn (fen C.Δ.rd) 0 P (.cond (.tmp t) y n) (Exit.then (WPs C.Δ.rd P [] (Post P x C ρ0 N X)) (Post P x C ρ0 N X)) a0 w0
  refine wpIn_mono (Q := Post P x C ρ0 N X) ?_ fun e a w he => by cases e <;> exact he
  have hev : a0.eval (.tmp t) = .bool (decide (e.den ρ0 ≠ 0)) := (hs0.sat.sa.ev (.tmp t) _ hs).2
  exact wpIn_cond_true (by rw [hev]; simp [he ρ0]) (WPs.flat (h ρ0 β0 a0 w0 hF0 hs0))
theorem From.condF {C : Ctx} {s : S} {F : List Fact} {t : Nat} {e : E} {y n : Code} {N : Option Tgt} {X : List (Nat × Tgt)} (hs : s.slots.get t = some (.v (.one (.bool e)))) (he : ∀ ρ, e.den ρ = 0) (h : From P x C s F (flat n) N X) :
    From P x C s F [.cond (.tmp t) y n] N X := by
  intro ρ0 β0 a0 w0 hF0 hs0
  show Code.wpIn (fen C.Δ.rd) 0 P (.cond (.tmp t) y n) (Exit.then (WPs C.Δ.rd P [] (Post P x C ρ0 N X)) (Post P x C ρ0 N X)) a0 w0
  refine wpIn_mono (Q := Post P x C ρ0 N X) ?_ fun e a w he => by cases e <;> exact he
  have hev : a0.eval (.tmp t) = .bool (decide (e.den ρ0 ≠ 0)) := (hs0.sat.sa.ev (.tmp t) _ hs).2
  exact wpIn_cond_false (by rw [hev]; simp [he ρ0]) (WPs.flat (h ρ0 β0 a0 w0 hF0 hs0))
/-- One part behind another, by an index. -/
theorem From.at {C : Ctx} {s : S} {F : List Fact} {l : List Code} (i : Nat) {g : Tgt} {N : Option Tgt} {X : List (Nat × Tgt)} (h0 : From P x C s F (l.take i) (some g) X) (h2 : AllF P x C g (l.drop i) N X) {c : List Nat} (hc : g.c = c.map fun i => (i, none))
    (hN : ∀ g', N = some g' → ∀ p ∈ g'.c, p.1 ∈ c) (hX : ∀ i g', tgtOf X i = some g' → ∀ p ∈ g'.c, p.1 ∈ c) : From P x C s F l N X := by
  have h := From.seq h0 h2 hc hN hX
  rwa [List.take_append_drop] at h
/-- A list of parts with an item of its own in it. -/
theorem From.cutI {C : Ctx} {s : S} {F : List Fact} {l : List Code} {i : Nat} {c0 : Code} (hl : l[i]? = some c0) {g gE : Tgt} {N : Option Tgt} {X : List (Nat × Tgt)} (h0 : From P x C s F (l.take i) (some g) X)
    (hL : AllF P x C g [c0] (some gE) X) (h2 : AllF P x C gE (l.drop (i + 1)) N X) {c : List Nat} (hc : g.c = c.map fun i => (i, none)) (hcE : gE.c = c.map fun i => (i, none))
    (hN : ∀ g', N = some g' → ∀ p ∈ g'.c, p.1 ∈ c) (hX : ∀ i g', tgtOf X i = some g' → ∀ p ∈ g'.c, p.1 ∈ c) : From P x C s F l N X := by
  rw [cut_at hl]
  refine From.seq h0 ?_ hc hN hX
  intro p hp
  show From P x C p.1.toS p.2 ([c0] ++ l.drop (i + 1)) N X
  exact From.seq (hL p hp) h2 hcE hN hX
/-- The item is the last one. -/
theorem From.cutL {C : Ctx} {s : S} {F : List Fact} {l : List Code} {i : Nat} {c0 : Code} (hl : l.drop i = [c0]) {g : Tgt} {N : Option Tgt} {X : List (Nat × Tgt)} (h0 : From P x C s F (l.take i) (some g) X)
    (hL : AllF P x C g [c0] N X) {c : List Nat} (hc : g.c = c.map fun i => (i, none))
    (hN : ∀ g', N = some g' → ∀ p ∈ g'.c, p.1 ∈ c) (hX : ∀ i g', tgtOf X i = some g' → ∀ p ∈ g'.c, p.1 ∈ c) : From P x C s F l N X := by
  have h := From.seq h0 hL hc hN hX
  rwa [← hl, List.take_append_drop] at h
theorem AllF.cutI {C : Ctx} {g0 : Tgt} {l : List Code} {i : Nat} {c0 : Code} (hl : l[i]? = some c0) {g gE : Tgt} {N : Option Tgt} {X : List (Nat × Tgt)} (h0 : AllF P x C g0 (l.take i) (some g) X)
    (hL : AllF P x C g [c0] (some gE) X) (h2 : AllF P x C gE (l.drop (i + 1)) N X) {c : List Nat} (hc : g.c = c.map fun i => (i, none)) (hcE : gE.c = c.map fun i => (i, none))
    (hN : ∀ g', N = some g' → ∀ p ∈ g'.c, p.1 ∈ c) (hX : ∀ i g', tgtOf X i = some g' → ∀ p ∈ g'.c, p.1 ∈ c) : AllF P x C g0 l N X :=
  fun p hp => From.cutI hl (h0 p hp) hL h2 hc hcE hN hX
/-- An item alone. -/
theorem From.item {C : Ctx} {s : S} {F : List Fact} {l : List Code} {c : Code} (hl : l = [c]) {N : Option Tgt} {X : List (Nat × Tgt)} (h : From P x C s F [c] N X) : From P x C s F l N X := hl ▸ h
end
end
end Go.Sx
