/-
  SX, PART 4: SYMBOLIC VALUES AND MEMORY. Labels stand for blocks. What a world has to do with a symbolic memory ('SatH'), and how steps keep it.
-/
import Derived.Test.YtcobklmobbfolaaSxD
namespace Go.Sx
noncomputable section

/-! ### cells and values -/
inductive CV where
  | int (k : IntKind) (e : E)
  | bool (e : E)
  | ptr (l o : Nat)
  | nilp
  | slc (l o : Nat) (n c : E)
  | nils
  | fn (f : FuncId) (first caps : List (Nat × Nat))
  | nilf
  | raw (v : Value)
  | opq (i : Nat)
  /-- A slice, a place in a block of which the rows are a table's. -/
  | tslc (l sz : Nat) (r n c : E)
  | tptr (l sz : Nat) (r : E) (j : Nat)
deriving Inhabited
inductive V1 where
  | one (c : CV) | agg (cs : List CV)
deriving Inhabited
inductive SV where
  | v (x : V1) | tup (xs : List V1)
deriving Inhabited

/-- Which block a label stands for; values of which nothing is known. -/
structure Lab where
  b : Nat → Nat
  o : Nat → Value
/-- Where a label's table begins in its block. -/
def Lab.f (β : Lab) (l : Nat) : Nat := match β.o l with | .int _ n => n.toNat | _ => 0
def Lab.pt (β : Lab) (p : Nat × Nat) : Value := .pointer (some ⟨β.b p.1, p.2, none⟩)
def CV.den (ρ : Env) (β : Lab) : CV → Value
  | .int k e => .int k (e.den ρ)
  | .bool e => .bool (decide (e.den ρ ≠ 0))
  | .ptr l o => .pointer (some ⟨β.b l, o, none⟩)
  | .nilp => .pointer none
  | .slc l o n c => .slice (some ⟨β.b l, o, none⟩) (n.den ρ).toNat (c.den ρ).toNat
  | .nils => .slice none 0 0
  | .fn f first caps => .func (.func f) (first.map β.pt).toArray (caps.map β.pt).toArray
  | .nilf => .nilFunc
  | .raw v => v
  | .opq i => β.o i
  | .tslc l sz r n c => .slice (some ⟨β.b l, β.f l + (r.den ρ).toNat * sz, none⟩) (n.den ρ).toNat (c.den ρ).toNat
  | .tptr l sz r j => .pointer (some ⟨β.b l, β.f l + (r.den ρ).toNat * sz + j, none⟩)
/-- A value of one cell: what a cell may hold. -/
def CV.okRaw : CV → Prop
  | .raw v => v.oneCell' = true
  | _ => True
def V1.den (ρ : Env) (β : Lab) : V1 → Value
  | .one c => c.den ρ β
  | .agg cs => .agg (cs.map (CV.den ρ β)).toArray
def SV.den (ρ : Env) (β : Lab) : SV → Value
  | .v x => x.den ρ β
  | .tup xs => .tuple (xs.map (V1.den ρ β)).toArray
def V1.cells : V1 → List CV
  | .one c => [c]
  | .agg cs => cs

/-- All labels are below n, all opaque values, too; what a raw one is fits a cell. -/
def CV.below (n : Nat) : CV → Prop
  | .ptr l _ => l < n
  | .slc l _ _ _ => l < n
  | .fn _ first caps => (∀ p ∈ first, p.1 < n) ∧ (∀ p ∈ caps, p.1 < n)
  | .opq i => i < n
  | .tslc l _ _ _ _ => l < n
  | .tptr l _ _ _ => l < n
  | _ => True
def V1.below (n : Nat) : V1 → Prop
  | .one c => c.below n
  | .agg cs => ∀ c ∈ cs, c.below n
def SV.below (n : Nat) : SV → Prop
  | .v x => x.below n
  | .tup xs => ∀ x ∈ xs, V1.below n x
theorem CV.below_mono {n m : Nat} (h : n ≤ m) : ∀ {c : CV}, c.below n → c.below m := by
  intro c
  cases c <;> simp only [CV.below] <;> intro hc <;> first | trivial | exact Nat.lt_of_lt_of_le hc h | exact ⟨fun p hp => Nat.lt_of_lt_of_le (hc.1 p hp) h, fun p hp => Nat.lt_of_lt_of_le (hc.2 p hp) h⟩
theorem V1.below_mono {n m : Nat} (h : n ≤ m) : ∀ {x : V1}, x.below n → x.below m := by
  intro x
  cases x with
  | one c => exact CV.below_mono h
  | agg cs => exact fun hx c hc => CV.below_mono h (hx c hc)
theorem SV.below_mono {n m : Nat} (h : n ≤ m) : ∀ {x : SV}, x.below n → x.below m := by
  intro x
  cases x with
  | v x => exact V1.below_mono h
  | tup xs => exact fun hx c hc => V1.below_mono h (hx c hc)

def Lab.agree (n : Nat) (β β' : Lab) : Prop := ∀ l, l < n → β'.b l = β.b l ∧ β'.o l = β.o l
theorem Lab.agree_refl (n : Nat) (β : Lab) : β.agree n β := fun _ _ => ⟨rfl, rfl⟩
theorem Lab.agree_trans {n m : Nat} {β β' β'' : Lab} (h : β.agree n β') (hm : n ≤ m) (h' : β'.agree m β'') : β.agree n β'' :=
  fun l hl => ⟨((h' l (by omega)).1).trans (h l hl).1, ((h' l (by omega)).2).trans (h l hl).2⟩
theorem Lab.agree_mono {n m : Nat} {β β' : Lab} (h : β.agree m β') (hm : n ≤ m) : β.agree n β' := fun l hl => h l (by omega)
theorem pt_agree {n : Nat} {β β' : Lab} (h : β.agree n β') (ps : List (Nat × Nat)) (hp : ∀ p ∈ ps, p.1 < n) : ps.map β'.pt = ps.map β.pt := by
  apply List.map_congr_left
  intro p hm
  simp only [Lab.pt, (h p.1 (hp p hm)).1]
theorem Lab.f_agree {n : Nat} {β β' : Lab} (h : β.agree n β') {l : Nat} (hl : l < n) : β'.f l = β.f l := by
  unfold Lab.f; rw [(h l hl).2]
theorem CV.den_agree {n : Nat} {ρ : Env} {β β' : Lab} (h : β.agree n β') : ∀ {c : CV}, c.below n → c.den ρ β' = c.den ρ β := by
  intro c
  cases c <;> simp only [CV.below, CV.den] <;> intro hc <;> first
    | trivial
    | rw [(h _ hc).1, Lab.f_agree h hc]
    | rw [(h _ hc).1]
    | rw [(h _ hc).2]
    | rw [pt_agree h _ hc.1, pt_agree h _ hc.2]
theorem V1.den_agree {n : Nat} {ρ : Env} {β β' : Lab} (h : β.agree n β') : ∀ {x : V1}, x.below n → x.den ρ β' = x.den ρ β := by
  intro x
  cases x with
  | one c => exact CV.den_agree h
  | agg cs =>
    intro hx
    simp only [V1.den]
    rw [List.map_congr_left fun c hc => CV.den_agree h (hx c hc)]
theorem SV.den_agree {n : Nat} {ρ : Env} {β β' : Lab} (h : β.agree n β') : ∀ {x : SV}, x.below n → x.den ρ β' = x.den ρ β := by
  intro x
  cases x with
  | v x => exact V1.den_agree h
  | tup xs =>
    intro hx
    simp only [SV.den]
    rw [List.map_congr_left fun c hc => V1.den_agree h (hx c hc)]

/-! ### memory -/
/-- What a column of a table holds. -/
inductive CK where
  | int (k : IntKind) | bool
def CK.val : CK → Int → Value
  | .int k, x => .int k (k.wrap x)
  | .bool, x => .bool (decide (x ≠ 0))
inductive Blk where
  | cells (cs : List CV) (ty : TypeId)
  | tab (q : Nat) (t : E) (n : E) (ks : List CK)
structure Ent where
  wr : Bool
  blk : Blk
abbrev Heap := Nat → Option Ent
def Blk.below (n : Nat) : Blk → Prop
  | .cells cs _ => ∀ c ∈ cs, CV.below n c
  | .tab q _ _ _ => q < n
def Blk.sat (ρ : Env) (β : Lab) (b : Nat) (w : World) : Blk → Prop
  | .cells cs ty => w.heap[b]? = some (.cells (cs.map (CV.den ρ β)).toArray ty (0, 0))
  | .tab q t n ks => ∀ i : Nat, (i : Int) < n.den ρ → ∀ (j : Nat) (k : CK), ks[j]? = some k → w.cell? ⟨b, β.f q + i * ks.length + j, none⟩ = some (k.val (t.tden ρ i j))

structure SatH (ρ : Env) (β : Lab) (n : Nat) (h : Heap) (w : World) : Prop where
  blk : ∀ l x, h l = some x → l < n ∧ x.blk.below n ∧ β.b l < w.heap.size ∧ x.blk.sat ρ β (β.b l) w
  inj : ∀ l l' x x', h l = some x → h l' = some x' → l ≠ l' → (x.wr || x'.wr) = true → β.b l ≠ β.b l'
theorem SatH.sub {ρ : Env} {β : Lab} {n : Nat} {h h' : Heap} {w : World} (hs : SatH ρ β n h' w) (hh : ∀ l x, h l = some x → h' l = some x) : SatH ρ β n h w :=
  ⟨fun l x hl => hs.blk l x (hh l x hl), fun l l' x x' hl hl' => hs.inj l l' x x' (hh l x hl) (hh l' x' hl')⟩

/-- What was written: blocks that S does not name are as they were. -/
structure Frm (S : Nat → Prop) (w w' : World) : Prop where
  os : w'.os = w.os
  tape : w'.tape = w.tape
  output : w'.output = w.output
  size : w.heap.size ≤ w'.heap.size
  old : ∀ k, k < w.heap.size → ¬ S k → w'.heap[k]? = w.heap[k]?
  fz : ∀ a, w'.frozen? a = w.frozen? a
theorem Frm.refl (S : Nat → Prop) (w : World) : Frm S w w := ⟨rfl, rfl, rfl, Nat.le_refl _, fun _ _ _ => rfl, fun _ => rfl⟩
theorem Frm.trans {S S' : Nat → Prop} {w w' w'' : World} (h : Frm S w w') (h' : Frm S' w' w'') (hS : ∀ k, k < w.heap.size → S' k → S k) : Frm S w w'' :=
  ⟨h'.os.trans h.os, h'.tape.trans h.tape, h'.output.trans h.output, Nat.le_trans h.size h'.size,
    fun k hk hn => (h'.old k (Nat.lt_of_lt_of_le hk h.size) (fun hs => hn (hS k hk hs))).trans (h.old k hk hn), fun a => (h'.fz a).trans (h.fz a)⟩
theorem Frm.mono {S S' : Nat → Prop} {w w' : World} (h : Frm S w w') (hS : ∀ k, k < w.heap.size → S k → S' k) : Frm S' w w' :=
  ⟨h.os, h.tape, h.output, h.size, fun k hk hn => h.old k hk (fun hs => hn (hS k hk hs)), h.fz⟩

abbrev Sets := List (Nat × Ent)
def Sets.labels (s : Sets) : List Nat := s.map (·.1)
def Sets.find (l : Nat) : Sets → Option Ent
  | [] => none
  | (l', x) :: r => match Sets.find l r with | some y => some y | none => if Nat.beq l l' then some x else none
theorem Sets.find_mem {l : Nat} {x : Ent} : ∀ {s : Sets}, s.find l = some x → l ∈ s.labels
  | [], h => by cases h
  | (l', y) :: r, h => by
    unfold Sets.find at h
    split at h
    · rename_i z hz
      exact List.mem_cons_of_mem _ (Sets.find_mem hz)
    · split at h
      · rename_i hb
        rw [Nat.eq_of_beq_eq_true hb]
        exact List.mem_cons_self ..
      · cases h
theorem Sets.find_none {l : Nat} : ∀ {s : Sets}, s.find l = none → l ∉ s.labels
  | [], _ => by simp [Sets.labels]
  | (l', y) :: r, h => by
    unfold Sets.find at h
    split at h
    · cases h
    · rename_i hz
      split at h
      · cases h
      · rename_i hb
        have := Sets.find_none hz
        simp only [Sets.labels, List.map_cons, List.mem_cons, not_or]
        exact ⟨fun e => hb (by rw [e]; exact Nat.beq_refl _), this⟩
def Heap.set (h : Heap) (s : Sets) : Heap := fun l => match s.find l with | some x => some x | none => h l
theorem Heap.set_of_mem {h : Heap} {s : Sets} {l : Nat} (hl : l ∈ s.labels) : h.set s l = s.find l := by
  unfold Heap.set
  cases hf : s.find l with
  | some x => rfl
  | none => exact absurd hl (Sets.find_none hf)
theorem Heap.set_of_not_mem {h : Heap} {s : Sets} {l : Nat} (hl : l ∉ s.labels) : h.set s l = h l := by
  unfold Heap.set
  cases hf : s.find l with
  | some x => exact absurd (Sets.find_mem hf) hl
  | none => rfl
/-- The blocks that the old labels among those that are set stand for. -/
def Sets.blocks (s : Sets) (β : Lab) (n : Nat) : Nat → Prop := fun k => ∃ l, l ∈ s.labels ∧ l < n ∧ β.b l = k

/-- A STEP of memory: from (β, n, h, w) by the sets s to (β', n', w'). -/
structure Step (ρ : Env) (β : Lab) (n : Nat) (h : Heap) (w : World) (s : Sets) (β' : Lab) (n' : Nat) (w' : World) : Prop where
  le : n ≤ n'
  agree : β.agree n β'
  sat : SatH ρ β' n' (h.set s) w'
  frm : Frm (s.blocks β n) w w'
  own : ∀ l, l ∈ s.labels → l < n → ∃ x, h l = some x ∧ x.wr = true
  new : ∀ l, l ∈ s.labels → n ≤ l → w.heap.size ≤ β'.b l ∧ l < n'
theorem Heap.set_nil (h : Heap) : h.set [] = h := rfl
theorem Step.refl {ρ : Env} {β : Lab} {n : Nat} {h : Heap} {w : World} (hs : SatH ρ β n h w) : Step ρ β n h w [] β n w :=
  ⟨Nat.le_refl _, Lab.agree_refl _ _, hs, Frm.refl _ _, fun l hl => (by simp [Sets.labels] at hl), fun l hl => (by simp [Sets.labels] at hl)⟩

theorem Blk.sat_keep {ρ : Env} {β β' : Lab} {n b : Nat} {w w' : World} {x : Blk} (hx : x.below n) (ha : β.agree n β') (hw : w'.heap[b]? = w.heap[b]?) (h : x.sat ρ β b w) : x.sat ρ β' b w' := by
  cases x with
  | cells cs ty =>
    simp only [Blk.sat] at h ⊢
    rw [hw, h, List.map_congr_left fun c hc => CV.den_agree ha (hx c hc)]
  | tab q t n' ks =>
    intro i hi j k hk
    rw [Lab.f_agree ha hx, ← h i hi j k hk]
    simp only [World.cell?, hw]
theorem Blk.below_mono {n m : Nat} (h : n ≤ m) {x : Blk} (hx : x.below n) : x.below m := by
  cases x with
  | cells cs ty => exact fun c hc => CV.below_mono h (hx c hc)
  | tab q _ _ _ => exact Nat.lt_of_lt_of_le hx h

/-- A step of a part of memory is a step of the whole. -/
theorem Step.frame {ρ : Env} {β β' : Lab} {n n' : Nat} {h H : Heap} {w w' : World} {s : Sets} (st : Step ρ β n h w s β' n' w') (hsub : ∀ l x, h l = some x → H l = some x) (hS : SatH ρ β n H w) :
    Step ρ β n H w s β' n' w' := by
  refine ⟨st.le, st.agree, ?_, st.frm, fun l hl hn => ?_, st.new⟩
  · have keep : ∀ l x, H l = some x → l ∉ s.labels → w'.heap[β.b l]? = w.heap[β.b l]? := by
      intro l x hl hns
      obtain ⟨hln, _, hsz, _⟩ := hS.blk l x hl
      refine st.frm.old _ hsz ?_
      rintro ⟨l', hl', hln', he⟩
      obtain ⟨y, hy, hyw⟩ := st.own l' hl' hln'
      have hne : l' ≠ l := fun e => hns (e ▸ hl')
      exact hS.inj l' l y x (hsub _ _ hy) hl hne (by rw [hyw]; rfl) he
    refine ⟨fun l x hl => ?_, fun l l' x x' hl hl' hne hw => ?_⟩
    · by_cases hm : l ∈ s.labels
      · rw [Heap.set_of_mem hm] at hl
        exact st.sat.blk l x (by rw [Heap.set_of_mem hm]; exact hl)
      · rw [Heap.set_of_not_mem hm] at hl
        obtain ⟨hln, hb, hsz, hst⟩ := hS.blk l x hl
        have hbl := (st.agree l hln).1
        refine ⟨Nat.lt_of_lt_of_le hln st.le, Blk.below_mono st.le hb, by rw [hbl]; exact Nat.lt_of_lt_of_le hsz st.frm.size, ?_⟩
        rw [hbl]
        exact Blk.sat_keep hb st.agree (keep l x hl hm) hst
    · -- two labels
      have one : ∀ l l' x x', H.set s l = some x → H.set s l' = some x' → l ≠ l' → (x.wr || x'.wr) = true → l ∈ s.labels → l' ∉ s.labels → β'.b l ≠ β'.b l' := by
        intro l l' x x' hl hl' hne hw hm hm'
        rw [Heap.set_of_not_mem hm'] at hl'
        obtain ⟨hln', _, hsz', _⟩ := hS.blk l' x' hl'
        rw [(st.agree l' hln').1]
        by_cases hn : l < n
        · obtain ⟨y, hy, hyw⟩ := st.own l hm hn
          rw [(st.agree l hn).1]
          exact hS.inj l l' y x' (hsub _ _ hy) hl' hne (by rw [hyw]; rfl)
        · have := (st.new l hm (by omega)).1
          omega
      by_cases hm : l ∈ s.labels <;> by_cases hm' : l' ∈ s.labels
      · exact st.sat.inj l l' x x' (by rw [Heap.set_of_mem hm]; rwa [Heap.set_of_mem hm] at hl) (by rw [Heap.set_of_mem hm']; rwa [Heap.set_of_mem hm'] at hl') hne hw
      · exact one l l' x x' hl hl' hne hw hm hm'
      · exact (one l' l x' x hl' hl (Ne.symm hne) (by rw [Bool.or_comm]; exact hw) hm' hm).symm
      · rw [Heap.set_of_not_mem hm] at hl
        rw [Heap.set_of_not_mem hm'] at hl'
        rw [(st.agree l (hS.blk l x hl).1).1, (st.agree l' (hS.blk l' x' hl').1).1]
        exact hS.inj l l' x x' hl hl' hne hw
  · obtain ⟨x, hx, hw⟩ := st.own l hl hn
    exact ⟨x, hsub _ _ hx, hw⟩

theorem Sets.labels_append (s s' : Sets) : Sets.labels (s ++ s') = s.labels ++ s'.labels := by simp [Sets.labels]
theorem Sets.find_append (l : Nat) (s' : Sets) : ∀ s : Sets, Sets.find l (s ++ s') = match s'.find l with | some x => some x | none => s.find l
  | [] => by simp only [List.nil_append, Sets.find]; split <;> simp_all
  | (l', x) :: r => by
    simp only [List.cons_append, Sets.find, Sets.find_append l s' r]
    cases s'.find l <;> simp
theorem Heap.set_append (h : Heap) (s s' : Sets) : h.set (s ++ s') = (h.set s).set s' := by
  funext l
  unfold Heap.set
  rw [Sets.find_append]
  cases s'.find l <;> simp
theorem Step.trans {ρ : Env} {β β' β'' : Lab} {n n' n'' : Nat} {h : Heap} {w w' w'' : World} {s s' : Sets} (hs : SatH ρ β n h w) (st : Step ρ β n h w s β' n' w') (st' : Step ρ β' n' (h.set s) w' s' β'' n'' w'') :
    Step ρ β n h w (s ++ s') β'' n'' w'' := by
  have dom : ∀ l x, h.set s l = some x → n ≤ l → l ∈ s.labels := by
    intro l x hx hn
    by_cases hm : l ∈ s.labels
    · exact hm
    · rw [Heap.set_of_not_mem hm] at hx
      have := (hs.blk l x hx).1
      omega
  refine ⟨Nat.le_trans st.le st'.le, Lab.agree_trans st.agree st.le st'.agree, by rw [Heap.set_append]; exact st'.sat, ?_, fun l hl hn => ?_, fun l hl hn => ?_⟩
  · refine Frm.trans (st.frm.mono fun k _ hk => ?_) st'.frm fun k hk => ?_
    · obtain ⟨l, hl, hn, e⟩ := hk
      exact ⟨l, by rw [Sets.labels_append]; exact List.mem_append_left _ hl, hn, e⟩
    · rintro ⟨l, hl, hn, e⟩
      refine ⟨l, by rw [Sets.labels_append]; exact List.mem_append_right _ hl, ?_⟩
      by_cases hln : l < n
      · exact ⟨hln, by rw [← (st.agree l hln).1]; exact e⟩
      · exfalso
        obtain ⟨x, hx, _⟩ := st'.own l hl hn
        have := (st.new l (dom l x hx (by omega)) (by omega)).1
        omega
  · rw [Sets.labels_append] at hl
    by_cases hm : l ∈ s.labels
    · exact st.own l hm hn
    · rcases List.mem_append.1 hl with hl | hl
      · exact absurd hl hm
      · obtain ⟨x, hx, hw⟩ := st'.own l hl (Nat.lt_of_lt_of_le hn st.le)
        rw [Heap.set_of_not_mem hm] at hx
        exact ⟨x, hx, hw⟩
  · have first : l ∈ s.labels → w.heap.size ≤ β''.b l ∧ l < n'' := fun hm => by
      have h1 := st.new l hm hn
      rw [(st'.agree l h1.2).1]
      exact ⟨h1.1, Nat.lt_of_lt_of_le h1.2 st'.le⟩
    rw [Sets.labels_append] at hl
    rcases List.mem_append.1 hl with hl | hl
    · exact first hl
    · by_cases hn' : l < n'
      · obtain ⟨x, hx, _⟩ := st'.own l hl hn'
        exact first (dom l x hx hn)
      · have h1 := st'.new l hl (by omega)
        exact ⟨Nat.le_trans st.frm.size h1.1, h1.2⟩
end
end Go.Sx
