/-
  SX, PART 10b: HANDING ON WHAT IS PLAIN: values, what an operation does.
-/
import Derived.Test.YtcobklmobbfolaaSxW
namespace Go.Sx
noncomputable section
variable {R : Type}
def CV.plainK (c : CV) (k : CV → R) : R := match c with
  | .int q e => k (.int q e)
  | .bool e => k (.bool e)
  | .ptr l o => natK l fun l => natK o fun o => k (.ptr l o)
  | .nilp => k .nilp
  | .slc l o n c => natK l fun l => natK o fun o => E.deepK n fun n => E.deepK c fun c => k (.slc l o n c)
  | .nils => k .nils
  | .fn f a b => k (.fn f a b)
  | .nilf => k .nilf
  | .raw v => k (.raw v)
  | .opq i => k (.opq i)
  | .tslc l z r n c => natK l fun l => E.deepK r fun r => E.deepK n fun n => E.deepK c fun c => k (.tslc l z r n c)
  | .tptr l z r j => natK l fun l => natK j fun j => E.deepK r fun r => k (.tptr l z r j)
theorem CV.plainK_eq (c : CV) (k : CV → R) : c.plainK k = k c := by cases c <;> simp only [CV.plainK, natK_eq, E.deepK_eq]
def pairK (p : Nat × Nat) (k : Nat × Nat → R) : R := match p with | (a, b) => natK a fun a => natK b fun b => k (a, b)
theorem pairK_eq (p : Nat × Nat) (k : Nat × Nat → R) : pairK p k = k p := by obtain ⟨a, b⟩ := p; simp only [pairK, natK_eq]
def CV.deepK (c : CV) (k : CV → R) : R := match c with
  | .int q e => E.deepK e fun e => k (.int q e)
  | .bool e => E.deepK e fun e => k (.bool e)
  | .ptr l o => natK l fun l => natK o fun o => k (.ptr l o)
  | .nilp => k .nilp
  | .slc l o n c => natK l fun l => natK o fun o => E.deepK n fun n => E.deepK c fun c => k (.slc l o n c)
  | .nils => k .nils
  | .fn f a b => listK pairK a fun a => listK pairK b fun b => k (.fn f a b)
  | .nilf => k .nilf
  | .raw v => k (.raw v)
  | .opq i => k (.opq i)
  | .tslc l z r n c => natK l fun l => E.deepK r fun r => E.deepK n fun n => E.deepK c fun c => k (.tslc l z r n c)
  | .tptr l z r j => natK l fun l => natK j fun j => E.deepK r fun r => k (.tptr l z r j)
theorem CV.deepK_eq (c : CV) (k : CV → R) : c.deepK k = k c := by cases c <;> simp only [CV.deepK, natK_eq, E.deepK_eq, listK_eq pairK_eq]
def V1.deepK (x : V1) (k : V1 → R) : R := match x with
  | .one c => c.deepK fun c => k (.one c)
  | .agg cs => listK CV.plainK cs fun cs => k (.agg cs)
theorem V1.deepK_eq (x : V1) (k : V1 → R) : x.deepK k = k x := by cases x <;> simp only [V1.deepK, CV.deepK_eq, listK_eq CV.plainK_eq]
def SV.deepK (x : SV) (k : SV → R) : R := match x with
  | .v x => x.deepK fun x => k (.v x)
  | .tup xs => listK V1.deepK xs fun xs => k (.tup xs)
theorem SV.deepK_eq (x : SV) (k : SV → R) : x.deepK k = k x := by cases x <;> simp only [SV.deepK, V1.deepK_eq, listK_eq V1.deepK_eq]
def entK (x : Nat × Ent) (k : Nat × Ent → R) : R := match x with
  | (l, ⟨wr, .cells cs ty⟩) => natK l fun l => boolK wr fun wr => listK CV.plainK cs fun cs => k (l, ⟨wr, .cells cs ty⟩)
  | (l, ⟨wr, .tab q t n ks⟩) => natK l fun l => boolK wr fun wr => E.deepK t fun t => E.deepK n fun n => k (l, ⟨wr, .tab q t n ks⟩)
theorem entK_eq (x : Nat × Ent) (k : Nat × Ent → R) : entK x k = k x := by
  obtain ⟨l, wr, b⟩ := x
  cases b <;> simp only [entK, natK_eq, boolK_eq, listK_eq CV.plainK_eq, E.deepK_eq]
def Eff.deepK (e : Eff) (k : Eff → R) : R := match e with
  | ⟨res, sets, nx⟩ => res.deepK fun res => listK entK sets fun sets => natK nx fun nx => k ⟨res, sets, nx⟩
theorem Eff.deepK_eq (e : Eff) (k : Eff → R) : e.deepK k = k e := by
  obtain ⟨res, sets, nx⟩ := e
  simp only [Eff.deepK, SV.deepK_eq, listK_eq entK_eq, natK_eq]
def Known.whK (k : Known) (K : Known → R) : R := match k with | ⟨vb, rp, ex, tr, no⟩ => K ⟨vb, rp, ex, tr, no⟩
theorem Known.whK_eq (k : Known) (K : Known → R) : k.whK K = K k := by cases k; rfl
end
end Go.Sx
