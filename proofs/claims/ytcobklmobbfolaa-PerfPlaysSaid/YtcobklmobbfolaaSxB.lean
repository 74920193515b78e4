/-
  SX: BITS. What expressions of uint64 denote, as bit vectors; a few laws of these.
-/
import Derived.Test.YtcobklmobbfolaaSxN
namespace Go.Sx
noncomputable section

abbrev B64 (x : Int) : BitVec 64 := BitVec.ofInt 64 x
theorem wrap_toNat (v : BitVec 64) : IntKind.u64.wrap (v.toNat : Int) = (v.toNat : Int) := by
  have := v.isLt
  exact wrap_in ⟨by simp [kmin], by simp [kmax]; omega⟩
theorem B64_toNat (v : BitVec 64) : B64 (v.toNat : Int) = v := ofInt_toNat v
theorem wrap_B64 (x : Int) : IntKind.u64.wrap x = ((B64 x).toNat : Int) := by
  rw [← wrap_toNat, ← wrap_toNat]
  have h := ofInt_wrap .u64 x
  have h2 : BitVec.ofInt 64 (IntKind.u64.wrap x) = B64 x := h
  have h3 := wrap_range .u64 x
  simp only [kmin, kmax] at h3
  have e : IntKind.u64.wrap x = ((B64 x).toNat : Int) := by
    rw [← h2, BitVec.toNat_ofInt, Int.emod_eq_of_lt (by omega) (by omega)]
    omega
  rw [wrap_toNat, wrap_toNat, e]
section
variable (ρ : Env) (a b : E)
theorem den_and64 : (E.bin (.and .u64) a b).den ρ = ((B64 (a.den ρ) &&& B64 (b.den ρ)).toNat : Int) := by simp only [E.den, BO.den]; exact wrap_toNat _
theorem den_or64 : (E.bin (.or .u64) a b).den ρ = ((B64 (a.den ρ) ||| B64 (b.den ρ)).toNat : Int) := by simp only [E.den, BO.den]; exact wrap_toNat _
theorem den_xor64 : (E.bin (.xor .u64) a b).den ρ = ((B64 (a.den ρ) ^^^ B64 (b.den ρ)).toNat : Int) := by simp only [E.den, BO.den]; exact wrap_toNat _
theorem den_andn64 : (E.bin (.andNot .u64) a b).den ρ = ((B64 (a.den ρ) &&& ~~~B64 (b.den ρ)).toNat : Int) := by simp only [E.den, BO.den]; exact wrap_toNat _
theorem den_add64 : (E.bin (.add .u64) a b).den ρ = ((B64 (a.den ρ) + B64 (b.den ρ)).toNat : Int) := by
  simp only [E.den, BO.den]; rw [wrap_B64, B64, BitVec.ofInt_add]
theorem den_sub64 : (E.bin (.sub .u64) a b).den ρ = ((B64 (a.den ρ) - B64 (b.den ρ)).toNat : Int) := by
  simp only [E.den, BO.den]; rw [wrap_B64, B64, Int.sub_eq_add_neg, BitVec.ofInt_add, BitVec.ofInt_neg, BitVec.sub_eq_add_neg]
theorem den_eq (h : a.den ρ = b.den ρ) : (E.bin .eq a b).den ρ ≠ 0 := by simp [E.den, BO.den, h]
theorem den_eq_iff : (E.bin .eq a b).den ρ ≠ 0 ↔ a.den ρ = b.den ρ := by simp [E.den, BO.den]
theorem den_var (i : Nat) : (E.var i).den ρ = ρ.v i := by simp only [E.den]
theorem den_lit (n : Nat) : (E.lit (.ofNat n)).den ρ = (n : Int) := by simp only [E.den]; rfl
end
theorem B64_lit (n : Nat) : B64 (n : Int) = BitVec.ofNat 64 n := BitVec.ofInt_natCast 64 n
theorem cast_eq {v w : BitVec 64} (h : v = w) : (v.toNat : Int) = (w.toNat : Int) := by rw [h]

theorem bits_sip (a b c d : BitVec 64) : ((a &&& ~~~(c &&& d)) ||| (b &&& (c &&& d))) = ((a &&& ~~~(c &&& d)) ||| ((b &&& c) &&& d)) := by rw [BitVec.and_assoc]
theorem sub_mask {m c : BitVec 64} (h : c &&& m = c) (i : Nat) : c.getLsbD i = true → m.getLsbD i = true := by
  intro hc
  rw [← h, BitVec.getLsbD_and, Bool.and_eq_true] at hc
  exact hc.2
theorem bits_status {m c : BitVec 64} (h : c &&& m = c) (v x : BitVec 64) : (((v &&& ~~~c) ||| (x &&& c)) &&& m) = (((v &&& m) &&& ~~~c) ||| (x &&& c)) := by
  apply BitVec.eq_of_getLsbD_eq
  intro i hi
  have hm := sub_mask h i
  simp only [BitVec.getLsbD_and, BitVec.getLsbD_or, BitVec.getLsbD_not, hi, decide_true, Bool.true_and]
  generalize v.getLsbD i = p at *
  generalize x.getLsbD i = q at *
  generalize c.getLsbD i = r at *
  generalize m.getLsbD i = s at *
  revert hm
  cases p <;> cases q <;> cases r <;> cases s <;> decide
theorem bits_view {m c d : BitVec 64} (h : c &&& m = 0) (h' : d &&& m = 0) (x : BitVec 64) : (((x &&& m) ||| c) &&& ~~~c) = ((x ||| d) &&& m) := by
  apply BitVec.eq_of_getLsbD_eq
  intro i hi
  have e1 : c.getLsbD i = true → m.getLsbD i = true → False := by
    intro h1 h2
    have := congrArg (fun v => BitVec.getLsbD v i) h
    simp [h1, h2] at this
  have e2 : d.getLsbD i = true → m.getLsbD i = true → False := by
    intro h1 h2
    have := congrArg (fun v => BitVec.getLsbD v i) h'
    simp [h1, h2] at this
  simp only [BitVec.getLsbD_and, BitVec.getLsbD_or, BitVec.getLsbD_not, hi, decide_true, Bool.true_and]
  generalize x.getLsbD i = p at *
  generalize c.getLsbD i = r at *
  generalize m.getLsbD i = s at *
  generalize d.getLsbD i = t at *
  revert e1 e2
  cases p <;> cases r <;> cases s <;> cases t <;> decide
theorem bits_cyc (x y z : BitVec 64) : (x + y) - z = y + (x - z) := by
  rw [BitVec.sub_eq_add_neg, BitVec.sub_eq_add_neg, BitVec.add_comm x y, BitVec.add_assoc]
end
end Go.Sx
