/-
  'MshrWaits': the templates of its loops, what is known there, contracts of what it calls. Printed by program.
-/
import Derived.Test.YtdicippbniglpaaRows
import Derived.Test.YtdicippbniglpaaSxC
namespace Go.Proofs.Ytdicippbniglpaa.mshrWaits
open Go.ChangeShapes Go.WideShapes Go.ChangeAt Go.RowKit Go.Sx
set_option linter.unusedVariables false
set_option linter.unusedSimpArgs false
noncomputable section
def z : E := .lit (.ofNat 0)
def u0 : CV := .int .u64 z
def bf : CV := .bool z
def r (i : Nat) (a b : Nat) : Fact := .rng (.var i) (some (.ofNat a), some (.ofNat b))
def iv (i : Nat) : SV := .v (.one (.int .i64 (.var i)))
/-- A number of a table, as it is read. -/
def rd (t : Int → Nat → Int) (r : Int) : Int := IntKind.i64.wrap (t r 0)
/-- How often a number is among so many rows from one on. -/
def cntN (t : Int → Nat → Int) (a : Int) (w : Int) : Nat → Int
  | 0 => 0
  | n + 1 => cntN t a w n + (if rd t (a + n) = w then 1 else 0)
abbrev Seg := (Int → Nat → Int) × Int × Int
def Seg.cnt (s : Seg) (w : Int) : Int := cntN s.1 s.2.1 w (s.2.2 - s.2.1).toNat
def cnts : List Seg → Int → Int
  | [], _ => 0
  | s :: r, w => s.cnt w + cnts r w
/-- Each number below i has been told once, or waits once; no other. -/
def waits (T : Int → Nat → Int) (l : List Seg) (i : Int) : Prop :=
  (∀ w, 0 ≤ w → w < i → rd T w + cnts l w = 1) ∧ (∀ w, i ≤ w → w < 100 → rd T w = 0) ∧ ∀ s ∈ l, ∀ r, s.2.1 ≤ r → r < s.2.2 → 0 ≤ rd s.1 r ∧ rd s.1 r < i
def segsOf : List (Int → Nat → Int) → List Int → List Seg
  | t :: ts, a :: b :: r => (t, a, b) :: segsOf ts r
  | _, _ => []
def sem0 (ts : List (Int → Nat → Int)) (es : List Int) : Prop := match ts, es with
  | T :: ts, i :: es => waits T (segsOf ts es) i
  | _, _ => False
/-- The numbers of a table: each is its row's, up to a row; none is above 99. -/
def rows (t : Int → Nat → Int) (i : Int) : Prop := ∀ r : Int, (0 ≤ t r 0 ∧ t r 0 ≤ 99) ∧ (0 ≤ r → r < i → t r 0 = r)
def sem1 (ts : List (Int → Nat → Int)) (es : List Int) : Prop := match ts, es with
  | t :: _, i :: _ => rows t i
  | _, _ => False
def T_A0 : Tm := ⟨[(7, iv 110), (3, .v (.one (.ptr 1 0))), (0, .v (.one (.tslc 0 1 z (.var 0) (.var 1)))), (5, .v (.one (.osub 2 (.var 110) (.lit (.ofNat 100))))), (6, .v (.one (.slc 3 0 (.lit (.ofNat 100)) (.lit (.ofNat 100)))))], [(0, ⟨false, .tab 0 (.tv 0) (.var 0) [.int .u64]⟩), (1, ⟨true, .cells [bf, u0, .nils, bf, u0, .nils, bf, u0, .nils, bf, u0, .nils, bf, u0, .nils, bf, u0, .nils, bf, u0, .nils, bf, u0, .nils, .int .i64 (.lit (.ofNat 4))] 77⟩), (2, ⟨true, .seq 2 (.tv 121) (.lit (.ofNat 100)) [.int .i64] 3⟩), (3, ⟨true, .arr (.tv 120) 100 (.int .i64) 3⟩)], 8, 0⟩
def F_A0 : List Fact := [r 110 0 100, r 0 0 9223372036854775807, r 1 0 9223372036854775807, .sem 0 sem0 [(.tv 120)] [(.var 110)], .sem 1 sem1 [(.tv 121)] [(.var 110)]]
def T_B0 : Tm := ⟨[(7, iv 110), (3, .v (.one (.ptr 1 0))), (0, .v (.one (.tslc 0 1 z (.var 0) (.var 1)))), (5, .v (.one (.osub 2 (.var 110) (.lit (.ofNat 100))))), (6, .v (.one (.slc 3 0 (.lit (.ofNat 100)) (.lit (.ofNat 100)))))], [(0, ⟨false, .tab 0 (.tv 0) (.var 0) [.int .u64]⟩), (1, ⟨true, .cells [bf, u0, .nils, bf, u0, .nils, bf, u0, .nils, bf, u0, .nils, bf, u0, .nils, bf, u0, .nils, bf, u0, .nils, bf, u0, .nils, .int .i64 (.lit (.ofNat 4))] 77⟩), (2, ⟨true, .seq 2 (.tv 121) (.lit (.ofNat 100)) [.int .i64] 3⟩), (3, ⟨true, .arr (.tv 120) 100 (.int .i64) 3⟩)], 8, 0⟩
def F_B0 : List Fact := [r 110 0 100, r 0 0 9223372036854775807, r 1 0 9223372036854775807, .sem 0 sem0 [(.tv 120)] [(.var 110)], .sem 1 sem1 [(.tv 121)] [(.var 110)], .tr (.bin .lt (.var 110) (.var 0)) true, r 110 0 99]
def T_E0 : Tm := ⟨[(3, .v (.one (.ptr 1 0))), (5, .v (.one (.osub 2 (.var 110) (.lit (.ofNat 100))))), (6, .v (.one (.slc 3 0 (.lit (.ofNat 100)) (.lit (.ofNat 100)))))], [(1, ⟨true, .cells [bf, u0, .nils, bf, u0, .nils, bf, u0, .nils, bf, u0, .nils, bf, u0, .nils, bf, u0, .nils, bf, u0, .nils, bf, u0, .nils, .int .i64 (.lit (.ofNat 4))] 77⟩), (2, ⟨true, .seq 2 (.tv 121) (.lit (.ofNat 100)) [.int .i64] 3⟩), (3, ⟨true, .arr (.tv 120) 100 (.int .i64) 3⟩)], 8, 0⟩
def F_E0 : List Fact := [r 110 0 100, .sem 0 sem0 [(.tv 120)] [(.var 110)], .sem 1 sem1 [(.tv 121)] [(.var 110)]]
def T_A1 : Tm := ⟨[(7, iv 110), (3, .v (.one (.ptr 1 0))), (0, .v (.one (.tslc 0 1 z (.var 0) (.var 1)))), (5, .v (.one (.osub 2 (.var 110) (.lit (.ofNat 100))))), (6, .v (.one (.slc 3 0 (.lit (.ofNat 100)) (.lit (.ofNat 100)))))], [(0, ⟨false, .tab 0 (.tv 0) (.var 0) [.int .u64]⟩), (1, ⟨true, .cells [.bool (.lit (.ofNat 1)), .int .u64 (.var 150), .osl 4, bf, u0, .nils, bf, u0, .nils, bf, u0, .nils, bf, u0, .nils, bf, u0, .nils, bf, u0, .nils, bf, u0, .nils, .int .i64 (.lit (.ofNat 4))] 77⟩), (2, ⟨true, .seq 2 (.tv 121) (.lit (.ofNat 100)) [.int .i64] 3⟩), (3, ⟨true, .arr (.tv 120) 100 (.int .i64) 3⟩), (4, ⟨true, .seq 4 (.tv 130) (.var 140) [.int .i64] 3⟩)], 8, 0⟩
def F_A1 : List Fact := [r 110 0 100, r 0 0 9223372036854775807, r 1 0 9223372036854775807, .sem 0 sem0 [(.tv 120), (.tv 130)] [(.var 110), z, (.var 140)], .sem 1 sem1 [(.tv 121)] [(.var 110)], r 140 1 100, .tr (.bin .lt (.var 110) (.var 140)) false, r 150 0 18446744073709551615]
def T_B1 : Tm := ⟨[(7, iv 110), (3, .v (.one (.ptr 1 0))), (0, .v (.one (.tslc 0 1 z (.var 0) (.var 1)))), (5, .v (.one (.osub 2 (.var 110) (.lit (.ofNat 100))))), (6, .v (.one (.slc 3 0 (.lit (.ofNat 100)) (.lit (.ofNat 100)))))], [(0, ⟨false, .tab 0 (.tv 0) (.var 0) [.int .u64]⟩), (1, ⟨true, .cells [.bool (.lit (.ofNat 1)), .int .u64 (.var 150), .osl 4, bf, u0, .nils, bf, u0, .nils, bf, u0, .nils, bf, u0, .nils, bf, u0, .nils, bf, u0, .nils, bf, u0, .nils, .int .i64 (.lit (.ofNat 4))] 77⟩), (2, ⟨true, .seq 2 (.tv 121) (.lit (.ofNat 100)) [.int .i64] 3⟩), (3, ⟨true, .arr (.tv 120) 100 (.int .i64) 3⟩), (4, ⟨true, .seq 4 (.tv 130) (.var 140) [.int .i64] 3⟩)], 8, 0⟩
def F_B1 : List Fact := [r 110 0 100, r 0 0 9223372036854775807, r 1 0 9223372036854775807, .sem 0 sem0 [(.tv 120), (.tv 130)] [(.var 110), z, (.var 140)], .sem 1 sem1 [(.tv 121)] [(.var 110)], r 140 1 100, .tr (.bin .lt (.var 110) (.var 140)) false, r 150 0 18446744073709551615, .tr (.bin .lt (.var 110) (.var 0)) true, r 110 0 99]
def T_E1 : Tm := ⟨[(3, .v (.one (.ptr 1 0))), (5, .v (.one (.osub 2 (.var 110) (.lit (.ofNat 100))))), (6, .v (.one (.slc 3 0 (.lit (.ofNat 100)) (.lit (.ofNat 100)))))], [(1, ⟨true, .cells [.bool (.lit (.ofNat 1)), .int .u64 (.var 150), .osl 4, bf, u0, .nils, bf, u0, .nils, bf, u0, .nils, bf, u0, .nils, bf, u0, .nils, bf, u0, .nils, bf, u0, .nils, .int .i64 (.lit (.ofNat 4))] 77⟩), (2, ⟨true, .seq 2 (.tv 121) (.lit (.ofNat 100)) [.int .i64] 3⟩), (3, ⟨true, .arr (.tv 120) 100 (.int .i64) 3⟩), (4, ⟨true, .seq 4 (.tv 130) (.var 140) [.int .i64] 3⟩)], 8, 0⟩
def F_E1 : List Fact := [r 110 0 100, .sem 0 sem0 [(.tv 120), (.tv 130)] [(.var 110), z, (.var 140)], .sem 1 sem1 [(.tv 121)] [(.var 110)], r 140 1 100, .tr (.bin .lt (.var 110) (.var 140)) false, r 150 0 18446744073709551615]
def T_D1 : Tm := ⟨[(10, .v (.one (.int .i64 (.lit (.ofNat 0))))), (56, .v (.one (.bool (.lit (.ofNat 0))))), (7, iv 110), (3, .v (.one (.ptr 1 0))), (0, .v (.one (.tslc 0 1 z (.var 0) (.var 1)))), (5, .v (.one (.osub 2 (.var 110) (.lit (.ofNat 100))))), (6, .v (.one (.slc 3 0 (.lit (.ofNat 100)) (.lit (.ofNat 100)))))], [(0, ⟨false, .tab 0 (.tv 0) (.var 0) [.int .u64]⟩), (1, ⟨true, .cells [.bool (.lit (.ofNat 1)), .int .u64 (.var 150), .osl 4, bf, u0, .nils, bf, u0, .nils, bf, u0, .nils, bf, u0, .nils, bf, u0, .nils, bf, u0, .nils, bf, u0, .nils, .int .i64 (.lit (.ofNat 4))] 77⟩), (2, ⟨true, .seq 2 (.tv 121) (.lit (.ofNat 100)) [.int .i64] 3⟩), (3, ⟨true, .arr (.tv 120) 100 (.int .i64) 3⟩), (4, ⟨true, .seq 4 (.tv 130) (.var 140) [.int .i64] 3⟩)], 8, 0⟩
def F_D1 : List Fact := [r 110 0 100, r 0 0 9223372036854775807, r 1 0 9223372036854775807, .sem 0 sem0 [(.tv 120), (.tv 130)] [(.bin (.add .i64) (.var 110) (.lit (.ofNat 1))), z, (.var 140)], .sem 1 sem1 [(.tv 121)] [(.var 110)], r 140 1 100, .tr (.bin .lt (.bin (.add .i64) (.var 110) (.lit (.ofNat 1))) (.var 140)) false, r 150 0 18446744073709551615, .tr (.bin .lt (.var 110) (.var 0)) true, r 110 0 99]
def T_G1 : Tm := ⟨[(10, .v (.one (.int .i64 (.lit (.ofNat 0))))), (7, iv 110), (3, .v (.one (.ptr 1 0))), (0, .v (.one (.tslc 0 1 z (.var 0) (.var 1)))), (5, .v (.one (.osub 2 (.var 110) (.lit (.ofNat 100))))), (6, .v (.one (.slc 3 0 (.lit (.ofNat 100)) (.lit (.ofNat 100)))))], [(0, ⟨false, .tab 0 (.tv 0) (.var 0) [.int .u64]⟩), (1, ⟨true, .cells [.bool (.lit (.ofNat 1)), .int .u64 (.var 150), .osl 4, bf, u0, .nils, bf, u0, .nils, bf, u0, .nils, bf, u0, .nils, bf, u0, .nils, bf, u0, .nils, bf, u0, .nils, .int .i64 (.lit (.ofNat 4))] 77⟩), (2, ⟨true, .seq 2 (.tv 121) (.lit (.ofNat 100)) [.int .i64] 3⟩), (3, ⟨true, .arr (.tv 120) 100 (.int .i64) 3⟩), (4, ⟨true, .seq 4 (.tv 130) (.var 140) [.int .i64] 3⟩)], 8, 0⟩
def F_G1 : List Fact := [r 110 0 100, r 0 0 9223372036854775807, r 1 0 9223372036854775807, .sem 0 sem0 [(.tv 120), (.tv 130)] [(.bin (.add .i64) (.var 110) (.lit (.ofNat 1))), z, (.var 140)], .sem 1 sem1 [(.tv 121)] [(.var 110)], r 140 1 100, .tr (.bin .lt (.bin (.add .i64) (.var 110) (.lit (.ofNat 1))) (.var 140)) false, r 150 0 18446744073709551615, .tr (.bin .lt (.var 110) (.var 0)) true, r 110 0 99]
def T_C1 : Tm := ⟨[(7, iv 110), (3, .v (.one (.ptr 1 0))), (0, .v (.one (.tslc 0 1 z (.var 0) (.var 1)))), (5, .v (.one (.osub 2 (.bin (.add .i64) (.var 110) (.lit (.ofNat 1))) (.lit (.ofNat 100))))), (6, .v (.one (.slc 3 0 (.lit (.ofNat 100)) (.lit (.ofNat 100)))))], [(0, ⟨false, .tab 0 (.tv 0) (.var 0) [.int .u64]⟩), (1, ⟨true, .cells [.bool (.lit (.ofNat 1)), .int .u64 (.var 150), .osl 4, bf, u0, .nils, bf, u0, .nils, bf, u0, .nils, bf, u0, .nils, bf, u0, .nils, bf, u0, .nils, bf, u0, .nils, .int .i64 (.lit (.ofNat 4))] 77⟩), (2, ⟨true, .seq 2 (.tv 121) (.lit (.ofNat 100)) [.int .i64] 3⟩), (3, ⟨true, .arr (.tv 120) 100 (.int .i64) 3⟩), (4, ⟨true, .seq 4 (.tv 130) (.var 140) [.int .i64] 3⟩)], 8, 0⟩
def F_C1 : List Fact := [r 110 0 100, r 0 0 9223372036854775807, r 1 0 9223372036854775807, .sem 0 sem0 [(.tv 120), (.tv 130)] [(.bin (.add .i64) (.var 110) (.lit (.ofNat 1))), z, (.var 140)], .sem 1 sem1 [(.tv 121)] [(.bin (.add .i64) (.var 110) (.lit (.ofNat 1)))], r 140 1 100, .tr (.bin .lt (.bin (.add .i64) (.var 110) (.lit (.ofNat 1))) (.var 140)) false, r 150 0 18446744073709551615, r 110 0 99]
def T_A2 : Tm := ⟨[(7, iv 110), (3, .v (.one (.ptr 1 0))), (0, .v (.one (.tslc 0 1 z (.var 0) (.var 1)))), (5, .v (.one (.osub 2 (.var 110) (.lit (.ofNat 100))))), (6, .v (.one (.slc 3 0 (.lit (.ofNat 100)) (.lit (.ofNat 100)))))], [(0, ⟨false, .tab 0 (.tv 0) (.var 0) [.int .u64]⟩), (1, ⟨true, .cells [.bool (.lit (.ofNat 1)), .int .u64 (.var 150), .osl 4, .bool (.lit (.ofNat 1)), .int .u64 (.var 151), .osl 5, bf, u0, .nils, bf, u0, .nils, bf, u0, .nils, bf, u0, .nils, bf, u0, .nils, bf, u0, .nils, .int .i64 (.lit (.ofNat 4))] 77⟩), (2, ⟨true, .seq 2 (.tv 121) (.lit (.ofNat 100)) [.int .i64] 3⟩), (3, ⟨true, .arr (.tv 120) 100 (.int .i64) 3⟩), (4, ⟨true, .seq 4 (.tv 130) (.var 140) [.int .i64] 3⟩), (5, ⟨true, .seq 5 (.tv 131) (.var 141) [.int .i64] 3⟩)], 8, 0⟩
def F_A2 : List Fact := [r 110 0 100, r 0 0 9223372036854775807, r 1 0 9223372036854775807, .sem 0 sem0 [(.tv 120), (.tv 130), (.tv 131)] [(.var 110), z, (.var 140), z, (.var 141)], .sem 1 sem1 [(.tv 121)] [(.var 110)], r 140 1 100, .tr (.bin .lt (.var 110) (.var 140)) false, r 150 0 18446744073709551615, r 141 1 100, .tr (.bin .lt (.var 110) (.var 141)) false, r 151 0 18446744073709551615]
def T_B2 : Tm := ⟨[(7, iv 110), (3, .v (.one (.ptr 1 0))), (0, .v (.one (.tslc 0 1 z (.var 0) (.var 1)))), (5, .v (.one (.osub 2 (.var 110) (.lit (.ofNat 100))))), (6, .v (.one (.slc 3 0 (.lit (.ofNat 100)) (.lit (.ofNat 100)))))], [(0, ⟨false, .tab 0 (.tv 0) (.var 0) [.int .u64]⟩), (1, ⟨true, .cells [.bool (.lit (.ofNat 1)), .int .u64 (.var 150), .osl 4, .bool (.lit (.ofNat 1)), .int .u64 (.var 151), .osl 5, bf, u0, .nils, bf, u0, .nils, bf, u0, .nils, bf, u0, .nils, bf, u0, .nils, bf, u0, .nils, .int .i64 (.lit (.ofNat 4))] 77⟩), (2, ⟨true, .seq 2 (.tv 121) (.lit (.ofNat 100)) [.int .i64] 3⟩), (3, ⟨true, .arr (.tv 120) 100 (.int .i64) 3⟩), (4, ⟨true, .seq 4 (.tv 130) (.var 140) [.int .i64] 3⟩), (5, ⟨true, .seq 5 (.tv 131) (.var 141) [.int .i64] 3⟩)], 8, 0⟩
def F_B2 : List Fact := [r 110 0 100, r 0 0 9223372036854775807, r 1 0 9223372036854775807, .sem 0 sem0 [(.tv 120), (.tv 130), (.tv 131)] [(.var 110), z, (.var 140), z, (.var 141)], .sem 1 sem1 [(.tv 121)] [(.var 110)], r 140 1 100, .tr (.bin .lt (.var 110) (.var 140)) false, r 150 0 18446744073709551615, r 141 1 100, .tr (.bin .lt (.var 110) (.var 141)) false, r 151 0 18446744073709551615, .tr (.bin .lt (.var 110) (.var 0)) true, r 110 0 99]
def T_E2 : Tm := ⟨[(3, .v (.one (.ptr 1 0))), (5, .v (.one (.osub 2 (.var 110) (.lit (.ofNat 100))))), (6, .v (.one (.slc 3 0 (.lit (.ofNat 100)) (.lit (.ofNat 100)))))], [(1, ⟨true, .cells [.bool (.lit (.ofNat 1)), .int .u64 (.var 150), .osl 4, .bool (.lit (.ofNat 1)), .int .u64 (.var 151), .osl 5, bf, u0, .nils, bf, u0, .nils, bf, u0, .nils, bf, u0, .nils, bf, u0, .nils, bf, u0, .nils, .int .i64 (.lit (.ofNat 4))] 77⟩), (2, ⟨true, .seq 2 (.tv 121) (.lit (.ofNat 100)) [.int .i64] 3⟩), (3, ⟨true, .arr (.tv 120) 100 (.int .i64) 3⟩), (4, ⟨true, .seq 4 (.tv 130) (.var 140) [.int .i64] 3⟩), (5, ⟨true, .seq 5 (.tv 131) (.var 141) [.int .i64] 3⟩)], 8, 0⟩
def F_E2 : List Fact := [r 110 0 100, .sem 0 sem0 [(.tv 120), (.tv 130), (.tv 131)] [(.var 110), z, (.var 140), z, (.var 141)], .sem 1 sem1 [(.tv 121)] [(.var 110)], r 140 1 100, .tr (.bin .lt (.var 110) (.var 140)) false, r 150 0 18446744073709551615, r 141 1 100, .tr (.bin .lt (.var 110) (.var 141)) false, r 151 0 18446744073709551615]
def T_D2 : Tm := ⟨[(10, .v (.one (.int .i64 (.lit (.ofNat 0))))), (56, .v (.one (.bool (.lit (.ofNat 0))))), (7, iv 110), (3, .v (.one (.ptr 1 0))), (0, .v (.one (.tslc 0 1 z (.var 0) (.var 1)))), (5, .v (.one (.osub 2 (.var 110) (.lit (.ofNat 100))))), (6, .v (.one (.slc 3 0 (.lit (.ofNat 100)) (.lit (.ofNat 100)))))], [(0, ⟨false, .tab 0 (.tv 0) (.var 0) [.int .u64]⟩), (1, ⟨true, .cells [.bool (.lit (.ofNat 1)), .int .u64 (.var 150), .osl 4, .bool (.lit (.ofNat 1)), .int .u64 (.var 151), .osl 5, bf, u0, .nils, bf, u0, .nils, bf, u0, .nils, bf, u0, .nils, bf, u0, .nils, bf, u0, .nils, .int .i64 (.lit (.ofNat 4))] 77⟩), (2, ⟨true, .seq 2 (.tv 121) (.lit (.ofNat 100)) [.int .i64] 3⟩), (3, ⟨true, .arr (.tv 120) 100 (.int .i64) 3⟩), (4, ⟨true, .seq 4 (.tv 130) (.var 140) [.int .i64] 3⟩), (5, ⟨true, .seq 5 (.tv 131) (.var 141) [.int .i64] 3⟩)], 8, 0⟩
def F_D2 : List Fact := [r 110 0 100, r 0 0 9223372036854775807, r 1 0 9223372036854775807, .sem 0 sem0 [(.tv 120), (.tv 130), (.tv 131)] [(.bin (.add .i64) (.var 110) (.lit (.ofNat 1))), z, (.var 140), z, (.var 141)], .sem 1 sem1 [(.tv 121)] [(.var 110)], r 140 1 100, .tr (.bin .lt (.bin (.add .i64) (.var 110) (.lit (.ofNat 1))) (.var 140)) false, r 150 0 18446744073709551615, r 141 1 100, .tr (.bin .lt (.bin (.add .i64) (.var 110) (.lit (.ofNat 1))) (.var 141)) false, r 151 0 18446744073709551615, .tr (.bin .lt (.var 110) (.var 0)) true, r 110 0 99]
def T_G2 : Tm := ⟨[(10, .v (.one (.int .i64 (.lit (.ofNat 0))))), (7, iv 110), (3, .v (.one (.ptr 1 0))), (0, .v (.one (.tslc 0 1 z (.var 0) (.var 1)))), (5, .v (.one (.osub 2 (.var 110) (.lit (.ofNat 100))))), (6, .v (.one (.slc 3 0 (.lit (.ofNat 100)) (.lit (.ofNat 100)))))], [(0, ⟨false, .tab 0 (.tv 0) (.var 0) [.int .u64]⟩), (1, ⟨true, .cells [.bool (.lit (.ofNat 1)), .int .u64 (.var 150), .osl 4, .bool (.lit (.ofNat 1)), .int .u64 (.var 151), .osl 5, bf, u0, .nils, bf, u0, .nils, bf, u0, .nils, bf, u0, .nils, bf, u0, .nils, bf, u0, .nils, .int .i64 (.lit (.ofNat 4))] 77⟩), (2, ⟨true, .seq 2 (.tv 121) (.lit (.ofNat 100)) [.int .i64] 3⟩), (3, ⟨true, .arr (.tv 120) 100 (.int .i64) 3⟩), (4, ⟨true, .seq 4 (.tv 130) (.var 140) [.int .i64] 3⟩), (5, ⟨true, .seq 5 (.tv 131) (.var 141) [.int .i64] 3⟩)], 8, 0⟩
def F_G2 : List Fact := [r 110 0 100, r 0 0 9223372036854775807, r 1 0 9223372036854775807, .sem 0 sem0 [(.tv 120), (.tv 130), (.tv 131)] [(.bin (.add .i64) (.var 110) (.lit (.ofNat 1))), z, (.var 140), z, (.var 141)], .sem 1 sem1 [(.tv 121)] [(.var 110)], r 140 1 100, .tr (.bin .lt (.bin (.add .i64) (.var 110) (.lit (.ofNat 1))) (.var 140)) false, r 150 0 18446744073709551615, r 141 1 100, .tr (.bin .lt (.bin (.add .i64) (.var 110) (.lit (.ofNat 1))) (.var 141)) false, r 151 0 18446744073709551615, .tr (.bin .lt (.var 110) (.var 0)) true, r 110 0 99]
def T_C2 : Tm := ⟨[(7, iv 110), (3, .v (.one (.ptr 1 0))), (0, .v (.one (.tslc 0 1 z (.var 0) (.var 1)))), (5, .v (.one (.osub 2 (.bin (.add .i64) (.var 110) (.lit (.ofNat 1))) (.lit (.ofNat 100))))), (6, .v (.one (.slc 3 0 (.lit (.ofNat 100)) (.lit (.ofNat 100)))))], [(0, ⟨false, .tab 0 (.tv 0) (.var 0) [.int .u64]⟩), (1, ⟨true, .cells [.bool (.lit (.ofNat 1)), .int .u64 (.var 150), .osl 4, .bool (.lit (.ofNat 1)), .int .u64 (.var 151), .osl 5, bf, u0, .nils, bf, u0, .nils, bf, u0, .nils, bf, u0, .nils, bf, u0, .nils, bf, u0, .nils, .int .i64 (.lit (.ofNat 4))] 77⟩), (2, ⟨true, .seq 2 (.tv 121) (.lit (.ofNat 100)) [.int .i64] 3⟩), (3, ⟨true, .arr (.tv 120) 100 (.int .i64) 3⟩), (4, ⟨true, .seq 4 (.tv 130) (.var 140) [.int .i64] 3⟩), (5, ⟨true, .seq 5 (.tv 131) (.var 141) [.int .i64] 3⟩)], 8, 0⟩
def F_C2 : List Fact := [r 110 0 100, r 0 0 9223372036854775807, r 1 0 9223372036854775807, .sem 0 sem0 [(.tv 120), (.tv 130), (.tv 131)] [(.bin (.add .i64) (.var 110) (.lit (.ofNat 1))), z, (.var 140), z, (.var 141)], .sem 1 sem1 [(.tv 121)] [(.bin (.add .i64) (.var 110) (.lit (.ofNat 1)))], r 140 1 100, .tr (.bin .lt (.bin (.add .i64) (.var 110) (.lit (.ofNat 1))) (.var 140)) false, r 150 0 18446744073709551615, r 141 1 100, .tr (.bin .lt (.bin (.add .i64) (.var 110) (.lit (.ofNat 1))) (.var 141)) false, r 151 0 18446744073709551615, r 110 0 99]
def T_A3 : Tm := ⟨[(7, iv 110), (3, .v (.one (.ptr 1 0))), (0, .v (.one (.tslc 0 1 z (.var 0) (.var 1)))), (5, .v (.one (.osub 2 (.var 110) (.lit (.ofNat 100))))), (6, .v (.one (.slc 3 0 (.lit (.ofNat 100)) (.lit (.ofNat 100)))))], [(0, ⟨false, .tab 0 (.tv 0) (.var 0) [.int .u64]⟩), (1, ⟨true, .cells [.bool (.lit (.ofNat 1)), .int .u64 (.var 150), .osl 4, .bool (.lit (.ofNat 1)), .int .u64 (.var 151), .osl 5, .bool (.lit (.ofNat 1)), .int .u64 (.var 152), .osl 6, bf, u0, .nils, bf, u0, .nils, bf, u0, .nils, bf, u0, .nils, bf, u0, .nils, .int .i64 (.lit (.ofNat 4))] 77⟩), (2, ⟨true, .seq 2 (.tv 121) (.lit (.ofNat 100)) [.int .i64] 3⟩), (3, ⟨true, .arr (.tv 120) 100 (.int .i64) 3⟩), (4, ⟨true, .seq 4 (.tv 130) (.var 140) [.int .i64] 3⟩), (5, ⟨true, .seq 5 (.tv 131) (.var 141) [.int .i64] 3⟩), (6, ⟨true, .seq 6 (.tv 132) (.var 142) [.int .i64] 3⟩)], 8, 0⟩
def F_A3 : List Fact := [r 110 0 100, r 0 0 9223372036854775807, r 1 0 9223372036854775807, .sem 0 sem0 [(.tv 120), (.tv 130), (.tv 131), (.tv 132)] [(.var 110), z, (.var 140), z, (.var 141), z, (.var 142)], .sem 1 sem1 [(.tv 121)] [(.var 110)], r 140 1 100, .tr (.bin .lt (.var 110) (.var 140)) false, r 150 0 18446744073709551615, r 141 1 100, .tr (.bin .lt (.var 110) (.var 141)) false, r 151 0 18446744073709551615, r 142 1 100, .tr (.bin .lt (.var 110) (.var 142)) false, r 152 0 18446744073709551615]
def T_B3 : Tm := ⟨[(7, iv 110), (3, .v (.one (.ptr 1 0))), (0, .v (.one (.tslc 0 1 z (.var 0) (.var 1)))), (5, .v (.one (.osub 2 (.var 110) (.lit (.ofNat 100))))), (6, .v (.one (.slc 3 0 (.lit (.ofNat 100)) (.lit (.ofNat 100)))))], [(0, ⟨false, .tab 0 (.tv 0) (.var 0) [.int .u64]⟩), (1, ⟨true, .cells [.bool (.lit (.ofNat 1)), .int .u64 (.var 150), .osl 4, .bool (.lit (.ofNat 1)), .int .u64 (.var 151), .osl 5, .bool (.lit (.ofNat 1)), .int .u64 (.var 152), .osl 6, bf, u0, .nils, bf, u0, .nils, bf, u0, .nils, bf, u0, .nils, bf, u0, .nils, .int .i64 (.lit (.ofNat 4))] 77⟩), (2, ⟨true, .seq 2 (.tv 121) (.lit (.ofNat 100)) [.int .i64] 3⟩), (3, ⟨true, .arr (.tv 120) 100 (.int .i64) 3⟩), (4, ⟨true, .seq 4 (.tv 130) (.var 140) [.int .i64] 3⟩), (5, ⟨true, .seq 5 (.tv 131) (.var 141) [.int .i64] 3⟩), (6, ⟨true, .seq 6 (.tv 132) (.var 142) [.int .i64] 3⟩)], 8, 0⟩
def F_B3 : List Fact := [r 110 0 100, r 0 0 9223372036854775807, r 1 0 9223372036854775807, .sem 0 sem0 [(.tv 120), (.tv 130), (.tv 131), (.tv 132)] [(.var 110), z, (.var 140), z, (.var 141), z, (.var 142)], .sem 1 sem1 [(.tv 121)] [(.var 110)], r 140 1 100, .tr (.bin .lt (.var 110) (.var 140)) false, r 150 0 18446744073709551615, r 141 1 100, .tr (.bin .lt (.var 110) (.var 141)) false, r 151 0 18446744073709551615, r 142 1 100, .tr (.bin .lt (.var 110) (.var 142)) false, r 152 0 18446744073709551615, .tr (.bin .lt (.var 110) (.var 0)) true, r 110 0 99]
def T_E3 : Tm := ⟨[(3, .v (.one (.ptr 1 0))), (5, .v (.one (.osub 2 (.var 110) (.lit (.ofNat 100))))), (6, .v (.one (.slc 3 0 (.lit (.ofNat 100)) (.lit (.ofNat 100)))))], [(1, ⟨true, .cells [.bool (.lit (.ofNat 1)), .int .u64 (.var 150), .osl 4, .bool (.lit (.ofNat 1)), .int .u64 (.var 151), .osl 5, .bool (.lit (.ofNat 1)), .int .u64 (.var 152), .osl 6, bf, u0, .nils, bf, u0, .nils, bf, u0, .nils, bf, u0, .nils, bf, u0, .nils, .int .i64 (.lit (.ofNat 4))] 77⟩), (2, ⟨true, .seq 2 (.tv 121) (.lit (.ofNat 100)) [.int .i64] 3⟩), (3, ⟨true, .arr (.tv 120) 100 (.int .i64) 3⟩), (4, ⟨true, .seq 4 (.tv 130) (.var 140) [.int .i64] 3⟩), (5, ⟨true, .seq 5 (.tv 131) (.var 141) [.int .i64] 3⟩), (6, ⟨true, .seq 6 (.tv 132) (.var 142) [.int .i64] 3⟩)], 8, 0⟩
def F_E3 : List Fact := [r 110 0 100, .sem 0 sem0 [(.tv 120), (.tv 130), (.tv 131), (.tv 132)] [(.var 110), z, (.var 140), z, (.var 141), z, (.var 142)], .sem 1 sem1 [(.tv 121)] [(.var 110)], r 140 1 100, .tr (.bin .lt (.var 110) (.var 140)) false, r 150 0 18446744073709551615, r 141 1 100, .tr (.bin .lt (.var 110) (.var 141)) false, r 151 0 18446744073709551615, r 142 1 100, .tr (.bin .lt (.var 110) (.var 142)) false, r 152 0 18446744073709551615]
def T_D3 : Tm := ⟨[(10, .v (.one (.int .i64 (.lit (.ofNat 0))))), (56, .v (.one (.bool (.lit (.ofNat 0))))), (7, iv 110), (3, .v (.one (.ptr 1 0))), (0, .v (.one (.tslc 0 1 z (.var 0) (.var 1)))), (5, .v (.one (.osub 2 (.var 110) (.lit (.ofNat 100))))), (6, .v (.one (.slc 3 0 (.lit (.ofNat 100)) (.lit (.ofNat 100)))))], [(0, ⟨false, .tab 0 (.tv 0) (.var 0) [.int .u64]⟩), (1, ⟨true, .cells [.bool (.lit (.ofNat 1)), .int .u64 (.var 150), .osl 4, .bool (.lit (.ofNat 1)), .int .u64 (.var 151), .osl 5, .bool (.lit (.ofNat 1)), .int .u64 (.var 152), .osl 6, bf, u0, .nils, bf, u0, .nils, bf, u0, .nils, bf, u0, .nils, bf, u0, .nils, .int .i64 (.lit (.ofNat 4))] 77⟩), (2, ⟨true, .seq 2 (.tv 121) (.lit (.ofNat 100)) [.int .i64] 3⟩), (3, ⟨true, .arr (.tv 120) 100 (.int .i64) 3⟩), (4, ⟨true, .seq 4 (.tv 130) (.var 140) [.int .i64] 3⟩), (5, ⟨true, .seq 5 (.tv 131) (.var 141) [.int .i64] 3⟩), (6, ⟨true, .seq 6 (.tv 132) (.var 142) [.int .i64] 3⟩)], 8, 0⟩
def F_D3 : List Fact := [r 110 0 100, r 0 0 9223372036854775807, r 1 0 9223372036854775807, .sem 0 sem0 [(.tv 120), (.tv 130), (.tv 131), (.tv 132)] [(.bin (.add .i64) (.var 110) (.lit (.ofNat 1))), z, (.var 140), z, (.var 141), z, (.var 142)], .sem 1 sem1 [(.tv 121)] [(.var 110)], r 140 1 100, .tr (.bin .lt (.bin (.add .i64) (.var 110) (.lit (.ofNat 1))) (.var 140)) false, r 150 0 18446744073709551615, r 141 1 100, .tr (.bin .lt (.bin (.add .i64) (.var 110) (.lit (.ofNat 1))) (.var 141)) false, r 151 0 18446744073709551615, r 142 1 100, .tr (.bin .lt (.bin (.add .i64) (.var 110) (.lit (.ofNat 1))) (.var 142)) false, r 152 0 18446744073709551615, .tr (.bin .lt (.var 110) (.var 0)) true, r 110 0 99]
def T_G3 : Tm := ⟨[(10, .v (.one (.int .i64 (.lit (.ofNat 0))))), (7, iv 110), (3, .v (.one (.ptr 1 0))), (0, .v (.one (.tslc 0 1 z (.var 0) (.var 1)))), (5, .v (.one (.osub 2 (.var 110) (.lit (.ofNat 100))))), (6, .v (.one (.slc 3 0 (.lit (.ofNat 100)) (.lit (.ofNat 100)))))], [(0, ⟨false, .tab 0 (.tv 0) (.var 0) [.int .u64]⟩), (1, ⟨true, .cells [.bool (.lit (.ofNat 1)), .int .u64 (.var 150), .osl 4, .bool (.lit (.ofNat 1)), .int .u64 (.var 151), .osl 5, .bool (.lit (.ofNat 1)), .int .u64 (.var 152), .osl 6, bf, u0, .nils, bf, u0, .nils, bf, u0, .nils, bf, u0, .nils, bf, u0, .nils, .int .i64 (.lit (.ofNat 4))] 77⟩), (2, ⟨true, .seq 2 (.tv 121) (.lit (.ofNat 100)) [.int .i64] 3⟩), (3, ⟨true, .arr (.tv 120) 100 (.int .i64) 3⟩), (4, ⟨true, .seq 4 (.tv 130) (.var 140) [.int .i64] 3⟩), (5, ⟨true, .seq 5 (.tv 131) (.var 141) [.int .i64] 3⟩), (6, ⟨true, .seq 6 (.tv 132) (.var 142) [.int .i64] 3⟩)], 8, 0⟩
def F_G3 : List Fact := [r 110 0 100, r 0 0 9223372036854775807, r 1 0 9223372036854775807, .sem 0 sem0 [(.tv 120), (.tv 130), (.tv 131), (.tv 132)] [(.bin (.add .i64) (.var 110) (.lit (.ofNat 1))), z, (.var 140), z, (.var 141), z, (.var 142)], .sem 1 sem1 [(.tv 121)] [(.var 110)], r 140 1 100, .tr (.bin .lt (.bin (.add .i64) (.var 110) (.lit (.ofNat 1))) (.var 140)) false, r 150 0 18446744073709551615, r 141 1 100, .tr (.bin .lt (.bin (.add .i64) (.var 110) (.lit (.ofNat 1))) (.var 141)) false, r 151 0 18446744073709551615, r 142 1 100, .tr (.bin .lt (.bin (.add .i64) (.var 110) (.lit (.ofNat 1))) (.var 142)) false, r 152 0 18446744073709551615, .tr (.bin .lt (.var 110) (.var 0)) true, r 110 0 99]
def T_C3 : Tm := ⟨[(7, iv 110), (3, .v (.one (.ptr 1 0))), (0, .v (.one (.tslc 0 1 z (.var 0) (.var 1)))), (5, .v (.one (.osub 2 (.bin (.add .i64) (.var 110) (.lit (.ofNat 1))) (.lit (.ofNat 100))))), (6, .v (.one (.slc 3 0 (.lit (.ofNat 100)) (.lit (.ofNat 100)))))], [(0, ⟨false, .tab 0 (.tv 0) (.var 0) [.int .u64]⟩), (1, ⟨true, .cells [.bool (.lit (.ofNat 1)), .int .u64 (.var 150), .osl 4, .bool (.lit (.ofNat 1)), .int .u64 (.var 151), .osl 5, .bool (.lit (.ofNat 1)), .int .u64 (.var 152), .osl 6, bf, u0, .nils, bf, u0, .nils, bf, u0, .nils, bf, u0, .nils, bf, u0, .nils, .int .i64 (.lit (.ofNat 4))] 77⟩), (2, ⟨true, .seq 2 (.tv 121) (.lit (.ofNat 100)) [.int .i64] 3⟩), (3, ⟨true, .arr (.tv 120) 100 (.int .i64) 3⟩), (4, ⟨true, .seq 4 (.tv 130) (.var 140) [.int .i64] 3⟩), (5, ⟨true, .seq 5 (.tv 131) (.var 141) [.int .i64] 3⟩), (6, ⟨true, .seq 6 (.tv 132) (.var 142) [.int .i64] 3⟩)], 8, 0⟩
def F_C3 : List Fact := [r 110 0 100, r 0 0 9223372036854775807, r 1 0 9223372036854775807, .sem 0 sem0 [(.tv 120), (.tv 130), (.tv 131), (.tv 132)] [(.bin (.add .i64) (.var 110) (.lit (.ofNat 1))), z, (.var 140), z, (.var 141), z, (.var 142)], .sem 1 sem1 [(.tv 121)] [(.bin (.add .i64) (.var 110) (.lit (.ofNat 1)))], r 140 1 100, .tr (.bin .lt (.bin (.add .i64) (.var 110) (.lit (.ofNat 1))) (.var 140)) false, r 150 0 18446744073709551615, r 141 1 100, .tr (.bin .lt (.bin (.add .i64) (.var 110) (.lit (.ofNat 1))) (.var 141)) false, r 151 0 18446744073709551615, r 142 1 100, .tr (.bin .lt (.bin (.add .i64) (.var 110) (.lit (.ofNat 1))) (.var 142)) false, r 152 0 18446744073709551615, r 110 0 99]
def T_A4 : Tm := ⟨[(7, iv 110), (3, .v (.one (.ptr 1 0))), (0, .v (.one (.tslc 0 1 z (.var 0) (.var 1)))), (5, .v (.one (.osub 2 (.var 110) (.lit (.ofNat 100))))), (6, .v (.one (.slc 3 0 (.lit (.ofNat 100)) (.lit (.ofNat 100)))))], [(0, ⟨false, .tab 0 (.tv 0) (.var 0) [.int .u64]⟩), (1, ⟨true, .cells [.bool (.lit (.ofNat 1)), .int .u64 (.var 150), .osl 4, .bool (.lit (.ofNat 1)), .int .u64 (.var 151), .osl 5, .bool (.lit (.ofNat 1)), .int .u64 (.var 152), .osl 6, .bool (.lit (.ofNat 1)), .int .u64 (.var 153), .osl 7, bf, u0, .nils, bf, u0, .nils, bf, u0, .nils, bf, u0, .nils, .int .i64 (.lit (.ofNat 4))] 77⟩), (2, ⟨true, .seq 2 (.tv 121) (.lit (.ofNat 100)) [.int .i64] 3⟩), (3, ⟨true, .arr (.tv 120) 100 (.int .i64) 3⟩), (4, ⟨true, .seq 4 (.tv 130) (.var 140) [.int .i64] 3⟩), (5, ⟨true, .seq 5 (.tv 131) (.var 141) [.int .i64] 3⟩), (6, ⟨true, .seq 6 (.tv 132) (.var 142) [.int .i64] 3⟩), (7, ⟨true, .seq 7 (.tv 133) (.var 143) [.int .i64] 3⟩)], 8, 0⟩
def F_A4 : List Fact := [r 110 0 100, r 0 0 9223372036854775807, r 1 0 9223372036854775807, .sem 0 sem0 [(.tv 120), (.tv 130), (.tv 131), (.tv 132), (.tv 133)] [(.var 110), z, (.var 140), z, (.var 141), z, (.var 142), z, (.var 143)], .sem 1 sem1 [(.tv 121)] [(.var 110)], r 140 1 100, .tr (.bin .lt (.var 110) (.var 140)) false, r 150 0 18446744073709551615, r 141 1 100, .tr (.bin .lt (.var 110) (.var 141)) false, r 151 0 18446744073709551615, r 142 1 100, .tr (.bin .lt (.var 110) (.var 142)) false, r 152 0 18446744073709551615, r 143 1 100, .tr (.bin .lt (.var 110) (.var 143)) false, r 153 0 18446744073709551615]
def T_B4 : Tm := ⟨[(7, iv 110), (3, .v (.one (.ptr 1 0))), (0, .v (.one (.tslc 0 1 z (.var 0) (.var 1)))), (5, .v (.one (.osub 2 (.var 110) (.lit (.ofNat 100))))), (6, .v (.one (.slc 3 0 (.lit (.ofNat 100)) (.lit (.ofNat 100)))))], [(0, ⟨false, .tab 0 (.tv 0) (.var 0) [.int .u64]⟩), (1, ⟨true, .cells [.bool (.lit (.ofNat 1)), .int .u64 (.var 150), .osl 4, .bool (.lit (.ofNat 1)), .int .u64 (.var 151), .osl 5, .bool (.lit (.ofNat 1)), .int .u64 (.var 152), .osl 6, .bool (.lit (.ofNat 1)), .int .u64 (.var 153), .osl 7, bf, u0, .nils, bf, u0, .nils, bf, u0, .nils, bf, u0, .nils, .int .i64 (.lit (.ofNat 4))] 77⟩), (2, ⟨true, .seq 2 (.tv 121) (.lit (.ofNat 100)) [.int .i64] 3⟩), (3, ⟨true, .arr (.tv 120) 100 (.int .i64) 3⟩), (4, ⟨true, .seq 4 (.tv 130) (.var 140) [.int .i64] 3⟩), (5, ⟨true, .seq 5 (.tv 131) (.var 141) [.int .i64] 3⟩), (6, ⟨true, .seq 6 (.tv 132) (.var 142) [.int .i64] 3⟩), (7, ⟨true, .seq 7 (.tv 133) (.var 143) [.int .i64] 3⟩)], 8, 0⟩
def F_B4 : List Fact := [r 110 0 100, r 0 0 9223372036854775807, r 1 0 9223372036854775807, .sem 0 sem0 [(.tv 120), (.tv 130), (.tv 131), (.tv 132), (.tv 133)] [(.var 110), z, (.var 140), z, (.var 141), z, (.var 142), z, (.var 143)], .sem 1 sem1 [(.tv 121)] [(.var 110)], r 140 1 100, .tr (.bin .lt (.var 110) (.var 140)) false, r 150 0 18446744073709551615, r 141 1 100, .tr (.bin .lt (.var 110) (.var 141)) false, r 151 0 18446744073709551615, r 142 1 100, .tr (.bin .lt (.var 110) (.var 142)) false, r 152 0 18446744073709551615, r 143 1 100, .tr (.bin .lt (.var 110) (.var 143)) false, r 153 0 18446744073709551615, .tr (.bin .lt (.var 110) (.var 0)) true, r 110 0 99]
def T_E4 : Tm := ⟨[(3, .v (.one (.ptr 1 0))), (5, .v (.one (.osub 2 (.var 110) (.lit (.ofNat 100))))), (6, .v (.one (.slc 3 0 (.lit (.ofNat 100)) (.lit (.ofNat 100)))))], [(1, ⟨true, .cells [.bool (.lit (.ofNat 1)), .int .u64 (.var 150), .osl 4, .bool (.lit (.ofNat 1)), .int .u64 (.var 151), .osl 5, .bool (.lit (.ofNat 1)), .int .u64 (.var 152), .osl 6, .bool (.lit (.ofNat 1)), .int .u64 (.var 153), .osl 7, bf, u0, .nils, bf, u0, .nils, bf, u0, .nils, bf, u0, .nils, .int .i64 (.lit (.ofNat 4))] 77⟩), (2, ⟨true, .seq 2 (.tv 121) (.lit (.ofNat 100)) [.int .i64] 3⟩), (3, ⟨true, .arr (.tv 120) 100 (.int .i64) 3⟩), (4, ⟨true, .seq 4 (.tv 130) (.var 140) [.int .i64] 3⟩), (5, ⟨true, .seq 5 (.tv 131) (.var 141) [.int .i64] 3⟩), (6, ⟨true, .seq 6 (.tv 132) (.var 142) [.int .i64] 3⟩), (7, ⟨true, .seq 7 (.tv 133) (.var 143) [.int .i64] 3⟩)], 8, 0⟩
def F_E4 : List Fact := [r 110 0 100, .sem 0 sem0 [(.tv 120), (.tv 130), (.tv 131), (.tv 132), (.tv 133)] [(.var 110), z, (.var 140), z, (.var 141), z, (.var 142), z, (.var 143)], .sem 1 sem1 [(.tv 121)] [(.var 110)], r 140 1 100, .tr (.bin .lt (.var 110) (.var 140)) false, r 150 0 18446744073709551615, r 141 1 100, .tr (.bin .lt (.var 110) (.var 141)) false, r 151 0 18446744073709551615, r 142 1 100, .tr (.bin .lt (.var 110) (.var 142)) false, r 152 0 18446744073709551615, r 143 1 100, .tr (.bin .lt (.var 110) (.var 143)) false, r 153 0 18446744073709551615]
def T_D4 : Tm := ⟨[(10, .v (.one (.int .i64 (.lit (.ofNat 0))))), (56, .v (.one (.bool (.lit (.ofNat 0))))), (7, iv 110), (3, .v (.one (.ptr 1 0))), (0, .v (.one (.tslc 0 1 z (.var 0) (.var 1)))), (5, .v (.one (.osub 2 (.var 110) (.lit (.ofNat 100))))), (6, .v (.one (.slc 3 0 (.lit (.ofNat 100)) (.lit (.ofNat 100)))))], [(0, ⟨false, .tab 0 (.tv 0) (.var 0) [.int .u64]⟩), (1, ⟨true, .cells [.bool (.lit (.ofNat 1)), .int .u64 (.var 150), .osl 4, .bool (.lit (.ofNat 1)), .int .u64 (.var 151), .osl 5, .bool (.lit (.ofNat 1)), .int .u64 (.var 152), .osl 6, .bool (.lit (.ofNat 1)), .int .u64 (.var 153), .osl 7, bf, u0, .nils, bf, u0, .nils, bf, u0, .nils, bf, u0, .nils, .int .i64 (.lit (.ofNat 4))] 77⟩), (2, ⟨true, .seq 2 (.tv 121) (.lit (.ofNat 100)) [.int .i64] 3⟩), (3, ⟨true, .arr (.tv 120) 100 (.int .i64) 3⟩), (4, ⟨true, .seq 4 (.tv 130) (.var 140) [.int .i64] 3⟩), (5, ⟨true, .seq 5 (.tv 131) (.var 141) [.int .i64] 3⟩), (6, ⟨true, .seq 6 (.tv 132) (.var 142) [.int .i64] 3⟩), (7, ⟨true, .seq 7 (.tv 133) (.var 143) [.int .i64] 3⟩)], 8, 0⟩
def F_D4 : List Fact := [r 110 0 100, r 0 0 9223372036854775807, r 1 0 9223372036854775807, .sem 0 sem0 [(.tv 120), (.tv 130), (.tv 131), (.tv 132), (.tv 133)] [(.bin (.add .i64) (.var 110) (.lit (.ofNat 1))), z, (.var 140), z, (.var 141), z, (.var 142), z, (.var 143)], .sem 1 sem1 [(.tv 121)] [(.var 110)], r 140 1 100, .tr (.bin .lt (.bin (.add .i64) (.var 110) (.lit (.ofNat 1))) (.var 140)) false, r 150 0 18446744073709551615, r 141 1 100, .tr (.bin .lt (.bin (.add .i64) (.var 110) (.lit (.ofNat 1))) (.var 141)) false, r 151 0 18446744073709551615, r 142 1 100, .tr (.bin .lt (.bin (.add .i64) (.var 110) (.lit (.ofNat 1))) (.var 142)) false, r 152 0 18446744073709551615, r 143 1 100, .tr (.bin .lt (.bin (.add .i64) (.var 110) (.lit (.ofNat 1))) (.var 143)) false, r 153 0 18446744073709551615, .tr (.bin .lt (.var 110) (.var 0)) true, r 110 0 99]
def T_G4 : Tm := ⟨[(10, .v (.one (.int .i64 (.lit (.ofNat 0))))), (7, iv 110), (3, .v (.one (.ptr 1 0))), (0, .v (.one (.tslc 0 1 z (.var 0) (.var 1)))), (5, .v (.one (.osub 2 (.var 110) (.lit (.ofNat 100))))), (6, .v (.one (.slc 3 0 (.lit (.ofNat 100)) (.lit (.ofNat 100)))))], [(0, ⟨false, .tab 0 (.tv 0) (.var 0) [.int .u64]⟩), (1, ⟨true, .cells [.bool (.lit (.ofNat 1)), .int .u64 (.var 150), .osl 4, .bool (.lit (.ofNat 1)), .int .u64 (.var 151), .osl 5, .bool (.lit (.ofNat 1)), .int .u64 (.var 152), .osl 6, .bool (.lit (.ofNat 1)), .int .u64 (.var 153), .osl 7, bf, u0, .nils, bf, u0, .nils, bf, u0, .nils, bf, u0, .nils, .int .i64 (.lit (.ofNat 4))] 77⟩), (2, ⟨true, .seq 2 (.tv 121) (.lit (.ofNat 100)) [.int .i64] 3⟩), (3, ⟨true, .arr (.tv 120) 100 (.int .i64) 3⟩), (4, ⟨true, .seq 4 (.tv 130) (.var 140) [.int .i64] 3⟩), (5, ⟨true, .seq 5 (.tv 131) (.var 141) [.int .i64] 3⟩), (6, ⟨true, .seq 6 (.tv 132) (.var 142) [.int .i64] 3⟩), (7, ⟨true, .seq 7 (.tv 133) (.var 143) [.int .i64] 3⟩)], 8, 0⟩
def F_G4 : List Fact := [r 110 0 100, r 0 0 9223372036854775807, r 1 0 9223372036854775807, .sem 0 sem0 [(.tv 120), (.tv 130), (.tv 131), (.tv 132), (.tv 133)] [(.bin (.add .i64) (.var 110) (.lit (.ofNat 1))), z, (.var 140), z, (.var 141), z, (.var 142), z, (.var 143)], .sem 1 sem1 [(.tv 121)] [(.var 110)], r 140 1 100, .tr (.bin .lt (.bin (.add .i64) (.var 110) (.lit (.ofNat 1))) (.var 140)) false, r 150 0 18446744073709551615, r 141 1 100, .tr (.bin .lt (.bin (.add .i64) (.var 110) (.lit (.ofNat 1))) (.var 141)) false, r 151 0 18446744073709551615, r 142 1 100, .tr (.bin .lt (.bin (.add .i64) (.var 110) (.lit (.ofNat 1))) (.var 142)) false, r 152 0 18446744073709551615, r 143 1 100, .tr (.bin .lt (.bin (.add .i64) (.var 110) (.lit (.ofNat 1))) (.var 143)) false, r 153 0 18446744073709551615, .tr (.bin .lt (.var 110) (.var 0)) true, r 110 0 99]
def T_C4 : Tm := ⟨[(7, iv 110), (3, .v (.one (.ptr 1 0))), (0, .v (.one (.tslc 0 1 z (.var 0) (.var 1)))), (5, .v (.one (.osub 2 (.bin (.add .i64) (.var 110) (.lit (.ofNat 1))) (.lit (.ofNat 100))))), (6, .v (.one (.slc 3 0 (.lit (.ofNat 100)) (.lit (.ofNat 100)))))], [(0, ⟨false, .tab 0 (.tv 0) (.var 0) [.int .u64]⟩), (1, ⟨true, .cells [.bool (.lit (.ofNat 1)), .int .u64 (.var 150), .osl 4, .bool (.lit (.ofNat 1)), .int .u64 (.var 151), .osl 5, .bool (.lit (.ofNat 1)), .int .u64 (.var 152), .osl 6, .bool (.lit (.ofNat 1)), .int .u64 (.var 153), .osl 7, bf, u0, .nils, bf, u0, .nils, bf, u0, .nils, bf, u0, .nils, .int .i64 (.lit (.ofNat 4))] 77⟩), (2, ⟨true, .seq 2 (.tv 121) (.lit (.ofNat 100)) [.int .i64] 3⟩), (3, ⟨true, .arr (.tv 120) 100 (.int .i64) 3⟩), (4, ⟨true, .seq 4 (.tv 130) (.var 140) [.int .i64] 3⟩), (5, ⟨true, .seq 5 (.tv 131) (.var 141) [.int .i64] 3⟩), (6, ⟨true, .seq 6 (.tv 132) (.var 142) [.int .i64] 3⟩), (7, ⟨true, .seq 7 (.tv 133) (.var 143) [.int .i64] 3⟩)], 8, 0⟩
def F_C4 : List Fact := [r 110 0 100, r 0 0 9223372036854775807, r 1 0 9223372036854775807, .sem 0 sem0 [(.tv 120), (.tv 130), (.tv 131), (.tv 132), (.tv 133)] [(.bin (.add .i64) (.var 110) (.lit (.ofNat 1))), z, (.var 140), z, (.var 141), z, (.var 142), z, (.var 143)], .sem 1 sem1 [(.tv 121)] [(.bin (.add .i64) (.var 110) (.lit (.ofNat 1)))], r 140 1 100, .tr (.bin .lt (.bin (.add .i64) (.var 110) (.lit (.ofNat 1))) (.var 140)) false, r 150 0 18446744073709551615, r 141 1 100, .tr (.bin .lt (.bin (.add .i64) (.var 110) (.lit (.ofNat 1))) (.var 141)) false, r 151 0 18446744073709551615, r 142 1 100, .tr (.bin .lt (.bin (.add .i64) (.var 110) (.lit (.ofNat 1))) (.var 142)) false, r 152 0 18446744073709551615, r 143 1 100, .tr (.bin .lt (.bin (.add .i64) (.var 110) (.lit (.ofNat 1))) (.var 143)) false, r 153 0 18446744073709551615, r 110 0 99]
def T_DF : Tm := ⟨[(10, .v (.one (.int .i64 (.lit (.ofNat 3))))), (56, .v (.one (.bool (.lit (.ofNat 1))))), (7, iv 110), (3, .v (.one (.ptr 1 0))), (0, .v (.one (.tslc 0 1 z (.var 0) (.var 1)))), (5, .v (.one (.osub 2 (.var 110) (.lit (.ofNat 100))))), (6, .v (.one (.slc 3 0 (.lit (.ofNat 100)) (.lit (.ofNat 100)))))], [(0, ⟨false, .tab 0 (.tv 0) (.var 0) [.int .u64]⟩), (1, ⟨true, .cells [.bool (.lit (.ofNat 1)), .int .u64 (.var 150), .osl 4, .bool (.lit (.ofNat 1)), .int .u64 (.var 151), .osl 5, .bool (.lit (.ofNat 1)), .int .u64 (.var 152), .osl 6, .bool (.lit (.ofNat 1)), .int .u64 (.var 153), .osl 7, bf, u0, .nils, bf, u0, .nils, bf, u0, .nils, bf, u0, .nils, .int .i64 (.lit (.ofNat 4))] 77⟩), (2, ⟨true, .seq 2 (.tv 121) (.lit (.ofNat 100)) [.int .i64] 3⟩), (3, ⟨true, .arr (.tv 120) 100 (.int .i64) 3⟩), (4, ⟨true, .seq 4 (.tv 130) (.var 140) [.int .i64] 3⟩), (5, ⟨true, .seq 5 (.tv 131) (.var 141) [.int .i64] 3⟩), (6, ⟨true, .seq 6 (.tv 132) (.var 142) [.int .i64] 3⟩), (7, ⟨true, .seq 7 (.tv 133) (.var 143) [.int .i64] 3⟩)], 8, 0⟩
def F_DF : List Fact := [r 110 0 100, r 0 0 9223372036854775807, r 1 0 9223372036854775807, .sem 0 sem0 [(.tv 120), (.tv 130), (.tv 131), (.tv 132), (.tv 133)] [(.var 110), z, (.var 140), z, (.var 141), z, (.var 142), z, (.var 143)], .sem 1 sem1 [(.tv 121)] [(.var 110)], r 140 1 100, .tr (.bin .lt (.var 110) (.var 140)) false, r 150 0 18446744073709551615, r 141 1 100, .tr (.bin .lt (.var 110) (.var 141)) false, r 151 0 18446744073709551615, r 142 1 100, .tr (.bin .lt (.var 110) (.var 142)) false, r 152 0 18446744073709551615, r 143 1 100, .tr (.bin .lt (.var 110) (.var 143)) false, r 153 0 18446744073709551615, .tr (.bin .lt (.var 110) (.var 0)) true, r 110 0 99]
def T_K0 : Tm := ⟨[(11, iv 112), (7, iv 110), (3, .v (.one (.ptr 1 0))), (0, .v (.one (.tslc 0 1 z (.var 0) (.var 1)))), (5, .v (.one (.osub 2 (.var 110) (.lit (.ofNat 100))))), (6, .v (.one (.slc 3 0 (.lit (.ofNat 100)) (.lit (.ofNat 100)))))], [(0, ⟨false, .tab 0 (.tv 0) (.var 0) [.int .u64]⟩), (1, ⟨true, .cells [.bool (.lit (.ofNat 1)), .int .u64 (.var 150), .osl 4, .bool (.lit (.ofNat 1)), .int .u64 (.var 151), .osl 5, .bool (.lit (.ofNat 1)), .int .u64 (.var 152), .osl 6, .bool (.lit (.ofNat 1)), .int .u64 (.var 153), .osl 7, bf, u0, .nils, bf, u0, .nils, bf, u0, .nils, bf, u0, .nils, .int .i64 (.lit (.ofNat 4))] 77⟩), (2, ⟨true, .seq 2 (.tv 121) (.lit (.ofNat 100)) [.int .i64] 3⟩), (3, ⟨true, .arr (.tv 120) 100 (.int .i64) 3⟩), (4, ⟨true, .seq 4 (.tv 130) (.var 140) [.int .i64] 3⟩), (5, ⟨true, .seq 5 (.tv 131) (.var 141) [.int .i64] 3⟩), (6, ⟨true, .seq 6 (.tv 132) (.var 142) [.int .i64] 3⟩), (7, ⟨true, .seq 7 (.tv 133) (.var 143) [.int .i64] 3⟩)], 8, 0⟩
def F_K0 : List Fact := [r 110 0 100, r 0 0 9223372036854775807, r 1 0 9223372036854775807, .sem 0 sem0 [(.tv 120), (.tv 130), (.tv 131), (.tv 132), (.tv 133)] [(.var 110), z, (.var 140), z, (.var 141), z, (.var 142), z, (.var 143)], .sem 1 sem1 [(.tv 121)] [(.var 110)], r 140 1 100, .tr (.bin .lt (.var 110) (.var 140)) false, r 150 0 18446744073709551615, r 141 1 100, .tr (.bin .lt (.var 110) (.var 141)) false, r 151 0 18446744073709551615, r 142 1 100, .tr (.bin .lt (.var 110) (.var 142)) false, r 152 0 18446744073709551615, r 143 1 100, .tr (.bin .lt (.var 110) (.var 143)) false, r 153 0 18446744073709551615, .tr (.bin .lt (.var 110) (.var 0)) true, r 110 0 99, r 112 0 0]
def T_Kn0 : Tm := ⟨[(11, iv 112), (7, iv 110), (3, .v (.one (.ptr 1 0))), (0, .v (.one (.tslc 0 1 z (.var 0) (.var 1)))), (5, .v (.one (.osub 2 (.var 110) (.lit (.ofNat 100))))), (6, .v (.one (.slc 3 0 (.lit (.ofNat 100)) (.lit (.ofNat 100)))))], [(0, ⟨false, .tab 0 (.tv 0) (.var 0) [.int .u64]⟩), (1, ⟨true, .cells [bf, u0, .nils, .bool (.lit (.ofNat 1)), .int .u64 (.var 151), .osl 5, .bool (.lit (.ofNat 1)), .int .u64 (.var 152), .osl 6, .bool (.lit (.ofNat 1)), .int .u64 (.var 153), .osl 7, bf, u0, .nils, bf, u0, .nils, bf, u0, .nils, bf, u0, .nils, .int .i64 (.lit (.ofNat 4))] 77⟩), (2, ⟨true, .seq 2 (.tv 121) (.lit (.ofNat 100)) [.int .i64] 3⟩), (3, ⟨true, .arr (.tv 120) 100 (.int .i64) 3⟩), (5, ⟨true, .seq 5 (.tv 131) (.var 141) [.int .i64] 3⟩), (6, ⟨true, .seq 6 (.tv 132) (.var 142) [.int .i64] 3⟩), (7, ⟨true, .seq 7 (.tv 133) (.var 143) [.int .i64] 3⟩)], 8, 0⟩
def F_Kn0 : List Fact := [r 110 0 100, r 0 0 9223372036854775807, r 1 0 9223372036854775807, .sem 0 sem0 [(.tv 120), (.tv 131), (.tv 132), (.tv 133)] [(.var 110), z, (.var 141), z, (.var 142), z, (.var 143)], .sem 1 sem1 [(.tv 121)] [(.var 110)], r 141 1 100, .tr (.bin .lt (.var 110) (.var 141)) false, r 151 0 18446744073709551615, r 142 1 100, .tr (.bin .lt (.var 110) (.var 142)) false, r 152 0 18446744073709551615, r 143 1 100, .tr (.bin .lt (.var 110) (.var 143)) false, r 153 0 18446744073709551615, .tr (.bin .lt (.var 110) (.var 0)) true, r 110 0 99, r 112 0 0]
def T_J0 : Tm := ⟨[(11, iv 112), (15, iv 111), (12, .v (.one (.osl 4))), (7, iv 110), (3, .v (.one (.ptr 1 0))), (0, .v (.one (.tslc 0 1 z (.var 0) (.var 1)))), (5, .v (.one (.osub 2 (.var 110) (.lit (.ofNat 100))))), (6, .v (.one (.slc 3 0 (.lit (.ofNat 100)) (.lit (.ofNat 100)))))], [(0, ⟨false, .tab 0 (.tv 0) (.var 0) [.int .u64]⟩), (1, ⟨true, .cells [bf, u0, .nils, .bool (.lit (.ofNat 1)), .int .u64 (.var 151), .osl 5, .bool (.lit (.ofNat 1)), .int .u64 (.var 152), .osl 6, .bool (.lit (.ofNat 1)), .int .u64 (.var 153), .osl 7, bf, u0, .nils, bf, u0, .nils, bf, u0, .nils, bf, u0, .nils, .int .i64 (.lit (.ofNat 4))] 77⟩), (2, ⟨true, .seq 2 (.tv 121) (.lit (.ofNat 100)) [.int .i64] 3⟩), (3, ⟨true, .arr (.tv 120) 100 (.int .i64) 3⟩), (4, ⟨true, .seq 4 (.tv 130) (.var 140) [.int .i64] 3⟩), (5, ⟨true, .seq 5 (.tv 131) (.var 141) [.int .i64] 3⟩), (6, ⟨true, .seq 6 (.tv 132) (.var 142) [.int .i64] 3⟩), (7, ⟨true, .seq 7 (.tv 133) (.var 143) [.int .i64] 3⟩)], 8, 0⟩
def F_J0 : List Fact := [r 110 0 100, r 0 0 9223372036854775807, r 1 0 9223372036854775807, .sem 0 sem0 [(.tv 120), (.tv 130), (.tv 131), (.tv 132), (.tv 133)] [(.var 110), (.var 111), (.var 140), z, (.var 141), z, (.var 142), z, (.var 143)], .sem 1 sem1 [(.tv 121)] [(.var 110)], r 140 1 100, .tr (.bin .lt (.var 110) (.var 140)) false, r 141 1 100, .tr (.bin .lt (.var 110) (.var 141)) false, r 151 0 18446744073709551615, r 142 1 100, .tr (.bin .lt (.var 110) (.var 142)) false, r 152 0 18446744073709551615, r 143 1 100, .tr (.bin .lt (.var 110) (.var 143)) false, r 153 0 18446744073709551615, .tr (.bin .lt (.var 110) (.var 0)) true, r 110 0 99, r 112 0 0, r 111 0 100, .tr (.bin .lt (.var 140) (.var 111)) false]
def T_K1 : Tm := ⟨[(11, iv 112), (7, iv 110), (3, .v (.one (.ptr 1 0))), (0, .v (.one (.tslc 0 1 z (.var 0) (.var 1)))), (5, .v (.one (.osub 2 (.var 110) (.lit (.ofNat 100))))), (6, .v (.one (.slc 3 0 (.lit (.ofNat 100)) (.lit (.ofNat 100)))))], [(0, ⟨false, .tab 0 (.tv 0) (.var 0) [.int .u64]⟩), (1, ⟨true, .cells [bf, u0, .nils, .bool (.lit (.ofNat 1)), .int .u64 (.var 151), .osl 5, .bool (.lit (.ofNat 1)), .int .u64 (.var 152), .osl 6, .bool (.lit (.ofNat 1)), .int .u64 (.var 153), .osl 7, bf, u0, .nils, bf, u0, .nils, bf, u0, .nils, bf, u0, .nils, .int .i64 (.lit (.ofNat 4))] 77⟩), (2, ⟨true, .seq 2 (.tv 121) (.lit (.ofNat 100)) [.int .i64] 3⟩), (3, ⟨true, .arr (.tv 120) 100 (.int .i64) 3⟩), (5, ⟨true, .seq 5 (.tv 131) (.var 141) [.int .i64] 3⟩), (6, ⟨true, .seq 6 (.tv 132) (.var 142) [.int .i64] 3⟩), (7, ⟨true, .seq 7 (.tv 133) (.var 143) [.int .i64] 3⟩)], 8, 0⟩
def F_K1 : List Fact := [r 110 0 100, r 0 0 9223372036854775807, r 1 0 9223372036854775807, .sem 0 sem0 [(.tv 120), (.tv 131), (.tv 132), (.tv 133)] [(.var 110), z, (.var 141), z, (.var 142), z, (.var 143)], .sem 1 sem1 [(.tv 121)] [(.var 110)], r 141 1 100, .tr (.bin .lt (.var 110) (.var 141)) false, r 151 0 18446744073709551615, r 142 1 100, .tr (.bin .lt (.var 110) (.var 142)) false, r 152 0 18446744073709551615, r 143 1 100, .tr (.bin .lt (.var 110) (.var 143)) false, r 153 0 18446744073709551615, .tr (.bin .lt (.var 110) (.var 0)) true, r 110 0 99, r 112 1 1]
def T_Kn1 : Tm := ⟨[(11, iv 112), (7, iv 110), (3, .v (.one (.ptr 1 0))), (0, .v (.one (.tslc 0 1 z (.var 0) (.var 1)))), (5, .v (.one (.osub 2 (.var 110) (.lit (.ofNat 100))))), (6, .v (.one (.slc 3 0 (.lit (.ofNat 100)) (.lit (.ofNat 100)))))], [(0, ⟨false, .tab 0 (.tv 0) (.var 0) [.int .u64]⟩), (1, ⟨true, .cells [bf, u0, .nils, bf, u0, .nils, .bool (.lit (.ofNat 1)), .int .u64 (.var 152), .osl 6, .bool (.lit (.ofNat 1)), .int .u64 (.var 153), .osl 7, bf, u0, .nils, bf, u0, .nils, bf, u0, .nils, bf, u0, .nils, .int .i64 (.lit (.ofNat 4))] 77⟩), (2, ⟨true, .seq 2 (.tv 121) (.lit (.ofNat 100)) [.int .i64] 3⟩), (3, ⟨true, .arr (.tv 120) 100 (.int .i64) 3⟩), (6, ⟨true, .seq 6 (.tv 132) (.var 142) [.int .i64] 3⟩), (7, ⟨true, .seq 7 (.tv 133) (.var 143) [.int .i64] 3⟩)], 8, 0⟩
def F_Kn1 : List Fact := [r 110 0 100, r 0 0 9223372036854775807, r 1 0 9223372036854775807, .sem 0 sem0 [(.tv 120), (.tv 132), (.tv 133)] [(.var 110), z, (.var 142), z, (.var 143)], .sem 1 sem1 [(.tv 121)] [(.var 110)], r 142 1 100, .tr (.bin .lt (.var 110) (.var 142)) false, r 152 0 18446744073709551615, r 143 1 100, .tr (.bin .lt (.var 110) (.var 143)) false, r 153 0 18446744073709551615, .tr (.bin .lt (.var 110) (.var 0)) true, r 110 0 99, r 112 1 1]
def T_J1 : Tm := ⟨[(11, iv 112), (15, iv 111), (12, .v (.one (.osl 5))), (7, iv 110), (3, .v (.one (.ptr 1 0))), (0, .v (.one (.tslc 0 1 z (.var 0) (.var 1)))), (5, .v (.one (.osub 2 (.var 110) (.lit (.ofNat 100))))), (6, .v (.one (.slc 3 0 (.lit (.ofNat 100)) (.lit (.ofNat 100)))))], [(0, ⟨false, .tab 0 (.tv 0) (.var 0) [.int .u64]⟩), (1, ⟨true, .cells [bf, u0, .nils, bf, u0, .nils, .bool (.lit (.ofNat 1)), .int .u64 (.var 152), .osl 6, .bool (.lit (.ofNat 1)), .int .u64 (.var 153), .osl 7, bf, u0, .nils, bf, u0, .nils, bf, u0, .nils, bf, u0, .nils, .int .i64 (.lit (.ofNat 4))] 77⟩), (2, ⟨true, .seq 2 (.tv 121) (.lit (.ofNat 100)) [.int .i64] 3⟩), (3, ⟨true, .arr (.tv 120) 100 (.int .i64) 3⟩), (5, ⟨true, .seq 5 (.tv 131) (.var 141) [.int .i64] 3⟩), (6, ⟨true, .seq 6 (.tv 132) (.var 142) [.int .i64] 3⟩), (7, ⟨true, .seq 7 (.tv 133) (.var 143) [.int .i64] 3⟩)], 8, 0⟩
def F_J1 : List Fact := [r 110 0 100, r 0 0 9223372036854775807, r 1 0 9223372036854775807, .sem 0 sem0 [(.tv 120), (.tv 131), (.tv 132), (.tv 133)] [(.var 110), (.var 111), (.var 141), z, (.var 142), z, (.var 143)], .sem 1 sem1 [(.tv 121)] [(.var 110)], r 141 1 100, .tr (.bin .lt (.var 110) (.var 141)) false, r 142 1 100, .tr (.bin .lt (.var 110) (.var 142)) false, r 152 0 18446744073709551615, r 143 1 100, .tr (.bin .lt (.var 110) (.var 143)) false, r 153 0 18446744073709551615, .tr (.bin .lt (.var 110) (.var 0)) true, r 110 0 99, r 112 1 1, r 111 0 100, .tr (.bin .lt (.var 141) (.var 111)) false]
def T_K2 : Tm := ⟨[(11, iv 112), (7, iv 110), (3, .v (.one (.ptr 1 0))), (0, .v (.one (.tslc 0 1 z (.var 0) (.var 1)))), (5, .v (.one (.osub 2 (.var 110) (.lit (.ofNat 100))))), (6, .v (.one (.slc 3 0 (.lit (.ofNat 100)) (.lit (.ofNat 100)))))], [(0, ⟨false, .tab 0 (.tv 0) (.var 0) [.int .u64]⟩), (1, ⟨true, .cells [bf, u0, .nils, bf, u0, .nils, .bool (.lit (.ofNat 1)), .int .u64 (.var 152), .osl 6, .bool (.lit (.ofNat 1)), .int .u64 (.var 153), .osl 7, bf, u0, .nils, bf, u0, .nils, bf, u0, .nils, bf, u0, .nils, .int .i64 (.lit (.ofNat 4))] 77⟩), (2, ⟨true, .seq 2 (.tv 121) (.lit (.ofNat 100)) [.int .i64] 3⟩), (3, ⟨true, .arr (.tv 120) 100 (.int .i64) 3⟩), (6, ⟨true, .seq 6 (.tv 132) (.var 142) [.int .i64] 3⟩), (7, ⟨true, .seq 7 (.tv 133) (.var 143) [.int .i64] 3⟩)], 8, 0⟩
def F_K2 : List Fact := [r 110 0 100, r 0 0 9223372036854775807, r 1 0 9223372036854775807, .sem 0 sem0 [(.tv 120), (.tv 132), (.tv 133)] [(.var 110), z, (.var 142), z, (.var 143)], .sem 1 sem1 [(.tv 121)] [(.var 110)], r 142 1 100, .tr (.bin .lt (.var 110) (.var 142)) false, r 152 0 18446744073709551615, r 143 1 100, .tr (.bin .lt (.var 110) (.var 143)) false, r 153 0 18446744073709551615, .tr (.bin .lt (.var 110) (.var 0)) true, r 110 0 99, r 112 2 2]
def T_Kn2 : Tm := ⟨[(11, iv 112), (7, iv 110), (3, .v (.one (.ptr 1 0))), (0, .v (.one (.tslc 0 1 z (.var 0) (.var 1)))), (5, .v (.one (.osub 2 (.var 110) (.lit (.ofNat 100))))), (6, .v (.one (.slc 3 0 (.lit (.ofNat 100)) (.lit (.ofNat 100)))))], [(0, ⟨false, .tab 0 (.tv 0) (.var 0) [.int .u64]⟩), (1, ⟨true, .cells [bf, u0, .nils, bf, u0, .nils, bf, u0, .nils, .bool (.lit (.ofNat 1)), .int .u64 (.var 153), .osl 7, bf, u0, .nils, bf, u0, .nils, bf, u0, .nils, bf, u0, .nils, .int .i64 (.lit (.ofNat 4))] 77⟩), (2, ⟨true, .seq 2 (.tv 121) (.lit (.ofNat 100)) [.int .i64] 3⟩), (3, ⟨true, .arr (.tv 120) 100 (.int .i64) 3⟩), (7, ⟨true, .seq 7 (.tv 133) (.var 143) [.int .i64] 3⟩)], 8, 0⟩
def F_Kn2 : List Fact := [r 110 0 100, r 0 0 9223372036854775807, r 1 0 9223372036854775807, .sem 0 sem0 [(.tv 120), (.tv 133)] [(.var 110), z, (.var 143)], .sem 1 sem1 [(.tv 121)] [(.var 110)], r 143 1 100, .tr (.bin .lt (.var 110) (.var 143)) false, r 153 0 18446744073709551615, .tr (.bin .lt (.var 110) (.var 0)) true, r 110 0 99, r 112 2 2]
def T_J2 : Tm := ⟨[(11, iv 112), (15, iv 111), (12, .v (.one (.osl 6))), (7, iv 110), (3, .v (.one (.ptr 1 0))), (0, .v (.one (.tslc 0 1 z (.var 0) (.var 1)))), (5, .v (.one (.osub 2 (.var 110) (.lit (.ofNat 100))))), (6, .v (.one (.slc 3 0 (.lit (.ofNat 100)) (.lit (.ofNat 100)))))], [(0, ⟨false, .tab 0 (.tv 0) (.var 0) [.int .u64]⟩), (1, ⟨true, .cells [bf, u0, .nils, bf, u0, .nils, bf, u0, .nils, .bool (.lit (.ofNat 1)), .int .u64 (.var 153), .osl 7, bf, u0, .nils, bf, u0, .nils, bf, u0, .nils, bf, u0, .nils, .int .i64 (.lit (.ofNat 4))] 77⟩), (2, ⟨true, .seq 2 (.tv 121) (.lit (.ofNat 100)) [.int .i64] 3⟩), (3, ⟨true, .arr (.tv 120) 100 (.int .i64) 3⟩), (6, ⟨true, .seq 6 (.tv 132) (.var 142) [.int .i64] 3⟩), (7, ⟨true, .seq 7 (.tv 133) (.var 143) [.int .i64] 3⟩)], 8, 0⟩
def F_J2 : List Fact := [r 110 0 100, r 0 0 9223372036854775807, r 1 0 9223372036854775807, .sem 0 sem0 [(.tv 120), (.tv 132), (.tv 133)] [(.var 110), (.var 111), (.var 142), z, (.var 143)], .sem 1 sem1 [(.tv 121)] [(.var 110)], r 142 1 100, .tr (.bin .lt (.var 110) (.var 142)) false, r 143 1 100, .tr (.bin .lt (.var 110) (.var 143)) false, r 153 0 18446744073709551615, .tr (.bin .lt (.var 110) (.var 0)) true, r 110 0 99, r 112 2 2, r 111 0 100, .tr (.bin .lt (.var 142) (.var 111)) false]
def T_K3 : Tm := ⟨[(11, iv 112), (7, iv 110), (3, .v (.one (.ptr 1 0))), (0, .v (.one (.tslc 0 1 z (.var 0) (.var 1)))), (5, .v (.one (.osub 2 (.var 110) (.lit (.ofNat 100))))), (6, .v (.one (.slc 3 0 (.lit (.ofNat 100)) (.lit (.ofNat 100)))))], [(0, ⟨false, .tab 0 (.tv 0) (.var 0) [.int .u64]⟩), (1, ⟨true, .cells [bf, u0, .nils, bf, u0, .nils, bf, u0, .nils, .bool (.lit (.ofNat 1)), .int .u64 (.var 153), .osl 7, bf, u0, .nils, bf, u0, .nils, bf, u0, .nils, bf, u0, .nils, .int .i64 (.lit (.ofNat 4))] 77⟩), (2, ⟨true, .seq 2 (.tv 121) (.lit (.ofNat 100)) [.int .i64] 3⟩), (3, ⟨true, .arr (.tv 120) 100 (.int .i64) 3⟩), (7, ⟨true, .seq 7 (.tv 133) (.var 143) [.int .i64] 3⟩)], 8, 0⟩
def F_K3 : List Fact := [r 110 0 100, r 0 0 9223372036854775807, r 1 0 9223372036854775807, .sem 0 sem0 [(.tv 120), (.tv 133)] [(.var 110), z, (.var 143)], .sem 1 sem1 [(.tv 121)] [(.var 110)], r 143 1 100, .tr (.bin .lt (.var 110) (.var 143)) false, r 153 0 18446744073709551615, .tr (.bin .lt (.var 110) (.var 0)) true, r 110 0 99, r 112 3 3]
def T_Kn3 : Tm := ⟨[(11, iv 112), (7, iv 110), (3, .v (.one (.ptr 1 0))), (0, .v (.one (.tslc 0 1 z (.var 0) (.var 1)))), (5, .v (.one (.osub 2 (.var 110) (.lit (.ofNat 100))))), (6, .v (.one (.slc 3 0 (.lit (.ofNat 100)) (.lit (.ofNat 100)))))], [(0, ⟨false, .tab 0 (.tv 0) (.var 0) [.int .u64]⟩), (1, ⟨true, .cells [bf, u0, .nils, bf, u0, .nils, bf, u0, .nils, bf, u0, .nils, bf, u0, .nils, bf, u0, .nils, bf, u0, .nils, bf, u0, .nils, .int .i64 (.lit (.ofNat 4))] 77⟩), (2, ⟨true, .seq 2 (.tv 121) (.lit (.ofNat 100)) [.int .i64] 3⟩), (3, ⟨true, .arr (.tv 120) 100 (.int .i64) 3⟩)], 8, 0⟩
def F_Kn3 : List Fact := [r 110 0 100, r 0 0 9223372036854775807, r 1 0 9223372036854775807, .sem 0 sem0 [(.tv 120)] [(.var 110)], .sem 1 sem1 [(.tv 121)] [(.var 110)], .tr (.bin .lt (.var 110) (.var 0)) true, r 110 0 99, r 112 3 3]
def T_J3 : Tm := ⟨[(11, iv 112), (15, iv 111), (12, .v (.one (.osl 7))), (7, iv 110), (3, .v (.one (.ptr 1 0))), (0, .v (.one (.tslc 0 1 z (.var 0) (.var 1)))), (5, .v (.one (.osub 2 (.var 110) (.lit (.ofNat 100))))), (6, .v (.one (.slc 3 0 (.lit (.ofNat 100)) (.lit (.ofNat 100)))))], [(0, ⟨false, .tab 0 (.tv 0) (.var 0) [.int .u64]⟩), (1, ⟨true, .cells [bf, u0, .nils, bf, u0, .nils, bf, u0, .nils, bf, u0, .nils, bf, u0, .nils, bf, u0, .nils, bf, u0, .nils, bf, u0, .nils, .int .i64 (.lit (.ofNat 4))] 77⟩), (2, ⟨true, .seq 2 (.tv 121) (.lit (.ofNat 100)) [.int .i64] 3⟩), (3, ⟨true, .arr (.tv 120) 100 (.int .i64) 3⟩), (7, ⟨true, .seq 7 (.tv 133) (.var 143) [.int .i64] 3⟩)], 8, 0⟩
def F_J3 : List Fact := [r 110 0 100, r 0 0 9223372036854775807, r 1 0 9223372036854775807, .sem 0 sem0 [(.tv 120), (.tv 133)] [(.var 110), (.var 111), (.var 143)], .sem 1 sem1 [(.tv 121)] [(.var 110)], r 143 1 100, .tr (.bin .lt (.var 110) (.var 143)) false, .tr (.bin .lt (.var 110) (.var 0)) true, r 110 0 99, r 112 3 3, r 111 0 100, .tr (.bin .lt (.var 143) (.var 111)) false]
def T_K4 : Tm := ⟨[(11, iv 112), (7, iv 110), (3, .v (.one (.ptr 1 0))), (0, .v (.one (.tslc 0 1 z (.var 0) (.var 1)))), (5, .v (.one (.osub 2 (.var 110) (.lit (.ofNat 100))))), (6, .v (.one (.slc 3 0 (.lit (.ofNat 100)) (.lit (.ofNat 100)))))], [(0, ⟨false, .tab 0 (.tv 0) (.var 0) [.int .u64]⟩), (1, ⟨true, .cells [bf, u0, .nils, bf, u0, .nils, bf, u0, .nils, bf, u0, .nils, bf, u0, .nils, bf, u0, .nils, bf, u0, .nils, bf, u0, .nils, .int .i64 (.lit (.ofNat 4))] 77⟩), (2, ⟨true, .seq 2 (.tv 121) (.lit (.ofNat 100)) [.int .i64] 3⟩), (3, ⟨true, .arr (.tv 120) 100 (.int .i64) 3⟩)], 8, 0⟩
def F_K4 : List Fact := [r 110 0 100, r 0 0 9223372036854775807, r 1 0 9223372036854775807, .sem 0 sem0 [(.tv 120)] [(.var 110)], .sem 1 sem1 [(.tv 121)] [(.var 110)], .tr (.bin .lt (.var 110) (.var 0)) true, r 110 0 99, r 112 4 4]
def T_L : Tm := ⟨[(7, iv 110), (3, .v (.one (.ptr 1 0))), (0, .v (.one (.tslc 0 1 z (.var 0) (.var 1)))), (5, .v (.one (.osub 2 (.var 110) (.lit (.ofNat 100))))), (6, .v (.one (.slc 3 0 (.lit (.ofNat 100)) (.lit (.ofNat 100)))))], [(0, ⟨false, .tab 0 (.tv 0) (.var 0) [.int .u64]⟩), (1, ⟨true, .cells [bf, u0, .nils, bf, u0, .nils, bf, u0, .nils, bf, u0, .nils, bf, u0, .nils, bf, u0, .nils, bf, u0, .nils, bf, u0, .nils, .int .i64 (.lit (.ofNat 4))] 77⟩), (2, ⟨true, .seq 2 (.tv 121) (.lit (.ofNat 100)) [.int .i64] 3⟩), (3, ⟨true, .arr (.tv 120) 100 (.int .i64) 3⟩)], 8, 0⟩
def F_L : List Fact := [r 110 0 100, r 0 0 9223372036854775807, r 1 0 9223372036854775807, .sem 0 sem0 [(.tv 120)] [(.var 110)], .sem 1 sem1 [(.tv 121)] [(.var 110)], .tr (.bin .lt (.var 110) (.var 0)) true, r 110 0 99]
def T_M00 : Tm := ⟨[(16, iv 112), (3, .v (.one (.ptr 1 0))), (5, .v (.one (.osub 2 (.var 110) (.lit (.ofNat 100))))), (6, .v (.one (.slc 3 0 (.lit (.ofNat 100)) (.lit (.ofNat 100)))))], [(1, ⟨true, .cells [bf, u0, .nils, bf, u0, .nils, bf, u0, .nils, bf, u0, .nils, bf, u0, .nils, bf, u0, .nils, bf, u0, .nils, bf, u0, .nils, .int .i64 (.lit (.ofNat 4))] 77⟩), (2, ⟨true, .seq 2 (.tv 121) (.lit (.ofNat 100)) [.int .i64] 3⟩), (3, ⟨true, .arr (.tv 120) 100 (.int .i64) 3⟩)], 8, 0⟩
def F_M00 : List Fact := [r 110 0 100, .sem 0 sem0 [(.tv 120)] [(.var 110)], .sem 1 sem1 [(.tv 121)] [(.var 110)], r 112 0 0]
def T_N00 : Tm := ⟨[(16, iv 112), (3, .v (.one (.ptr 1 0))), (5, .v (.one (.osub 2 (.var 110) (.lit (.ofNat 100))))), (6, .v (.one (.slc 3 0 (.lit (.ofNat 100)) (.lit (.ofNat 100)))))], [(1, ⟨true, .cells [bf, u0, .nils, bf, u0, .nils, bf, u0, .nils, bf, u0, .nils, bf, u0, .nils, bf, u0, .nils, bf, u0, .nils, bf, u0, .nils, .int .i64 (.lit (.ofNat 4))] 77⟩), (2, ⟨true, .seq 2 (.tv 121) (.lit (.ofNat 100)) [.int .i64] 3⟩), (3, ⟨true, .arr (.tv 120) 100 (.int .i64) 3⟩)], 8, 0⟩
def F_N00 : List Fact := [r 110 0 100, .sem 0 sem0 [(.tv 120)] [(.var 110)], .sem 1 sem1 [(.tv 121)] [(.var 110)], r 112 0 0]
def T_M01 : Tm := ⟨[(16, iv 112), (3, .v (.one (.ptr 1 0))), (5, .v (.one (.osub 2 (.var 110) (.lit (.ofNat 100))))), (6, .v (.one (.slc 3 0 (.lit (.ofNat 100)) (.lit (.ofNat 100)))))], [(1, ⟨true, .cells [.bool (.lit (.ofNat 1)), .int .u64 (.var 150), .osl 4, bf, u0, .nils, bf, u0, .nils, bf, u0, .nils, bf, u0, .nils, bf, u0, .nils, bf, u0, .nils, bf, u0, .nils, .int .i64 (.lit (.ofNat 4))] 77⟩), (2, ⟨true, .seq 2 (.tv 121) (.lit (.ofNat 100)) [.int .i64] 3⟩), (3, ⟨true, .arr (.tv 120) 100 (.int .i64) 3⟩), (4, ⟨true, .seq 4 (.tv 130) (.var 140) [.int .i64] 3⟩)], 8, 0⟩
def F_M01 : List Fact := [r 110 0 100, .sem 0 sem0 [(.tv 120), (.tv 130)] [(.var 110), z, (.var 140)], .sem 1 sem1 [(.tv 121)] [(.var 110)], r 140 1 100, .tr (.bin .lt (.var 110) (.var 140)) false, r 150 0 18446744073709551615, r 112 0 0]
def T_N01 : Tm := ⟨[(16, iv 112), (3, .v (.one (.ptr 1 0))), (5, .v (.one (.osub 2 (.var 110) (.lit (.ofNat 100))))), (6, .v (.one (.slc 3 0 (.lit (.ofNat 100)) (.lit (.ofNat 100)))))], [(1, ⟨true, .cells [bf, u0, .nils, bf, u0, .nils, bf, u0, .nils, bf, u0, .nils, bf, u0, .nils, bf, u0, .nils, bf, u0, .nils, bf, u0, .nils, .int .i64 (.lit (.ofNat 4))] 77⟩), (2, ⟨true, .seq 2 (.tv 121) (.lit (.ofNat 100)) [.int .i64] 3⟩), (3, ⟨true, .arr (.tv 120) 100 (.int .i64) 3⟩)], 8, 0⟩
def F_N01 : List Fact := [r 110 0 100, .sem 0 sem0 [(.tv 120)] [(.var 110)], .sem 1 sem1 [(.tv 121)] [(.var 110)], r 112 0 0]
def T_I01 : Tm := ⟨[(16, iv 112), (20, iv 111), (17, .v (.one (.osl 4))), (3, .v (.one (.ptr 1 0))), (5, .v (.one (.osub 2 (.var 110) (.lit (.ofNat 100))))), (6, .v (.one (.slc 3 0 (.lit (.ofNat 100)) (.lit (.ofNat 100)))))], [(1, ⟨true, .cells [bf, u0, .nils, bf, u0, .nils, bf, u0, .nils, bf, u0, .nils, bf, u0, .nils, bf, u0, .nils, bf, u0, .nils, bf, u0, .nils, .int .i64 (.lit (.ofNat 4))] 77⟩), (2, ⟨true, .seq 2 (.tv 121) (.lit (.ofNat 100)) [.int .i64] 3⟩), (3, ⟨true, .arr (.tv 120) 100 (.int .i64) 3⟩), (4, ⟨true, .seq 4 (.tv 130) (.var 140) [.int .i64] 3⟩)], 8, 0⟩
def F_I01 : List Fact := [r 110 0 100, .sem 0 sem0 [(.tv 120), (.tv 130)] [(.var 110), (.var 111), (.var 140)], .sem 1 sem1 [(.tv 121)] [(.var 110)], r 140 1 100, .tr (.bin .lt (.var 110) (.var 140)) false, r 112 0 0, r 111 0 100, .tr (.bin .lt (.var 140) (.var 111)) false]
def T_M02 : Tm := ⟨[(16, iv 112), (3, .v (.one (.ptr 1 0))), (5, .v (.one (.osub 2 (.var 110) (.lit (.ofNat 100))))), (6, .v (.one (.slc 3 0 (.lit (.ofNat 100)) (.lit (.ofNat 100)))))], [(1, ⟨true, .cells [.bool (.lit (.ofNat 1)), .int .u64 (.var 150), .osl 4, .bool (.lit (.ofNat 1)), .int .u64 (.var 151), .osl 5, bf, u0, .nils, bf, u0, .nils, bf, u0, .nils, bf, u0, .nils, bf, u0, .nils, bf, u0, .nils, .int .i64 (.lit (.ofNat 4))] 77⟩), (2, ⟨true, .seq 2 (.tv 121) (.lit (.ofNat 100)) [.int .i64] 3⟩), (3, ⟨true, .arr (.tv 120) 100 (.int .i64) 3⟩), (4, ⟨true, .seq 4 (.tv 130) (.var 140) [.int .i64] 3⟩), (5, ⟨true, .seq 5 (.tv 131) (.var 141) [.int .i64] 3⟩)], 8, 0⟩
def F_M02 : List Fact := [r 110 0 100, .sem 0 sem0 [(.tv 120), (.tv 130), (.tv 131)] [(.var 110), z, (.var 140), z, (.var 141)], .sem 1 sem1 [(.tv 121)] [(.var 110)], r 140 1 100, .tr (.bin .lt (.var 110) (.var 140)) false, r 150 0 18446744073709551615, r 141 1 100, .tr (.bin .lt (.var 110) (.var 141)) false, r 151 0 18446744073709551615, r 112 0 0]
def T_N02 : Tm := ⟨[(16, iv 112), (3, .v (.one (.ptr 1 0))), (5, .v (.one (.osub 2 (.var 110) (.lit (.ofNat 100))))), (6, .v (.one (.slc 3 0 (.lit (.ofNat 100)) (.lit (.ofNat 100)))))], [(1, ⟨true, .cells [bf, u0, .nils, .bool (.lit (.ofNat 1)), .int .u64 (.var 151), .osl 5, bf, u0, .nils, bf, u0, .nils, bf, u0, .nils, bf, u0, .nils, bf, u0, .nils, bf, u0, .nils, .int .i64 (.lit (.ofNat 4))] 77⟩), (2, ⟨true, .seq 2 (.tv 121) (.lit (.ofNat 100)) [.int .i64] 3⟩), (3, ⟨true, .arr (.tv 120) 100 (.int .i64) 3⟩), (5, ⟨true, .seq 5 (.tv 131) (.var 141) [.int .i64] 3⟩)], 8, 0⟩
def F_N02 : List Fact := [r 110 0 100, .sem 0 sem0 [(.tv 120), (.tv 131)] [(.var 110), z, (.var 141)], .sem 1 sem1 [(.tv 121)] [(.var 110)], r 141 1 100, .tr (.bin .lt (.var 110) (.var 141)) false, r 151 0 18446744073709551615, r 112 0 0]
def T_I02 : Tm := ⟨[(16, iv 112), (20, iv 111), (17, .v (.one (.osl 4))), (3, .v (.one (.ptr 1 0))), (5, .v (.one (.osub 2 (.var 110) (.lit (.ofNat 100))))), (6, .v (.one (.slc 3 0 (.lit (.ofNat 100)) (.lit (.ofNat 100)))))], [(1, ⟨true, .cells [bf, u0, .nils, .bool (.lit (.ofNat 1)), .int .u64 (.var 151), .osl 5, bf, u0, .nils, bf, u0, .nils, bf, u0, .nils, bf, u0, .nils, bf, u0, .nils, bf, u0, .nils, .int .i64 (.lit (.ofNat 4))] 77⟩), (2, ⟨true, .seq 2 (.tv 121) (.lit (.ofNat 100)) [.int .i64] 3⟩), (3, ⟨true, .arr (.tv 120) 100 (.int .i64) 3⟩), (4, ⟨true, .seq 4 (.tv 130) (.var 140) [.int .i64] 3⟩), (5, ⟨true, .seq 5 (.tv 131) (.var 141) [.int .i64] 3⟩)], 8, 0⟩
def F_I02 : List Fact := [r 110 0 100, .sem 0 sem0 [(.tv 120), (.tv 130), (.tv 131)] [(.var 110), (.var 111), (.var 140), z, (.var 141)], .sem 1 sem1 [(.tv 121)] [(.var 110)], r 140 1 100, .tr (.bin .lt (.var 110) (.var 140)) false, r 141 1 100, .tr (.bin .lt (.var 110) (.var 141)) false, r 151 0 18446744073709551615, r 112 0 0, r 111 0 100, .tr (.bin .lt (.var 140) (.var 111)) false]
def T_M03 : Tm := ⟨[(16, iv 112), (3, .v (.one (.ptr 1 0))), (5, .v (.one (.osub 2 (.var 110) (.lit (.ofNat 100))))), (6, .v (.one (.slc 3 0 (.lit (.ofNat 100)) (.lit (.ofNat 100)))))], [(1, ⟨true, .cells [.bool (.lit (.ofNat 1)), .int .u64 (.var 150), .osl 4, .bool (.lit (.ofNat 1)), .int .u64 (.var 151), .osl 5, .bool (.lit (.ofNat 1)), .int .u64 (.var 152), .osl 6, bf, u0, .nils, bf, u0, .nils, bf, u0, .nils, bf, u0, .nils, bf, u0, .nils, .int .i64 (.lit (.ofNat 4))] 77⟩), (2, ⟨true, .seq 2 (.tv 121) (.lit (.ofNat 100)) [.int .i64] 3⟩), (3, ⟨true, .arr (.tv 120) 100 (.int .i64) 3⟩), (4, ⟨true, .seq 4 (.tv 130) (.var 140) [.int .i64] 3⟩), (5, ⟨true, .seq 5 (.tv 131) (.var 141) [.int .i64] 3⟩), (6, ⟨true, .seq 6 (.tv 132) (.var 142) [.int .i64] 3⟩)], 8, 0⟩
def F_M03 : List Fact := [r 110 0 100, .sem 0 sem0 [(.tv 120), (.tv 130), (.tv 131), (.tv 132)] [(.var 110), z, (.var 140), z, (.var 141), z, (.var 142)], .sem 1 sem1 [(.tv 121)] [(.var 110)], r 140 1 100, .tr (.bin .lt (.var 110) (.var 140)) false, r 150 0 18446744073709551615, r 141 1 100, .tr (.bin .lt (.var 110) (.var 141)) false, r 151 0 18446744073709551615, r 142 1 100, .tr (.bin .lt (.var 110) (.var 142)) false, r 152 0 18446744073709551615, r 112 0 0]
def T_N03 : Tm := ⟨[(16, iv 112), (3, .v (.one (.ptr 1 0))), (5, .v (.one (.osub 2 (.var 110) (.lit (.ofNat 100))))), (6, .v (.one (.slc 3 0 (.lit (.ofNat 100)) (.lit (.ofNat 100)))))], [(1, ⟨true, .cells [bf, u0, .nils, .bool (.lit (.ofNat 1)), .int .u64 (.var 151), .osl 5, .bool (.lit (.ofNat 1)), .int .u64 (.var 152), .osl 6, bf, u0, .nils, bf, u0, .nils, bf, u0, .nils, bf, u0, .nils, bf, u0, .nils, .int .i64 (.lit (.ofNat 4))] 77⟩), (2, ⟨true, .seq 2 (.tv 121) (.lit (.ofNat 100)) [.int .i64] 3⟩), (3, ⟨true, .arr (.tv 120) 100 (.int .i64) 3⟩), (5, ⟨true, .seq 5 (.tv 131) (.var 141) [.int .i64] 3⟩), (6, ⟨true, .seq 6 (.tv 132) (.var 142) [.int .i64] 3⟩)], 8, 0⟩
def F_N03 : List Fact := [r 110 0 100, .sem 0 sem0 [(.tv 120), (.tv 131), (.tv 132)] [(.var 110), z, (.var 141), z, (.var 142)], .sem 1 sem1 [(.tv 121)] [(.var 110)], r 141 1 100, .tr (.bin .lt (.var 110) (.var 141)) false, r 151 0 18446744073709551615, r 142 1 100, .tr (.bin .lt (.var 110) (.var 142)) false, r 152 0 18446744073709551615, r 112 0 0]
def T_I03 : Tm := ⟨[(16, iv 112), (20, iv 111), (17, .v (.one (.osl 4))), (3, .v (.one (.ptr 1 0))), (5, .v (.one (.osub 2 (.var 110) (.lit (.ofNat 100))))), (6, .v (.one (.slc 3 0 (.lit (.ofNat 100)) (.lit (.ofNat 100)))))], [(1, ⟨true, .cells [bf, u0, .nils, .bool (.lit (.ofNat 1)), .int .u64 (.var 151), .osl 5, .bool (.lit (.ofNat 1)), .int .u64 (.var 152), .osl 6, bf, u0, .nils, bf, u0, .nils, bf, u0, .nils, bf, u0, .nils, bf, u0, .nils, .int .i64 (.lit (.ofNat 4))] 77⟩), (2, ⟨true, .seq 2 (.tv 121) (.lit (.ofNat 100)) [.int .i64] 3⟩), (3, ⟨true, .arr (.tv 120) 100 (.int .i64) 3⟩), (4, ⟨true, .seq 4 (.tv 130) (.var 140) [.int .i64] 3⟩), (5, ⟨true, .seq 5 (.tv 131) (.var 141) [.int .i64] 3⟩), (6, ⟨true, .seq 6 (.tv 132) (.var 142) [.int .i64] 3⟩)], 8, 0⟩
def F_I03 : List Fact := [r 110 0 100, .sem 0 sem0 [(.tv 120), (.tv 130), (.tv 131), (.tv 132)] [(.var 110), (.var 111), (.var 140), z, (.var 141), z, (.var 142)], .sem 1 sem1 [(.tv 121)] [(.var 110)], r 140 1 100, .tr (.bin .lt (.var 110) (.var 140)) false, r 141 1 100, .tr (.bin .lt (.var 110) (.var 141)) false, r 151 0 18446744073709551615, r 142 1 100, .tr (.bin .lt (.var 110) (.var 142)) false, r 152 0 18446744073709551615, r 112 0 0, r 111 0 100, .tr (.bin .lt (.var 140) (.var 111)) false]
def T_M04 : Tm := ⟨[(16, iv 112), (3, .v (.one (.ptr 1 0))), (5, .v (.one (.osub 2 (.var 110) (.lit (.ofNat 100))))), (6, .v (.one (.slc 3 0 (.lit (.ofNat 100)) (.lit (.ofNat 100)))))], [(1, ⟨true, .cells [.bool (.lit (.ofNat 1)), .int .u64 (.var 150), .osl 4, .bool (.lit (.ofNat 1)), .int .u64 (.var 151), .osl 5, .bool (.lit (.ofNat 1)), .int .u64 (.var 152), .osl 6, .bool (.lit (.ofNat 1)), .int .u64 (.var 153), .osl 7, bf, u0, .nils, bf, u0, .nils, bf, u0, .nils, bf, u0, .nils, .int .i64 (.lit (.ofNat 4))] 77⟩), (2, ⟨true, .seq 2 (.tv 121) (.lit (.ofNat 100)) [.int .i64] 3⟩), (3, ⟨true, .arr (.tv 120) 100 (.int .i64) 3⟩), (4, ⟨true, .seq 4 (.tv 130) (.var 140) [.int .i64] 3⟩), (5, ⟨true, .seq 5 (.tv 131) (.var 141) [.int .i64] 3⟩), (6, ⟨true, .seq 6 (.tv 132) (.var 142) [.int .i64] 3⟩), (7, ⟨true, .seq 7 (.tv 133) (.var 143) [.int .i64] 3⟩)], 8, 0⟩
def F_M04 : List Fact := [r 110 0 100, .sem 0 sem0 [(.tv 120), (.tv 130), (.tv 131), (.tv 132), (.tv 133)] [(.var 110), z, (.var 140), z, (.var 141), z, (.var 142), z, (.var 143)], .sem 1 sem1 [(.tv 121)] [(.var 110)], r 140 1 100, .tr (.bin .lt (.var 110) (.var 140)) false, r 150 0 18446744073709551615, r 141 1 100, .tr (.bin .lt (.var 110) (.var 141)) false, r 151 0 18446744073709551615, r 142 1 100, .tr (.bin .lt (.var 110) (.var 142)) false, r 152 0 18446744073709551615, r 143 1 100, .tr (.bin .lt (.var 110) (.var 143)) false, r 153 0 18446744073709551615, r 112 0 0]
def T_N04 : Tm := ⟨[(16, iv 112), (3, .v (.one (.ptr 1 0))), (5, .v (.one (.osub 2 (.var 110) (.lit (.ofNat 100))))), (6, .v (.one (.slc 3 0 (.lit (.ofNat 100)) (.lit (.ofNat 100)))))], [(1, ⟨true, .cells [bf, u0, .nils, .bool (.lit (.ofNat 1)), .int .u64 (.var 151), .osl 5, .bool (.lit (.ofNat 1)), .int .u64 (.var 152), .osl 6, .bool (.lit (.ofNat 1)), .int .u64 (.var 153), .osl 7, bf, u0, .nils, bf, u0, .nils, bf, u0, .nils, bf, u0, .nils, .int .i64 (.lit (.ofNat 4))] 77⟩), (2, ⟨true, .seq 2 (.tv 121) (.lit (.ofNat 100)) [.int .i64] 3⟩), (3, ⟨true, .arr (.tv 120) 100 (.int .i64) 3⟩), (5, ⟨true, .seq 5 (.tv 131) (.var 141) [.int .i64] 3⟩), (6, ⟨true, .seq 6 (.tv 132) (.var 142) [.int .i64] 3⟩), (7, ⟨true, .seq 7 (.tv 133) (.var 143) [.int .i64] 3⟩)], 8, 0⟩
def F_N04 : List Fact := [r 110 0 100, .sem 0 sem0 [(.tv 120), (.tv 131), (.tv 132), (.tv 133)] [(.var 110), z, (.var 141), z, (.var 142), z, (.var 143)], .sem 1 sem1 [(.tv 121)] [(.var 110)], r 141 1 100, .tr (.bin .lt (.var 110) (.var 141)) false, r 151 0 18446744073709551615, r 142 1 100, .tr (.bin .lt (.var 110) (.var 142)) false, r 152 0 18446744073709551615, r 143 1 100, .tr (.bin .lt (.var 110) (.var 143)) false, r 153 0 18446744073709551615, r 112 0 0]
def T_I04 : Tm := ⟨[(16, iv 112), (20, iv 111), (17, .v (.one (.osl 4))), (3, .v (.one (.ptr 1 0))), (5, .v (.one (.osub 2 (.var 110) (.lit (.ofNat 100))))), (6, .v (.one (.slc 3 0 (.lit (.ofNat 100)) (.lit (.ofNat 100)))))], [(1, ⟨true, .cells [bf, u0, .nils, .bool (.lit (.ofNat 1)), .int .u64 (.var 151), .osl 5, .bool (.lit (.ofNat 1)), .int .u64 (.var 152), .osl 6, .bool (.lit (.ofNat 1)), .int .u64 (.var 153), .osl 7, bf, u0, .nils, bf, u0, .nils, bf, u0, .nils, bf, u0, .nils, .int .i64 (.lit (.ofNat 4))] 77⟩), (2, ⟨true, .seq 2 (.tv 121) (.lit (.ofNat 100)) [.int .i64] 3⟩), (3, ⟨true, .arr (.tv 120) 100 (.int .i64) 3⟩), (4, ⟨true, .seq 4 (.tv 130) (.var 140) [.int .i64] 3⟩), (5, ⟨true, .seq 5 (.tv 131) (.var 141) [.int .i64] 3⟩), (6, ⟨true, .seq 6 (.tv 132) (.var 142) [.int .i64] 3⟩), (7, ⟨true, .seq 7 (.tv 133) (.var 143) [.int .i64] 3⟩)], 8, 0⟩
def F_I04 : List Fact := [r 110 0 100, .sem 0 sem0 [(.tv 120), (.tv 130), (.tv 131), (.tv 132), (.tv 133)] [(.var 110), (.var 111), (.var 140), z, (.var 141), z, (.var 142), z, (.var 143)], .sem 1 sem1 [(.tv 121)] [(.var 110)], r 140 1 100, .tr (.bin .lt (.var 110) (.var 140)) false, r 141 1 100, .tr (.bin .lt (.var 110) (.var 141)) false, r 151 0 18446744073709551615, r 142 1 100, .tr (.bin .lt (.var 110) (.var 142)) false, r 152 0 18446744073709551615, r 143 1 100, .tr (.bin .lt (.var 110) (.var 143)) false, r 153 0 18446744073709551615, r 112 0 0, r 111 0 100, .tr (.bin .lt (.var 140) (.var 111)) false]
def T_M10 : Tm := ⟨[(16, iv 112), (3, .v (.one (.ptr 1 0))), (5, .v (.one (.osub 2 (.var 110) (.lit (.ofNat 100))))), (6, .v (.one (.slc 3 0 (.lit (.ofNat 100)) (.lit (.ofNat 100)))))], [(1, ⟨true, .cells [bf, u0, .nils, bf, u0, .nils, bf, u0, .nils, bf, u0, .nils, bf, u0, .nils, bf, u0, .nils, bf, u0, .nils, bf, u0, .nils, .int .i64 (.lit (.ofNat 4))] 77⟩), (2, ⟨true, .seq 2 (.tv 121) (.lit (.ofNat 100)) [.int .i64] 3⟩), (3, ⟨true, .arr (.tv 120) 100 (.int .i64) 3⟩)], 8, 0⟩
def F_M10 : List Fact := [r 110 0 100, .sem 0 sem0 [(.tv 120)] [(.var 110)], .sem 1 sem1 [(.tv 121)] [(.var 110)], r 112 1 1]
def T_N10 : Tm := ⟨[(16, iv 112), (3, .v (.one (.ptr 1 0))), (5, .v (.one (.osub 2 (.var 110) (.lit (.ofNat 100))))), (6, .v (.one (.slc 3 0 (.lit (.ofNat 100)) (.lit (.ofNat 100)))))], [(1, ⟨true, .cells [bf, u0, .nils, bf, u0, .nils, bf, u0, .nils, bf, u0, .nils, bf, u0, .nils, bf, u0, .nils, bf, u0, .nils, bf, u0, .nils, .int .i64 (.lit (.ofNat 4))] 77⟩), (2, ⟨true, .seq 2 (.tv 121) (.lit (.ofNat 100)) [.int .i64] 3⟩), (3, ⟨true, .arr (.tv 120) 100 (.int .i64) 3⟩)], 8, 0⟩
def F_N10 : List Fact := [r 110 0 100, .sem 0 sem0 [(.tv 120)] [(.var 110)], .sem 1 sem1 [(.tv 121)] [(.var 110)], r 112 1 1]
def T_M11 : Tm := ⟨[(16, iv 112), (3, .v (.one (.ptr 1 0))), (5, .v (.one (.osub 2 (.var 110) (.lit (.ofNat 100))))), (6, .v (.one (.slc 3 0 (.lit (.ofNat 100)) (.lit (.ofNat 100)))))], [(1, ⟨true, .cells [bf, u0, .nils, .bool (.lit (.ofNat 1)), .int .u64 (.var 151), .osl 5, bf, u0, .nils, bf, u0, .nils, bf, u0, .nils, bf, u0, .nils, bf, u0, .nils, bf, u0, .nils, .int .i64 (.lit (.ofNat 4))] 77⟩), (2, ⟨true, .seq 2 (.tv 121) (.lit (.ofNat 100)) [.int .i64] 3⟩), (3, ⟨true, .arr (.tv 120) 100 (.int .i64) 3⟩), (5, ⟨true, .seq 5 (.tv 131) (.var 141) [.int .i64] 3⟩)], 8, 0⟩
def F_M11 : List Fact := [r 110 0 100, .sem 0 sem0 [(.tv 120), (.tv 131)] [(.var 110), z, (.var 141)], .sem 1 sem1 [(.tv 121)] [(.var 110)], r 141 1 100, .tr (.bin .lt (.var 110) (.var 141)) false, r 151 0 18446744073709551615, r 112 1 1]
def T_N11 : Tm := ⟨[(16, iv 112), (3, .v (.one (.ptr 1 0))), (5, .v (.one (.osub 2 (.var 110) (.lit (.ofNat 100))))), (6, .v (.one (.slc 3 0 (.lit (.ofNat 100)) (.lit (.ofNat 100)))))], [(1, ⟨true, .cells [bf, u0, .nils, bf, u0, .nils, bf, u0, .nils, bf, u0, .nils, bf, u0, .nils, bf, u0, .nils, bf, u0, .nils, bf, u0, .nils, .int .i64 (.lit (.ofNat 4))] 77⟩), (2, ⟨true, .seq 2 (.tv 121) (.lit (.ofNat 100)) [.int .i64] 3⟩), (3, ⟨true, .arr (.tv 120) 100 (.int .i64) 3⟩)], 8, 0⟩
def F_N11 : List Fact := [r 110 0 100, .sem 0 sem0 [(.tv 120)] [(.var 110)], .sem 1 sem1 [(.tv 121)] [(.var 110)], r 112 1 1]
def T_I11 : Tm := ⟨[(16, iv 112), (20, iv 111), (17, .v (.one (.osl 5))), (3, .v (.one (.ptr 1 0))), (5, .v (.one (.osub 2 (.var 110) (.lit (.ofNat 100))))), (6, .v (.one (.slc 3 0 (.lit (.ofNat 100)) (.lit (.ofNat 100)))))], [(1, ⟨true, .cells [bf, u0, .nils, bf, u0, .nils, bf, u0, .nils, bf, u0, .nils, bf, u0, .nils, bf, u0, .nils, bf, u0, .nils, bf, u0, .nils, .int .i64 (.lit (.ofNat 4))] 77⟩), (2, ⟨true, .seq 2 (.tv 121) (.lit (.ofNat 100)) [.int .i64] 3⟩), (3, ⟨true, .arr (.tv 120) 100 (.int .i64) 3⟩), (5, ⟨true, .seq 5 (.tv 131) (.var 141) [.int .i64] 3⟩)], 8, 0⟩
def F_I11 : List Fact := [r 110 0 100, .sem 0 sem0 [(.tv 120), (.tv 131)] [(.var 110), (.var 111), (.var 141)], .sem 1 sem1 [(.tv 121)] [(.var 110)], r 141 1 100, .tr (.bin .lt (.var 110) (.var 141)) false, r 112 1 1, r 111 0 100, .tr (.bin .lt (.var 141) (.var 111)) false]
def T_M12 : Tm := ⟨[(16, iv 112), (3, .v (.one (.ptr 1 0))), (5, .v (.one (.osub 2 (.var 110) (.lit (.ofNat 100))))), (6, .v (.one (.slc 3 0 (.lit (.ofNat 100)) (.lit (.ofNat 100)))))], [(1, ⟨true, .cells [bf, u0, .nils, .bool (.lit (.ofNat 1)), .int .u64 (.var 151), .osl 5, .bool (.lit (.ofNat 1)), .int .u64 (.var 152), .osl 6, bf, u0, .nils, bf, u0, .nils, bf, u0, .nils, bf, u0, .nils, bf, u0, .nils, .int .i64 (.lit (.ofNat 4))] 77⟩), (2, ⟨true, .seq 2 (.tv 121) (.lit (.ofNat 100)) [.int .i64] 3⟩), (3, ⟨true, .arr (.tv 120) 100 (.int .i64) 3⟩), (5, ⟨true, .seq 5 (.tv 131) (.var 141) [.int .i64] 3⟩), (6, ⟨true, .seq 6 (.tv 132) (.var 142) [.int .i64] 3⟩)], 8, 0⟩
def F_M12 : List Fact := [r 110 0 100, .sem 0 sem0 [(.tv 120), (.tv 131), (.tv 132)] [(.var 110), z, (.var 141), z, (.var 142)], .sem 1 sem1 [(.tv 121)] [(.var 110)], r 141 1 100, .tr (.bin .lt (.var 110) (.var 141)) false, r 151 0 18446744073709551615, r 142 1 100, .tr (.bin .lt (.var 110) (.var 142)) false, r 152 0 18446744073709551615, r 112 1 1]
def T_N12 : Tm := ⟨[(16, iv 112), (3, .v (.one (.ptr 1 0))), (5, .v (.one (.osub 2 (.var 110) (.lit (.ofNat 100))))), (6, .v (.one (.slc 3 0 (.lit (.ofNat 100)) (.lit (.ofNat 100)))))], [(1, ⟨true, .cells [bf, u0, .nils, bf, u0, .nils, .bool (.lit (.ofNat 1)), .int .u64 (.var 152), .osl 6, bf, u0, .nils, bf, u0, .nils, bf, u0, .nils, bf, u0, .nils, bf, u0, .nils, .int .i64 (.lit (.ofNat 4))] 77⟩), (2, ⟨true, .seq 2 (.tv 121) (.lit (.ofNat 100)) [.int .i64] 3⟩), (3, ⟨true, .arr (.tv 120) 100 (.int .i64) 3⟩), (6, ⟨true, .seq 6 (.tv 132) (.var 142) [.int .i64] 3⟩)], 8, 0⟩
def F_N12 : List Fact := [r 110 0 100, .sem 0 sem0 [(.tv 120), (.tv 132)] [(.var 110), z, (.var 142)], .sem 1 sem1 [(.tv 121)] [(.var 110)], r 142 1 100, .tr (.bin .lt (.var 110) (.var 142)) false, r 152 0 18446744073709551615, r 112 1 1]
def T_I12 : Tm := ⟨[(16, iv 112), (20, iv 111), (17, .v (.one (.osl 5))), (3, .v (.one (.ptr 1 0))), (5, .v (.one (.osub 2 (.var 110) (.lit (.ofNat 100))))), (6, .v (.one (.slc 3 0 (.lit (.ofNat 100)) (.lit (.ofNat 100)))))], [(1, ⟨true, .cells [bf, u0, .nils, bf, u0, .nils, .bool (.lit (.ofNat 1)), .int .u64 (.var 152), .osl 6, bf, u0, .nils, bf, u0, .nils, bf, u0, .nils, bf, u0, .nils, bf, u0, .nils, .int .i64 (.lit (.ofNat 4))] 77⟩), (2, ⟨true, .seq 2 (.tv 121) (.lit (.ofNat 100)) [.int .i64] 3⟩), (3, ⟨true, .arr (.tv 120) 100 (.int .i64) 3⟩), (5, ⟨true, .seq 5 (.tv 131) (.var 141) [.int .i64] 3⟩), (6, ⟨true, .seq 6 (.tv 132) (.var 142) [.int .i64] 3⟩)], 8, 0⟩
def F_I12 : List Fact := [r 110 0 100, .sem 0 sem0 [(.tv 120), (.tv 131), (.tv 132)] [(.var 110), (.var 111), (.var 141), z, (.var 142)], .sem 1 sem1 [(.tv 121)] [(.var 110)], r 141 1 100, .tr (.bin .lt (.var 110) (.var 141)) false, r 142 1 100, .tr (.bin .lt (.var 110) (.var 142)) false, r 152 0 18446744073709551615, r 112 1 1, r 111 0 100, .tr (.bin .lt (.var 141) (.var 111)) false]
def T_M13 : Tm := ⟨[(16, iv 112), (3, .v (.one (.ptr 1 0))), (5, .v (.one (.osub 2 (.var 110) (.lit (.ofNat 100))))), (6, .v (.one (.slc 3 0 (.lit (.ofNat 100)) (.lit (.ofNat 100)))))], [(1, ⟨true, .cells [bf, u0, .nils, .bool (.lit (.ofNat 1)), .int .u64 (.var 151), .osl 5, .bool (.lit (.ofNat 1)), .int .u64 (.var 152), .osl 6, .bool (.lit (.ofNat 1)), .int .u64 (.var 153), .osl 7, bf, u0, .nils, bf, u0, .nils, bf, u0, .nils, bf, u0, .nils, .int .i64 (.lit (.ofNat 4))] 77⟩), (2, ⟨true, .seq 2 (.tv 121) (.lit (.ofNat 100)) [.int .i64] 3⟩), (3, ⟨true, .arr (.tv 120) 100 (.int .i64) 3⟩), (5, ⟨true, .seq 5 (.tv 131) (.var 141) [.int .i64] 3⟩), (6, ⟨true, .seq 6 (.tv 132) (.var 142) [.int .i64] 3⟩), (7, ⟨true, .seq 7 (.tv 133) (.var 143) [.int .i64] 3⟩)], 8, 0⟩
def F_M13 : List Fact := [r 110 0 100, .sem 0 sem0 [(.tv 120), (.tv 131), (.tv 132), (.tv 133)] [(.var 110), z, (.var 141), z, (.var 142), z, (.var 143)], .sem 1 sem1 [(.tv 121)] [(.var 110)], r 141 1 100, .tr (.bin .lt (.var 110) (.var 141)) false, r 151 0 18446744073709551615, r 142 1 100, .tr (.bin .lt (.var 110) (.var 142)) false, r 152 0 18446744073709551615, r 143 1 100, .tr (.bin .lt (.var 110) (.var 143)) false, r 153 0 18446744073709551615, r 112 1 1]
def T_N13 : Tm := ⟨[(16, iv 112), (3, .v (.one (.ptr 1 0))), (5, .v (.one (.osub 2 (.var 110) (.lit (.ofNat 100))))), (6, .v (.one (.slc 3 0 (.lit (.ofNat 100)) (.lit (.ofNat 100)))))], [(1, ⟨true, .cells [bf, u0, .nils, bf, u0, .nils, .bool (.lit (.ofNat 1)), .int .u64 (.var 152), .osl 6, .bool (.lit (.ofNat 1)), .int .u64 (.var 153), .osl 7, bf, u0, .nils, bf, u0, .nils, bf, u0, .nils, bf, u0, .nils, .int .i64 (.lit (.ofNat 4))] 77⟩), (2, ⟨true, .seq 2 (.tv 121) (.lit (.ofNat 100)) [.int .i64] 3⟩), (3, ⟨true, .arr (.tv 120) 100 (.int .i64) 3⟩), (6, ⟨true, .seq 6 (.tv 132) (.var 142) [.int .i64] 3⟩), (7, ⟨true, .seq 7 (.tv 133) (.var 143) [.int .i64] 3⟩)], 8, 0⟩
def F_N13 : List Fact := [r 110 0 100, .sem 0 sem0 [(.tv 120), (.tv 132), (.tv 133)] [(.var 110), z, (.var 142), z, (.var 143)], .sem 1 sem1 [(.tv 121)] [(.var 110)], r 142 1 100, .tr (.bin .lt (.var 110) (.var 142)) false, r 152 0 18446744073709551615, r 143 1 100, .tr (.bin .lt (.var 110) (.var 143)) false, r 153 0 18446744073709551615, r 112 1 1]
def T_I13 : Tm := ⟨[(16, iv 112), (20, iv 111), (17, .v (.one (.osl 5))), (3, .v (.one (.ptr 1 0))), (5, .v (.one (.osub 2 (.var 110) (.lit (.ofNat 100))))), (6, .v (.one (.slc 3 0 (.lit (.ofNat 100)) (.lit (.ofNat 100)))))], [(1, ⟨true, .cells [bf, u0, .nils, bf, u0, .nils, .bool (.lit (.ofNat 1)), .int .u64 (.var 152), .osl 6, .bool (.lit (.ofNat 1)), .int .u64 (.var 153), .osl 7, bf, u0, .nils, bf, u0, .nils, bf, u0, .nils, bf, u0, .nils, .int .i64 (.lit (.ofNat 4))] 77⟩), (2, ⟨true, .seq 2 (.tv 121) (.lit (.ofNat 100)) [.int .i64] 3⟩), (3, ⟨true, .arr (.tv 120) 100 (.int .i64) 3⟩), (5, ⟨true, .seq 5 (.tv 131) (.var 141) [.int .i64] 3⟩), (6, ⟨true, .seq 6 (.tv 132) (.var 142) [.int .i64] 3⟩), (7, ⟨true, .seq 7 (.tv 133) (.var 143) [.int .i64] 3⟩)], 8, 0⟩
def F_I13 : List Fact := [r 110 0 100, .sem 0 sem0 [(.tv 120), (.tv 131), (.tv 132), (.tv 133)] [(.var 110), (.var 111), (.var 141), z, (.var 142), z, (.var 143)], .sem 1 sem1 [(.tv 121)] [(.var 110)], r 141 1 100, .tr (.bin .lt (.var 110) (.var 141)) false, r 142 1 100, .tr (.bin .lt (.var 110) (.var 142)) false, r 152 0 18446744073709551615, r 143 1 100, .tr (.bin .lt (.var 110) (.var 143)) false, r 153 0 18446744073709551615, r 112 1 1, r 111 0 100, .tr (.bin .lt (.var 141) (.var 111)) false]
def T_M20 : Tm := ⟨[(16, iv 112), (3, .v (.one (.ptr 1 0))), (5, .v (.one (.osub 2 (.var 110) (.lit (.ofNat 100))))), (6, .v (.one (.slc 3 0 (.lit (.ofNat 100)) (.lit (.ofNat 100)))))], [(1, ⟨true, .cells [bf, u0, .nils, bf, u0, .nils, bf, u0, .nils, bf, u0, .nils, bf, u0, .nils, bf, u0, .nils, bf, u0, .nils, bf, u0, .nils, .int .i64 (.lit (.ofNat 4))] 77⟩), (2, ⟨true, .seq 2 (.tv 121) (.lit (.ofNat 100)) [.int .i64] 3⟩), (3, ⟨true, .arr (.tv 120) 100 (.int .i64) 3⟩)], 8, 0⟩
def F_M20 : List Fact := [r 110 0 100, .sem 0 sem0 [(.tv 120)] [(.var 110)], .sem 1 sem1 [(.tv 121)] [(.var 110)], r 112 2 2]
def T_N20 : Tm := ⟨[(16, iv 112), (3, .v (.one (.ptr 1 0))), (5, .v (.one (.osub 2 (.var 110) (.lit (.ofNat 100))))), (6, .v (.one (.slc 3 0 (.lit (.ofNat 100)) (.lit (.ofNat 100)))))], [(1, ⟨true, .cells [bf, u0, .nils, bf, u0, .nils, bf, u0, .nils, bf, u0, .nils, bf, u0, .nils, bf, u0, .nils, bf, u0, .nils, bf, u0, .nils, .int .i64 (.lit (.ofNat 4))] 77⟩), (2, ⟨true, .seq 2 (.tv 121) (.lit (.ofNat 100)) [.int .i64] 3⟩), (3, ⟨true, .arr (.tv 120) 100 (.int .i64) 3⟩)], 8, 0⟩
def F_N20 : List Fact := [r 110 0 100, .sem 0 sem0 [(.tv 120)] [(.var 110)], .sem 1 sem1 [(.tv 121)] [(.var 110)], r 112 2 2]
def T_M21 : Tm := ⟨[(16, iv 112), (3, .v (.one (.ptr 1 0))), (5, .v (.one (.osub 2 (.var 110) (.lit (.ofNat 100))))), (6, .v (.one (.slc 3 0 (.lit (.ofNat 100)) (.lit (.ofNat 100)))))], [(1, ⟨true, .cells [bf, u0, .nils, bf, u0, .nils, .bool (.lit (.ofNat 1)), .int .u64 (.var 152), .osl 6, bf, u0, .nils, bf, u0, .nils, bf, u0, .nils, bf, u0, .nils, bf, u0, .nils, .int .i64 (.lit (.ofNat 4))] 77⟩), (2, ⟨true, .seq 2 (.tv 121) (.lit (.ofNat 100)) [.int .i64] 3⟩), (3, ⟨true, .arr (.tv 120) 100 (.int .i64) 3⟩), (6, ⟨true, .seq 6 (.tv 132) (.var 142) [.int .i64] 3⟩)], 8, 0⟩
def F_M21 : List Fact := [r 110 0 100, .sem 0 sem0 [(.tv 120), (.tv 132)] [(.var 110), z, (.var 142)], .sem 1 sem1 [(.tv 121)] [(.var 110)], r 142 1 100, .tr (.bin .lt (.var 110) (.var 142)) false, r 152 0 18446744073709551615, r 112 2 2]
def T_N21 : Tm := ⟨[(16, iv 112), (3, .v (.one (.ptr 1 0))), (5, .v (.one (.osub 2 (.var 110) (.lit (.ofNat 100))))), (6, .v (.one (.slc 3 0 (.lit (.ofNat 100)) (.lit (.ofNat 100)))))], [(1, ⟨true, .cells [bf, u0, .nils, bf, u0, .nils, bf, u0, .nils, bf, u0, .nils, bf, u0, .nils, bf, u0, .nils, bf, u0, .nils, bf, u0, .nils, .int .i64 (.lit (.ofNat 4))] 77⟩), (2, ⟨true, .seq 2 (.tv 121) (.lit (.ofNat 100)) [.int .i64] 3⟩), (3, ⟨true, .arr (.tv 120) 100 (.int .i64) 3⟩)], 8, 0⟩
def F_N21 : List Fact := [r 110 0 100, .sem 0 sem0 [(.tv 120)] [(.var 110)], .sem 1 sem1 [(.tv 121)] [(.var 110)], r 112 2 2]
def T_I21 : Tm := ⟨[(16, iv 112), (20, iv 111), (17, .v (.one (.osl 6))), (3, .v (.one (.ptr 1 0))), (5, .v (.one (.osub 2 (.var 110) (.lit (.ofNat 100))))), (6, .v (.one (.slc 3 0 (.lit (.ofNat 100)) (.lit (.ofNat 100)))))], [(1, ⟨true, .cells [bf, u0, .nils, bf, u0, .nils, bf, u0, .nils, bf, u0, .nils, bf, u0, .nils, bf, u0, .nils, bf, u0, .nils, bf, u0, .nils, .int .i64 (.lit (.ofNat 4))] 77⟩), (2, ⟨true, .seq 2 (.tv 121) (.lit (.ofNat 100)) [.int .i64] 3⟩), (3, ⟨true, .arr (.tv 120) 100 (.int .i64) 3⟩), (6, ⟨true, .seq 6 (.tv 132) (.var 142) [.int .i64] 3⟩)], 8, 0⟩
def F_I21 : List Fact := [r 110 0 100, .sem 0 sem0 [(.tv 120), (.tv 132)] [(.var 110), (.var 111), (.var 142)], .sem 1 sem1 [(.tv 121)] [(.var 110)], r 142 1 100, .tr (.bin .lt (.var 110) (.var 142)) false, r 112 2 2, r 111 0 100, .tr (.bin .lt (.var 142) (.var 111)) false]
def T_M22 : Tm := ⟨[(16, iv 112), (3, .v (.one (.ptr 1 0))), (5, .v (.one (.osub 2 (.var 110) (.lit (.ofNat 100))))), (6, .v (.one (.slc 3 0 (.lit (.ofNat 100)) (.lit (.ofNat 100)))))], [(1, ⟨true, .cells [bf, u0, .nils, bf, u0, .nils, .bool (.lit (.ofNat 1)), .int .u64 (.var 152), .osl 6, .bool (.lit (.ofNat 1)), .int .u64 (.var 153), .osl 7, bf, u0, .nils, bf, u0, .nils, bf, u0, .nils, bf, u0, .nils, .int .i64 (.lit (.ofNat 4))] 77⟩), (2, ⟨true, .seq 2 (.tv 121) (.lit (.ofNat 100)) [.int .i64] 3⟩), (3, ⟨true, .arr (.tv 120) 100 (.int .i64) 3⟩), (6, ⟨true, .seq 6 (.tv 132) (.var 142) [.int .i64] 3⟩), (7, ⟨true, .seq 7 (.tv 133) (.var 143) [.int .i64] 3⟩)], 8, 0⟩
def F_M22 : List Fact := [r 110 0 100, .sem 0 sem0 [(.tv 120), (.tv 132), (.tv 133)] [(.var 110), z, (.var 142), z, (.var 143)], .sem 1 sem1 [(.tv 121)] [(.var 110)], r 142 1 100, .tr (.bin .lt (.var 110) (.var 142)) false, r 152 0 18446744073709551615, r 143 1 100, .tr (.bin .lt (.var 110) (.var 143)) false, r 153 0 18446744073709551615, r 112 2 2]
def T_N22 : Tm := ⟨[(16, iv 112), (3, .v (.one (.ptr 1 0))), (5, .v (.one (.osub 2 (.var 110) (.lit (.ofNat 100))))), (6, .v (.one (.slc 3 0 (.lit (.ofNat 100)) (.lit (.ofNat 100)))))], [(1, ⟨true, .cells [bf, u0, .nils, bf, u0, .nils, bf, u0, .nils, .bool (.lit (.ofNat 1)), .int .u64 (.var 153), .osl 7, bf, u0, .nils, bf, u0, .nils, bf, u0, .nils, bf, u0, .nils, .int .i64 (.lit (.ofNat 4))] 77⟩), (2, ⟨true, .seq 2 (.tv 121) (.lit (.ofNat 100)) [.int .i64] 3⟩), (3, ⟨true, .arr (.tv 120) 100 (.int .i64) 3⟩), (7, ⟨true, .seq 7 (.tv 133) (.var 143) [.int .i64] 3⟩)], 8, 0⟩
def F_N22 : List Fact := [r 110 0 100, .sem 0 sem0 [(.tv 120), (.tv 133)] [(.var 110), z, (.var 143)], .sem 1 sem1 [(.tv 121)] [(.var 110)], r 143 1 100, .tr (.bin .lt (.var 110) (.var 143)) false, r 153 0 18446744073709551615, r 112 2 2]
def T_I22 : Tm := ⟨[(16, iv 112), (20, iv 111), (17, .v (.one (.osl 6))), (3, .v (.one (.ptr 1 0))), (5, .v (.one (.osub 2 (.var 110) (.lit (.ofNat 100))))), (6, .v (.one (.slc 3 0 (.lit (.ofNat 100)) (.lit (.ofNat 100)))))], [(1, ⟨true, .cells [bf, u0, .nils, bf, u0, .nils, bf, u0, .nils, .bool (.lit (.ofNat 1)), .int .u64 (.var 153), .osl 7, bf, u0, .nils, bf, u0, .nils, bf, u0, .nils, bf, u0, .nils, .int .i64 (.lit (.ofNat 4))] 77⟩), (2, ⟨true, .seq 2 (.tv 121) (.lit (.ofNat 100)) [.int .i64] 3⟩), (3, ⟨true, .arr (.tv 120) 100 (.int .i64) 3⟩), (6, ⟨true, .seq 6 (.tv 132) (.var 142) [.int .i64] 3⟩), (7, ⟨true, .seq 7 (.tv 133) (.var 143) [.int .i64] 3⟩)], 8, 0⟩
def F_I22 : List Fact := [r 110 0 100, .sem 0 sem0 [(.tv 120), (.tv 132), (.tv 133)] [(.var 110), (.var 111), (.var 142), z, (.var 143)], .sem 1 sem1 [(.tv 121)] [(.var 110)], r 142 1 100, .tr (.bin .lt (.var 110) (.var 142)) false, r 143 1 100, .tr (.bin .lt (.var 110) (.var 143)) false, r 153 0 18446744073709551615, r 112 2 2, r 111 0 100, .tr (.bin .lt (.var 142) (.var 111)) false]
def T_M30 : Tm := ⟨[(16, iv 112), (3, .v (.one (.ptr 1 0))), (5, .v (.one (.osub 2 (.var 110) (.lit (.ofNat 100))))), (6, .v (.one (.slc 3 0 (.lit (.ofNat 100)) (.lit (.ofNat 100)))))], [(1, ⟨true, .cells [bf, u0, .nils, bf, u0, .nils, bf, u0, .nils, bf, u0, .nils, bf, u0, .nils, bf, u0, .nils, bf, u0, .nils, bf, u0, .nils, .int .i64 (.lit (.ofNat 4))] 77⟩), (2, ⟨true, .seq 2 (.tv 121) (.lit (.ofNat 100)) [.int .i64] 3⟩), (3, ⟨true, .arr (.tv 120) 100 (.int .i64) 3⟩)], 8, 0⟩
def F_M30 : List Fact := [r 110 0 100, .sem 0 sem0 [(.tv 120)] [(.var 110)], .sem 1 sem1 [(.tv 121)] [(.var 110)], r 112 3 3]
def T_N30 : Tm := ⟨[(16, iv 112), (3, .v (.one (.ptr 1 0))), (5, .v (.one (.osub 2 (.var 110) (.lit (.ofNat 100))))), (6, .v (.one (.slc 3 0 (.lit (.ofNat 100)) (.lit (.ofNat 100)))))], [(1, ⟨true, .cells [bf, u0, .nils, bf, u0, .nils, bf, u0, .nils, bf, u0, .nils, bf, u0, .nils, bf, u0, .nils, bf, u0, .nils, bf, u0, .nils, .int .i64 (.lit (.ofNat 4))] 77⟩), (2, ⟨true, .seq 2 (.tv 121) (.lit (.ofNat 100)) [.int .i64] 3⟩), (3, ⟨true, .arr (.tv 120) 100 (.int .i64) 3⟩)], 8, 0⟩
def F_N30 : List Fact := [r 110 0 100, .sem 0 sem0 [(.tv 120)] [(.var 110)], .sem 1 sem1 [(.tv 121)] [(.var 110)], r 112 3 3]
def T_M31 : Tm := ⟨[(16, iv 112), (3, .v (.one (.ptr 1 0))), (5, .v (.one (.osub 2 (.var 110) (.lit (.ofNat 100))))), (6, .v (.one (.slc 3 0 (.lit (.ofNat 100)) (.lit (.ofNat 100)))))], [(1, ⟨true, .cells [bf, u0, .nils, bf, u0, .nils, bf, u0, .nils, .bool (.lit (.ofNat 1)), .int .u64 (.var 153), .osl 7, bf, u0, .nils, bf, u0, .nils, bf, u0, .nils, bf, u0, .nils, .int .i64 (.lit (.ofNat 4))] 77⟩), (2, ⟨true, .seq 2 (.tv 121) (.lit (.ofNat 100)) [.int .i64] 3⟩), (3, ⟨true, .arr (.tv 120) 100 (.int .i64) 3⟩), (7, ⟨true, .seq 7 (.tv 133) (.var 143) [.int .i64] 3⟩)], 8, 0⟩
def F_M31 : List Fact := [r 110 0 100, .sem 0 sem0 [(.tv 120), (.tv 133)] [(.var 110), z, (.var 143)], .sem 1 sem1 [(.tv 121)] [(.var 110)], r 143 1 100, .tr (.bin .lt (.var 110) (.var 143)) false, r 153 0 18446744073709551615, r 112 3 3]
def T_N31 : Tm := ⟨[(16, iv 112), (3, .v (.one (.ptr 1 0))), (5, .v (.one (.osub 2 (.var 110) (.lit (.ofNat 100))))), (6, .v (.one (.slc 3 0 (.lit (.ofNat 100)) (.lit (.ofNat 100)))))], [(1, ⟨true, .cells [bf, u0, .nils, bf, u0, .nils, bf, u0, .nils, bf, u0, .nils, bf, u0, .nils, bf, u0, .nils, bf, u0, .nils, bf, u0, .nils, .int .i64 (.lit (.ofNat 4))] 77⟩), (2, ⟨true, .seq 2 (.tv 121) (.lit (.ofNat 100)) [.int .i64] 3⟩), (3, ⟨true, .arr (.tv 120) 100 (.int .i64) 3⟩)], 8, 0⟩
def F_N31 : List Fact := [r 110 0 100, .sem 0 sem0 [(.tv 120)] [(.var 110)], .sem 1 sem1 [(.tv 121)] [(.var 110)], r 112 3 3]
def T_I31 : Tm := ⟨[(16, iv 112), (20, iv 111), (17, .v (.one (.osl 7))), (3, .v (.one (.ptr 1 0))), (5, .v (.one (.osub 2 (.var 110) (.lit (.ofNat 100))))), (6, .v (.one (.slc 3 0 (.lit (.ofNat 100)) (.lit (.ofNat 100)))))], [(1, ⟨true, .cells [bf, u0, .nils, bf, u0, .nils, bf, u0, .nils, bf, u0, .nils, bf, u0, .nils, bf, u0, .nils, bf, u0, .nils, bf, u0, .nils, .int .i64 (.lit (.ofNat 4))] 77⟩), (2, ⟨true, .seq 2 (.tv 121) (.lit (.ofNat 100)) [.int .i64] 3⟩), (3, ⟨true, .arr (.tv 120) 100 (.int .i64) 3⟩), (7, ⟨true, .seq 7 (.tv 133) (.var 143) [.int .i64] 3⟩)], 8, 0⟩
def F_I31 : List Fact := [r 110 0 100, .sem 0 sem0 [(.tv 120), (.tv 133)] [(.var 110), (.var 111), (.var 143)], .sem 1 sem1 [(.tv 121)] [(.var 110)], r 143 1 100, .tr (.bin .lt (.var 110) (.var 143)) false, r 112 3 3, r 111 0 100, .tr (.bin .lt (.var 143) (.var 111)) false]
def T_M40 : Tm := ⟨[(16, iv 112), (3, .v (.one (.ptr 1 0))), (5, .v (.one (.osub 2 (.var 110) (.lit (.ofNat 100))))), (6, .v (.one (.slc 3 0 (.lit (.ofNat 100)) (.lit (.ofNat 100)))))], [(1, ⟨true, .cells [bf, u0, .nils, bf, u0, .nils, bf, u0, .nils, bf, u0, .nils, bf, u0, .nils, bf, u0, .nils, bf, u0, .nils, bf, u0, .nils, .int .i64 (.lit (.ofNat 4))] 77⟩), (2, ⟨true, .seq 2 (.tv 121) (.lit (.ofNat 100)) [.int .i64] 3⟩), (3, ⟨true, .arr (.tv 120) 100 (.int .i64) 3⟩)], 8, 0⟩
def F_M40 : List Fact := [r 110 0 100, .sem 0 sem0 [(.tv 120)] [(.var 110)], .sem 1 sem1 [(.tv 121)] [(.var 110)], r 112 4 4]
def T_Q : Tm := ⟨[(3, .v (.one (.ptr 1 0))), (5, .v (.one (.osub 2 (.var 110) (.lit (.ofNat 100))))), (6, .v (.one (.slc 3 0 (.lit (.ofNat 100)) (.lit (.ofNat 100)))))], [(1, ⟨true, .cells [bf, u0, .nils, bf, u0, .nils, bf, u0, .nils, bf, u0, .nils, bf, u0, .nils, bf, u0, .nils, bf, u0, .nils, bf, u0, .nils, .int .i64 (.lit (.ofNat 4))] 77⟩), (2, ⟨true, .seq 2 (.tv 121) (.lit (.ofNat 100)) [.int .i64] 3⟩), (3, ⟨true, .arr (.tv 120) 100 (.int .i64) 3⟩)], 8, 0⟩
def F_Q : List Fact := [r 110 0 100, .sem 0 sem0 [(.tv 120)] [(.var 110)], .sem 1 sem1 [(.tv 121)] [(.var 110)]]
def T_R : Tm := ⟨[(21, iv 113), (3, .v (.one (.ptr 1 0))), (5, .v (.one (.osub 2 (.var 110) (.lit (.ofNat 100))))), (6, .v (.one (.slc 3 0 (.lit (.ofNat 100)) (.lit (.ofNat 100)))))], [(1, ⟨true, .cells [bf, u0, .nils, bf, u0, .nils, bf, u0, .nils, bf, u0, .nils, bf, u0, .nils, bf, u0, .nils, bf, u0, .nils, bf, u0, .nils, .int .i64 (.lit (.ofNat 4))] 77⟩), (2, ⟨true, .seq 2 (.tv 121) (.lit (.ofNat 100)) [.int .i64] 3⟩), (3, ⟨true, .arr (.tv 120) 100 (.int .i64) 3⟩)], 8, 0⟩
def F_R : List Fact := [r 110 0 100, .sem 0 sem0 [(.tv 120)] [(.var 110)], .sem 1 sem1 [(.tv 121)] [(.var 110)], r 113 0 100]
def T_S : Tm := ⟨[(3, .v (.one (.ptr 1 0)))], [(1, ⟨true, .cells [bf, u0, .nils, bf, u0, .nils, bf, u0, .nils, bf, u0, .nils, bf, u0, .nils, bf, u0, .nils, bf, u0, .nils, bf, u0, .nils, .int .i64 (.lit (.ofNat 4))] 77⟩)], 8, 0⟩
def F_S : List Fact := [r 110 0 100]

def ct_awake : Ctr := ⟨8, [], [], 0, [], ⟨[.one (.bool (.lit (.ofNat 1)))], [], 0, 0⟩⟩
def xs0 : List V1 := [(.one .nils)]
def hs0 : List (Nat × Ent) := []
def facts0 : List Fact := []
def st0 : S := ⟨argSlots xs0 0 .nil, putSets .leaf hs0, 1, []⟩
def xs1 : List V1 := [(.one (.tslc 0 1 (.lit (.ofNat 0)) (.var 0) (.var 1)))]
def hs1 : List (Nat × Ent) := [(0, ⟨false, .tab 0 (.tv 0) (.var 0) [.int .u64]⟩)]
def facts1 : List Fact := [(.rng (.var 0) ((some (.ofNat 0)), (some (.ofNat 17592186043904)))), (.rng (.var 1) ((some (.ofNat 0)), (some (.ofNat 9223372036854775807))))]
def st1 : S := ⟨argSlots xs1 0 .nil, putSets .leaf hs1, 1, []⟩
def fm0 : List (Tm × List Fact) := [(T_A1, F_A1), (T_A2, F_A2), (T_A3, F_A3), (T_A4, F_A4)]
def fm1 : List (Tm × List Fact) := [(T_E1, F_E1), (T_E2, F_E2), (T_E3, F_E3), (T_E4, F_E4)]
def fm2 : List (Tm × List Fact) := [(T_C2, F_C2)]
def fm3 : List (Tm × List Fact) := [(T_D2, F_D2)]
def fm4 : List (Tm × List Fact) := [(T_G2, F_G2)]
def fm5 : List (Tm × List Fact) := [(T_C3, F_C3)]
def fm6 : List (Tm × List Fact) := [(T_D3, F_D3)]
def fm7 : List (Tm × List Fact) := [(T_G3, F_G3)]
def fm8 : List (Tm × List Fact) := [(T_C4, F_C4)]
def fm9 : List (Tm × List Fact) := [(T_D4, F_D4)]
def fm10 : List (Tm × List Fact) := [(T_G4, F_G4)]
def fm11 : List (Tm × List Fact) := [(T_DF, F_DF)]
def fm12 : List (Tm × List Fact) := [(T_K1, F_K1), (T_K2, F_K2), (T_K3, F_K3), (T_K4, F_K4)]
def fm13 : List (Tm × List Fact) := [(T_M01, F_M01), (T_M02, F_M02), (T_M03, F_M03), (T_M04, F_M04), (T_M10, F_M10), (T_M11, F_M11), (T_M12, F_M12), (T_M13, F_M13), (T_M20, F_M20), (T_M21, F_M21), (T_M22, F_M22), (T_M30, F_M30), (T_M31, F_M31), (T_M40, F_M40)]
def lem_c_awake_0 : List Fact := []
def lem_l0_1 : List Fact := []
def lem_l1_2 : List Fact := []
def lem_l1_3 : List Fact := []
def lem_l1_4 : List Fact := []
def lem_l1_5 : List Fact := []
def lem_l1_6 : List Fact := []
def lem_l1_7 : List Fact := []
def lem_l1_8 : List Fact := []
def lem_l1_9 : List Fact := []
def lem_l1_10 : List Fact := []
def lem_l1_11 : List Fact := []
def lem_l1_12 : List Fact := []
def lem_l1_13 : List Fact := []
def lem_l1_14 : List Fact := []
def lem_l1_15 : List Fact := []
def lem_l1_16 : List Fact := []
def lem_l1_17 : List Fact := []
def lem_l1_18 : List Fact := []
def lem_l1_19 : List Fact := []
def lem_l1_20 : List Fact := []
def lem_l1_21 : List Fact := []
def lem_l1_22 : List Fact := []
def lem_l1_23 : List Fact := []
def lem_l1_24 : List Fact := []
def lem_l1_25 : List Fact := []
def lem_l1_26 : List Fact := []
def lem_l1_27 : List Fact := []
def lem_l1_28 : List Fact := []
def lem_l1_29 : List Fact := []
def lem_l1_30 : List Fact := []
def lem_l1_31 : List Fact := []
def lem_l1_32 : List Fact := []
def lem_l1_33 : List Fact := []
def lem_l1_34 : List Fact := []
def lem_l1_35 : List Fact := []
def lem_l1_36 : List Fact := []
def lem_l1_37 : List Fact := []
def lem_l1_38 : List Fact := []
def lem_l1_39 : List Fact := []
def lem_l1_40 : List Fact := []
def lem_l1_41 : List Fact := []
def lem_l1_42 : List Fact := []
def lem_l1_43 : List Fact := []
def lem_l1_44 : List Fact := []
def lem_l1_45 : List Fact := []
def lem_l1_46 : List Fact := []
def lem_l1_47 : List Fact := []
def lem_l1_48 : List Fact := []
def lem_l1_49 : List Fact := []
def lem_l1_50 : List Fact := []
def lem_l1_51 : List Fact := []
def lem_l1_52 : List Fact := []
def lem_l1_53 : List Fact := []
def lem_l1_54 : List Fact := []
def lem_l1_55 : List Fact := []
def lem_l1_56 : List Fact := []
def lem_l1_57 : List Fact := []
def lem_l1_58 : List Fact := []
def lem_l1_59 : List Fact := []
def lem_l1_60 : List Fact := []
def lem_l1_61 : List Fact := []
def lem_l1_62 : List Fact := []
def lem_l1_63 : List Fact := []
def lem_l1_64 : List Fact := []
def lem_l1_65 : List Fact := []
def lem_l1_66 : List Fact := []
def lem_l1_67 : List Fact := []
def lem_l1_68 : List Fact := []
def lem_l1_69 : List Fact := []
def lem_l1_70 : List Fact := []
def lem_l1_71 : List Fact := []
def lem_l1_72 : List Fact := []
def lem_l1_73 : List Fact := []
def lem_l1_74 : List Fact := []
def lem_l1_75 : List Fact := []
def lem_l1_76 : List Fact := []
def lem_l1_77 : List Fact := []
def lem_l1_78 : List Fact := []
def lem_l1_79 : List Fact := []
def lem_l1_80 : List Fact := []
def lem_l1_81 : List Fact := []
def lem_l1_82 : List Fact := []
def lem_l1_83 : List Fact := []
def lem_l1_84 : List Fact := []
def lem_l1_85 : List Fact := []
def lem_l1_86 : List Fact := []
def lem_l1_87 : List Fact := []
def lem_l1_88 : List Fact := []
def lem_l1_89 : List Fact := []
def lem_l1_90 : List Fact := []
def lem_l1_91 : List Fact := []
def lem_l1_92 : List Fact := []
def lem_l1_93 : List Fact := []
def lem_l1_94 : List Fact := []
def lem_l1_95 : List Fact := []
def lem_l1_96 : List Fact := []
def lem_l1_97 : List Fact := []
def lem_l1_98 : List Fact := []
def lem_l1_99 : List Fact := []
def lem_l1_100 : List Fact := []
def lem_l1_101 : List Fact := []
def lem_l1_102 : List Fact := []
def lem_l1_103 : List Fact := []
def lem_l1_104 : List Fact := []
def lem_l1_105 : List Fact := []
def lem_l1_106 : List Fact := []
def lem_l1_107 : List Fact := []
def lem_l1_108 : List Fact := []
def lem_l1_109 : List Fact := []
def lem_l1_110 : List Fact := []
def lem_l1_111 : List Fact := []
def lem_l1_112 : List Fact := []
def lem_l1_113 : List Fact := []
def lem_l1_114 : List Fact := []
def lem_l1_115 : List Fact := []
def lem_l1_116 : List Fact := []
def lem_l1_117 : List Fact := [.rng (.get (.tv 121) (.var 113) 0) (some (.ofNat 0), some (.ofNat 99))]
def lem_l1_118 : List Fact := []
theorem cntN_nn (t : Int → Nat → Int) (a w : Int) : ∀ n, 0 ≤ cntN t a w n
  | 0 => Int.le_refl _
  | n + 1 => by
    have := cntN_nn t a w n
    simp only [cntN]
    split <;> omega
theorem cntN_cons (t : Int → Nat → Int) (a w : Int) : ∀ n, cntN t a w (n + 1) = (if rd t a = w then 1 else 0) + cntN t (a + 1) w n
  | 0 => by simp [cntN]
  | n + 1 => by
    have ih := cntN_cons t a w n
    have h1 : cntN t a w (n + 2) = cntN t a w (n + 1) + (if rd t (a + ((n + 1 : Nat) : Int)) = w then 1 else 0) := rfl
    have h2 : cntN t (a + 1) w (n + 1) = cntN t (a + 1) w n + (if rd t (a + 1 + (n : Int)) = w then 1 else 0) := rfl
    have e : a + ((n + 1 : Nat) : Int) = a + 1 + (n : Int) := by omega
    rw [h1, ih, h2, e]
    omega
theorem cntN_congr {t t' : Int → Nat → Int} {a w : Int} : ∀ {n : Nat}, (∀ r, a ≤ r → r < a + n → rd t r = rd t' r) → cntN t a w n = cntN t' a w n
  | 0, _ => rfl
  | n + 1, h => by
    simp only [cntN]
    rw [cntN_congr fun r h1 h2 => h r h1 (by omega), h (a + n) (by omega) (by omega)]
theorem cntN_none {t : Int → Nat → Int} {a w : Int} : ∀ {n : Nat}, (∀ r, a ≤ r → r < a + n → rd t r ≠ w) → cntN t a w n = 0
  | 0, _ => rfl
  | n + 1, h => by
    simp only [cntN]
    rw [cntN_none fun r h1 h2 => h r h1 (by omega), if_neg (h (a + n) (by omega) (by omega))]
    rfl
theorem Seg.cnt_nn (s : Seg) (w : Int) : 0 ≤ s.cnt w := cntN_nn _ _ _ _
theorem Seg.cnt_none {s : Seg} {w : Int} (h : ∀ r, s.2.1 ≤ r → r < s.2.2 → rd s.1 r ≠ w) : s.cnt w = 0 := cntN_none fun r h1 h2 => h r h1 (by omega)
theorem cnts_nn : ∀ (l : List Seg) (w : Int), 0 ≤ cnts l w
  | [], _ => Int.le_refl _
  | s :: r, w => by
    have h1 := Seg.cnt_nn s w
    have h2 := cnts_nn r w
    simp only [cnts]
    omega
theorem cnts_none : ∀ {l : List Seg} {w : Int}, (∀ s ∈ l, ∀ r, s.2.1 ≤ r → r < s.2.2 → rd s.1 r ≠ w) → cnts l w = 0
  | [], _, _ => rfl
  | s :: r, w, h => by
    simp only [cnts]
    rw [Seg.cnt_none (h s (List.mem_cons_self ..)), cnts_none fun s hs => h s (List.mem_cons_of_mem _ hs)]
    rfl
theorem cnts_append : ∀ (l r : List Seg) (w : Int), cnts (l ++ r) w = cnts l w + cnts r w
  | [], r, w => by simp [cnts]
  | s :: l, r, w => by
    have := cnts_append l r w
    simp only [List.cons_append, cnts, this]
    omega
theorem waits_base {T : Int → Nat → Int} {i : Int} (hi : i = 0) (h : ∀ r, T r 0 = 0) : waits T [] i := by
  subst hi
  refine ⟨fun w h1 h2 => (by omega), fun w _ _ => ?_, fun s hs => (by cases hs)⟩
  simp only [rd, h]
  decide
theorem waits_drop {T t : Int → Nat → Int} {a b i : Int} {l : List Seg} (h : waits T ((t, a, b) :: l) i) (hab : b ≤ a) : waits T l i := by
  refine ⟨fun w h1 h2 => ?_, h.2.1, fun s hs => h.2.2 s (List.mem_cons_of_mem _ hs)⟩
  have h3 := h.1 w h1 h2
  have h4 : Seg.cnt (t, a, b) w = 0 := Seg.cnt_none fun r h1 h2 => (by simp only at h1 h2; omega)
  simp only [cnts, h4] at h3
  omega
theorem waits_step {T T' t : Int → Nat → Int} {a a' b i : Int} {l : List Seg} (h : waits T ((t, a, b) :: l) i) (hab : a < b) (ha : a' = a + 1) (hi : i ≤ 100) (hT : ∀ r, T' r 0 = if r = rd t a then IntKind.i64.wrap (rd T (rd t a) + 1) else T r 0) : waits T' ((t, a', b) :: l) i := by
  subst ha
  have hx := h.2.2 _ (List.mem_cons_self ..) a (Int.le_refl _) hab
  simp only at hx
  have hc : ∀ w, Seg.cnt (t, a, b) w = (if rd t a = w then 1 else 0) + Seg.cnt (t, a + 1, b) w := by
    intro w
    unfold Seg.cnt
    simp only
    have e : (b - a).toNat = (b - (a + 1)).toNat + 1 := by omega
    rw [e, cntN_cons]
  have hsame : ∀ w, w ≠ rd t a → rd T' w = rd T w := fun w hw => by
    show IntKind.i64.wrap (T' w 0) = _
    rw [hT, if_neg hw]
    rfl
  have hone : rd T' (rd t a) = rd T (rd t a) + 1 := by
    have h1 := h.1 (rd t a) hx.1 hx.2
    simp only [cnts, hc, if_true] at h1
    have h2 := Seg.cnt_nn (t, a + 1, b) (rd t a)
    have h3 := cnts_nn l (rd t a)
    have h4 := (wrap_range .i64 (T (rd t a) 0)).1
    have h5 : rd T (rd t a) ≤ 0 := by omega
    have h6 : (-9223372036854775808 : Int) ≤ rd T (rd t a) := h4
    have h7 : rd T' (rd t a) = IntKind.i64.wrap (IntKind.i64.wrap (rd T (rd t a) + 1)) := by
      show IntKind.i64.wrap (T' (rd t a) 0) = _
      rw [hT, if_pos rfl]
    rw [h7, wrap_i64 (by rw [wrap_i64 ⟨by omega, by omega⟩]; exact ⟨by omega, by omega⟩), wrap_i64 ⟨by omega, by omega⟩]
  refine ⟨fun w h1 h2 => ?_, fun w h1 h2 => ?_, fun s hs => ?_⟩
  · have h3 := h.1 w h1 h2
    simp only [cnts, hc] at h3 ⊢
    by_cases hw : w = rd t a
    · subst hw
      rw [hone]
      simp only [if_true] at h3
      omega
    · rw [hsame w hw]
      rw [if_neg (fun e => hw e.symm)] at h3
      omega
  · rw [hsame w (by omega)]
    exact h.2.1 w h1 h2
  · rcases List.mem_cons.1 hs with rfl | hs
    · intro r h1 h2
      exact h.2.2 _ (List.mem_cons_self ..) r (by simp only at h1 ⊢; omega) h2
    · exact h.2.2 s (List.mem_cons_of_mem _ hs)
theorem waits_app {T t t' : Int → Nat → Int} {b b' i i' : Int} (pre : List Seg) {post : List Seg} (h : waits T (pre ++ (t, 0, b) :: post) i) (hb : 0 ≤ b) (hi0 : 0 ≤ i) (hi1 : i < 100) (hi' : i' = i + 1) (hb' : b' = b + 1)
    (ht : ∀ r, t' r 0 = if r = b then i else t r 0) : waits T (pre ++ (t', 0, b') :: post) i' := by
  subst hi'
  subst hb'
  have hold : ∀ r, r ≠ b → rd t' r = rd t r := fun r hr => by simp only [rd, ht, if_neg hr]
  have hnew : rd t' b = i := by
    simp only [rd, ht, if_true]
    exact wrap_i64 ⟨by omega, by omega⟩
  have hc : ∀ w, Seg.cnt (t', 0, b + 1) w = Seg.cnt (t, 0, b) w + (if i = w then 1 else 0) := by
    intro w
    unfold Seg.cnt
    simp only
    have e : (b + 1 - 0).toNat = (b - 0).toNat + 1 := by omega
    rw [e]
    simp only [cntN]
    have e2 : (0 : Int) + ((b - 0).toNat : Int) = b := by omega
    rw [e2, hnew, cntN_congr fun r h1 h2 => hold r (by omega)]
  have hsum : ∀ w, cnts (pre ++ (t', 0, b + 1) :: post) w = cnts (pre ++ (t, 0, b) :: post) w + (if i = w then 1 else 0) := by
    intro w
    simp only [cnts_append, cnts, hc]
    omega
  refine ⟨fun w h1 h2 => ?_, fun w h1 h2 => h.2.1 w (by omega) h2, fun s hs r h1 h2 => ?_⟩
  · rw [hsum]
    by_cases hw : w < i
    · have := h.1 w h1 hw
      rw [if_neg (by omega)]
      omega
    · have hw : w = i := by omega
      subst hw
      have h3 := h.2.1 w (Int.le_refl _) hi1
      have h4 : cnts (pre ++ (t, 0, b) :: post) w = 0 := cnts_none fun s hs r h1 h2 => by
        have := h.2.2 s hs r h1 h2
        omega
      rw [h3, h4, if_pos rfl]
      rfl
  · have key : ∀ s' ∈ pre ++ (t, 0, b) :: post, s'.2.1 ≤ r → r < s'.2.2 → 0 ≤ rd s'.1 r ∧ rd s'.1 r < i + 1 := fun s' hs' h1 h2 => by
      have := h.2.2 s' hs' r h1 h2
      omega
    rcases List.mem_append.1 hs with hs | hs
    · exact key s (List.mem_append_left _ hs) h1 h2
    · rcases List.mem_cons.1 hs with rfl | hs
      · simp only at h1 h2 ⊢
        by_cases hr : r = b
        · rw [hr, hnew]; omega
        · rw [hold r hr]
          exact key (t, 0, b) (List.mem_append_right _ (List.mem_cons_self ..)) h1 (by simp only; omega)
      · exact key s (List.mem_append_right _ (List.mem_cons_of_mem _ hs)) h1 h2
theorem waits_new {T t' : Int → Nat → Int} {b' i i' : Int} {l : List Seg} (h : waits T l i) (hi0 : 0 ≤ i) (hi1 : i < 100) (hi' : i' = i + 1) (hb' : b' = 1) (ht : t' 0 0 = i) : waits T (l ++ [(t', 0, b')]) i' := by
  refine waits_app (t := t') (b := 0) l (post := []) ?_ (Int.le_refl _) hi0 hi1 hi' (by omega) (fun r => ?_)
  · refine ⟨fun w h1 h2 => ?_, h.2.1, fun s hs r h1 h2 => ?_⟩
    · have := h.1 w h1 h2
      simp only [cnts_append, cnts]
      have h4 : Seg.cnt (t', 0, 0) w = 0 := Seg.cnt_none fun r h1 h2 => (by simp only at h1 h2; omega)
      omega
    · rcases List.mem_append.1 hs with hs | hs
      · exact h.2.2 s hs r h1 h2
      · simp only [List.mem_singleton] at hs
        subst hs
        simp only at h1 h2
        omega
  · split
    · rename_i hr; rw [hr, ht]
    · rfl
theorem rows_base {t : Int → Nat → Int} {i : Int} (hi : i = 0) (h : ∀ r, t r 0 = 0) : rows t i := fun r => by
  rw [h]
  exact ⟨⟨by omega, by omega⟩, fun h1 h2 => by omega⟩
theorem rows_app {t t' : Int → Nat → Int} {i i' : Int} (h : rows t i) (hi0 : 0 ≤ i) (hi1 : i < 100) (hi' : i' = i + 1) (ht : ∀ r, t' r 0 = if r = i then i else t r 0) : rows t' i' := fun r => by
  subst hi'
  rw [ht]
  have h1 := h r
  split
  · exact ⟨⟨by omega, by omega⟩, fun _ _ => by omega⟩
  · exact ⟨h1.1, fun h2 h3 => h1.2 h2 (by omega)⟩
theorem add_i64 {a : Int} (h0 : 0 ≤ a) (h1 : a ≤ 1000) : IntKind.i64.wrap (a + 1) = a + 1 := wrap_i64 ⟨by omega, by omega⟩
theorem waits_lem {ρ : Env} (hk : ∀ g ∈ F_R, Fact.holds ρ g) : Fact.holds ρ (.rng (.get (.tv 121) (.var 113) 0) (some (.ofNat 0), some (.ofNat 99))) := by
  have h1 : rows ((.tv 121 : E).tden ρ) ((.var 110 : E).den ρ) := hk (.sem 1 sem1 [(.tv 121)] [(.var 110)]) (by simp [F_R])
  exact rng_iff.2 (h1 (ρ.v 113)).1

def cd0 : List Code := flat (bodyOf Try.f4)
def cd1 : List Code := flat (loopBody cd0 7)
def cd8 : List Code := flat (loopBody (cd0.drop 8) 1)
def cd11 : List Code := flat (loopBody ((cd0.drop 8).drop 2) 1)
def cd2 : List Code := flat (blockBody cd1 2)
def cd9 : List Code := flat (blockBody cd8 2)
def cd3 : List Code := flat (condNo cd2 2)
def cd4 : List Code := flat (condYes cd2 2)
def cd10 : List Code := flat (loopBody cd9 2)
def cd5 : List Code := flat (loopBody cd4 1)
def cd6 : List Code := flat (blockBody cd5 2)
def cd7 : List Code := flat (loopBody cd6 4)
def rnL : Rn := ⟨(TI.of Try.prog), (fnOf Try.prog), ⟨[], ctOf [ct_awake]⟩, 400, Try.f4, none⟩
theorem lem_c_awake_0_ok : ∀ ρ, (∀ g ∈ ct_awake.facts, Fact.holds ρ g) → ∀ g ∈ lem_c_awake_0, Fact.holds ρ g := fun _ _ _ h => absurd h List.not_mem_nil
theorem lem_l0_1_ok : ∀ ρ, (∀ g ∈ facts0, Fact.holds ρ g) → ∀ g ∈ lem_l0_1, Fact.holds ρ g := fun _ _ _ h => absurd h List.not_mem_nil
theorem lem_l1_2_ok : ∀ ρ, (∀ g ∈ facts1, Fact.holds ρ g) → ∀ g ∈ lem_l1_2, Fact.holds ρ g := fun _ _ _ h => absurd h List.not_mem_nil
theorem lem_l1_3_ok : ∀ ρ, (∀ g ∈ F_A0, Fact.holds ρ g) → ∀ g ∈ lem_l1_3, Fact.holds ρ g := fun _ _ _ h => absurd h List.not_mem_nil
theorem lem_l1_4_ok : ∀ ρ, (∀ g ∈ F_B0, Fact.holds ρ g) → ∀ g ∈ lem_l1_4, Fact.holds ρ g := fun _ _ _ h => absurd h List.not_mem_nil
theorem lem_l1_5_ok : ∀ ρ, (∀ g ∈ F_D1, Fact.holds ρ g) → ∀ g ∈ lem_l1_5, Fact.holds ρ g := fun _ _ _ h => absurd h List.not_mem_nil
theorem lem_l1_6_ok : ∀ ρ, (∀ g ∈ F_G1, Fact.holds ρ g) → ∀ g ∈ lem_l1_6, Fact.holds ρ g := fun _ _ _ h => absurd h List.not_mem_nil
theorem lem_l1_7_ok : ∀ ρ, (∀ g ∈ F_C1, Fact.holds ρ g) → ∀ g ∈ lem_l1_7, Fact.holds ρ g := fun _ _ _ h => absurd h List.not_mem_nil
theorem lem_l1_8_ok : ∀ ρ, (∀ g ∈ F_A1, Fact.holds ρ g) → ∀ g ∈ lem_l1_8, Fact.holds ρ g := fun _ _ _ h => absurd h List.not_mem_nil
theorem lem_l1_9_ok : ∀ ρ, (∀ g ∈ F_B1, Fact.holds ρ g) → ∀ g ∈ lem_l1_9, Fact.holds ρ g := fun _ _ _ h => absurd h List.not_mem_nil
theorem lem_l1_10_ok : ∀ ρ, (∀ g ∈ F_D1, Fact.holds ρ g) → ∀ g ∈ lem_l1_10, Fact.holds ρ g := fun _ _ _ h => absurd h List.not_mem_nil
theorem lem_l1_11_ok : ∀ ρ, (∀ g ∈ F_D2, Fact.holds ρ g) → ∀ g ∈ lem_l1_11, Fact.holds ρ g := fun _ _ _ h => absurd h List.not_mem_nil
theorem lem_l1_12_ok : ∀ ρ, (∀ g ∈ F_G1, Fact.holds ρ g) → ∀ g ∈ lem_l1_12, Fact.holds ρ g := fun _ _ _ h => absurd h List.not_mem_nil
theorem lem_l1_13_ok : ∀ ρ, (∀ g ∈ F_G2, Fact.holds ρ g) → ∀ g ∈ lem_l1_13, Fact.holds ρ g := fun _ _ _ h => absurd h List.not_mem_nil
theorem lem_l1_14_ok : ∀ ρ, (∀ g ∈ F_C1, Fact.holds ρ g) → ∀ g ∈ lem_l1_14, Fact.holds ρ g := fun _ _ _ h => absurd h List.not_mem_nil
theorem lem_l1_15_ok : ∀ ρ, (∀ g ∈ F_C2, Fact.holds ρ g) → ∀ g ∈ lem_l1_15, Fact.holds ρ g := fun _ _ _ h => absurd h List.not_mem_nil
theorem lem_l1_16_ok : ∀ ρ, (∀ g ∈ F_A2, Fact.holds ρ g) → ∀ g ∈ lem_l1_16, Fact.holds ρ g := fun _ _ _ h => absurd h List.not_mem_nil
theorem lem_l1_17_ok : ∀ ρ, (∀ g ∈ F_B2, Fact.holds ρ g) → ∀ g ∈ lem_l1_17, Fact.holds ρ g := fun _ _ _ h => absurd h List.not_mem_nil
theorem lem_l1_18_ok : ∀ ρ, (∀ g ∈ F_D2, Fact.holds ρ g) → ∀ g ∈ lem_l1_18, Fact.holds ρ g := fun _ _ _ h => absurd h List.not_mem_nil
theorem lem_l1_19_ok : ∀ ρ, (∀ g ∈ F_D3, Fact.holds ρ g) → ∀ g ∈ lem_l1_19, Fact.holds ρ g := fun _ _ _ h => absurd h List.not_mem_nil
theorem lem_l1_20_ok : ∀ ρ, (∀ g ∈ F_G2, Fact.holds ρ g) → ∀ g ∈ lem_l1_20, Fact.holds ρ g := fun _ _ _ h => absurd h List.not_mem_nil
theorem lem_l1_21_ok : ∀ ρ, (∀ g ∈ F_G3, Fact.holds ρ g) → ∀ g ∈ lem_l1_21, Fact.holds ρ g := fun _ _ _ h => absurd h List.not_mem_nil
theorem lem_l1_22_ok : ∀ ρ, (∀ g ∈ F_C2, Fact.holds ρ g) → ∀ g ∈ lem_l1_22, Fact.holds ρ g := fun _ _ _ h => absurd h List.not_mem_nil
theorem lem_l1_23_ok : ∀ ρ, (∀ g ∈ F_C3, Fact.holds ρ g) → ∀ g ∈ lem_l1_23, Fact.holds ρ g := fun _ _ _ h => absurd h List.not_mem_nil
theorem lem_l1_24_ok : ∀ ρ, (∀ g ∈ F_A3, Fact.holds ρ g) → ∀ g ∈ lem_l1_24, Fact.holds ρ g := fun _ _ _ h => absurd h List.not_mem_nil
theorem lem_l1_25_ok : ∀ ρ, (∀ g ∈ F_B3, Fact.holds ρ g) → ∀ g ∈ lem_l1_25, Fact.holds ρ g := fun _ _ _ h => absurd h List.not_mem_nil
theorem lem_l1_26_ok : ∀ ρ, (∀ g ∈ F_D3, Fact.holds ρ g) → ∀ g ∈ lem_l1_26, Fact.holds ρ g := fun _ _ _ h => absurd h List.not_mem_nil
theorem lem_l1_27_ok : ∀ ρ, (∀ g ∈ F_D4, Fact.holds ρ g) → ∀ g ∈ lem_l1_27, Fact.holds ρ g := fun _ _ _ h => absurd h List.not_mem_nil
theorem lem_l1_28_ok : ∀ ρ, (∀ g ∈ F_G3, Fact.holds ρ g) → ∀ g ∈ lem_l1_28, Fact.holds ρ g := fun _ _ _ h => absurd h List.not_mem_nil
theorem lem_l1_29_ok : ∀ ρ, (∀ g ∈ F_G4, Fact.holds ρ g) → ∀ g ∈ lem_l1_29, Fact.holds ρ g := fun _ _ _ h => absurd h List.not_mem_nil
theorem lem_l1_30_ok : ∀ ρ, (∀ g ∈ F_C3, Fact.holds ρ g) → ∀ g ∈ lem_l1_30, Fact.holds ρ g := fun _ _ _ h => absurd h List.not_mem_nil
theorem lem_l1_31_ok : ∀ ρ, (∀ g ∈ F_C4, Fact.holds ρ g) → ∀ g ∈ lem_l1_31, Fact.holds ρ g := fun _ _ _ h => absurd h List.not_mem_nil
theorem lem_l1_32_ok : ∀ ρ, (∀ g ∈ F_A4, Fact.holds ρ g) → ∀ g ∈ lem_l1_32, Fact.holds ρ g := fun _ _ _ h => absurd h List.not_mem_nil
theorem lem_l1_33_ok : ∀ ρ, (∀ g ∈ F_B4, Fact.holds ρ g) → ∀ g ∈ lem_l1_33, Fact.holds ρ g := fun _ _ _ h => absurd h List.not_mem_nil
theorem lem_l1_34_ok : ∀ ρ, (∀ g ∈ F_D4, Fact.holds ρ g) → ∀ g ∈ lem_l1_34, Fact.holds ρ g := fun _ _ _ h => absurd h List.not_mem_nil
theorem lem_l1_35_ok : ∀ ρ, (∀ g ∈ F_DF, Fact.holds ρ g) → ∀ g ∈ lem_l1_35, Fact.holds ρ g := fun _ _ _ h => absurd h List.not_mem_nil
theorem lem_l1_36_ok : ∀ ρ, (∀ g ∈ F_K0, Fact.holds ρ g) → ∀ g ∈ lem_l1_36, Fact.holds ρ g := fun _ _ _ h => absurd h List.not_mem_nil
theorem lem_l1_37_ok : ∀ ρ, (∀ g ∈ F_K0, Fact.holds ρ g) → ∀ g ∈ lem_l1_37, Fact.holds ρ g := fun _ _ _ h => absurd h List.not_mem_nil
theorem lem_l1_38_ok : ∀ ρ, (∀ g ∈ F_J0, Fact.holds ρ g) → ∀ g ∈ lem_l1_38, Fact.holds ρ g := fun _ _ _ h => absurd h List.not_mem_nil
theorem lem_l1_39_ok : ∀ ρ, (∀ g ∈ F_Kn0, Fact.holds ρ g) → ∀ g ∈ lem_l1_39, Fact.holds ρ g := fun _ _ _ h => absurd h List.not_mem_nil
theorem lem_l1_40_ok : ∀ ρ, (∀ g ∈ F_K1, Fact.holds ρ g) → ∀ g ∈ lem_l1_40, Fact.holds ρ g := fun _ _ _ h => absurd h List.not_mem_nil
theorem lem_l1_41_ok : ∀ ρ, (∀ g ∈ F_K1, Fact.holds ρ g) → ∀ g ∈ lem_l1_41, Fact.holds ρ g := fun _ _ _ h => absurd h List.not_mem_nil
theorem lem_l1_42_ok : ∀ ρ, (∀ g ∈ F_J1, Fact.holds ρ g) → ∀ g ∈ lem_l1_42, Fact.holds ρ g := fun _ _ _ h => absurd h List.not_mem_nil
theorem lem_l1_43_ok : ∀ ρ, (∀ g ∈ F_Kn1, Fact.holds ρ g) → ∀ g ∈ lem_l1_43, Fact.holds ρ g := fun _ _ _ h => absurd h List.not_mem_nil
theorem lem_l1_44_ok : ∀ ρ, (∀ g ∈ F_K2, Fact.holds ρ g) → ∀ g ∈ lem_l1_44, Fact.holds ρ g := fun _ _ _ h => absurd h List.not_mem_nil
theorem lem_l1_45_ok : ∀ ρ, (∀ g ∈ F_K2, Fact.holds ρ g) → ∀ g ∈ lem_l1_45, Fact.holds ρ g := fun _ _ _ h => absurd h List.not_mem_nil
theorem lem_l1_46_ok : ∀ ρ, (∀ g ∈ F_J2, Fact.holds ρ g) → ∀ g ∈ lem_l1_46, Fact.holds ρ g := fun _ _ _ h => absurd h List.not_mem_nil
theorem lem_l1_47_ok : ∀ ρ, (∀ g ∈ F_Kn2, Fact.holds ρ g) → ∀ g ∈ lem_l1_47, Fact.holds ρ g := fun _ _ _ h => absurd h List.not_mem_nil
theorem lem_l1_48_ok : ∀ ρ, (∀ g ∈ F_K3, Fact.holds ρ g) → ∀ g ∈ lem_l1_48, Fact.holds ρ g := fun _ _ _ h => absurd h List.not_mem_nil
theorem lem_l1_49_ok : ∀ ρ, (∀ g ∈ F_K3, Fact.holds ρ g) → ∀ g ∈ lem_l1_49, Fact.holds ρ g := fun _ _ _ h => absurd h List.not_mem_nil
theorem lem_l1_50_ok : ∀ ρ, (∀ g ∈ F_J3, Fact.holds ρ g) → ∀ g ∈ lem_l1_50, Fact.holds ρ g := fun _ _ _ h => absurd h List.not_mem_nil
theorem lem_l1_51_ok : ∀ ρ, (∀ g ∈ F_Kn3, Fact.holds ρ g) → ∀ g ∈ lem_l1_51, Fact.holds ρ g := fun _ _ _ h => absurd h List.not_mem_nil
theorem lem_l1_52_ok : ∀ ρ, (∀ g ∈ F_K4, Fact.holds ρ g) → ∀ g ∈ lem_l1_52, Fact.holds ρ g := fun _ _ _ h => absurd h List.not_mem_nil
theorem lem_l1_53_ok : ∀ ρ, (∀ g ∈ F_L, Fact.holds ρ g) → ∀ g ∈ lem_l1_53, Fact.holds ρ g := fun _ _ _ h => absurd h List.not_mem_nil
theorem lem_l1_54_ok : ∀ ρ, (∀ g ∈ F_G1, Fact.holds ρ g) → ∀ g ∈ lem_l1_54, Fact.holds ρ g := fun _ _ _ h => absurd h List.not_mem_nil
theorem lem_l1_55_ok : ∀ ρ, (∀ g ∈ F_G4, Fact.holds ρ g) → ∀ g ∈ lem_l1_55, Fact.holds ρ g := fun _ _ _ h => absurd h List.not_mem_nil
theorem lem_l1_56_ok : ∀ ρ, (∀ g ∈ F_C1, Fact.holds ρ g) → ∀ g ∈ lem_l1_56, Fact.holds ρ g := fun _ _ _ h => absurd h List.not_mem_nil
theorem lem_l1_57_ok : ∀ ρ, (∀ g ∈ F_C4, Fact.holds ρ g) → ∀ g ∈ lem_l1_57, Fact.holds ρ g := fun _ _ _ h => absurd h List.not_mem_nil
theorem lem_l1_58_ok : ∀ ρ, (∀ g ∈ F_E0, Fact.holds ρ g) → ∀ g ∈ lem_l1_58, Fact.holds ρ g := fun _ _ _ h => absurd h List.not_mem_nil
theorem lem_l1_59_ok : ∀ ρ, (∀ g ∈ F_E1, Fact.holds ρ g) → ∀ g ∈ lem_l1_59, Fact.holds ρ g := fun _ _ _ h => absurd h List.not_mem_nil
theorem lem_l1_60_ok : ∀ ρ, (∀ g ∈ F_E2, Fact.holds ρ g) → ∀ g ∈ lem_l1_60, Fact.holds ρ g := fun _ _ _ h => absurd h List.not_mem_nil
theorem lem_l1_61_ok : ∀ ρ, (∀ g ∈ F_E3, Fact.holds ρ g) → ∀ g ∈ lem_l1_61, Fact.holds ρ g := fun _ _ _ h => absurd h List.not_mem_nil
theorem lem_l1_62_ok : ∀ ρ, (∀ g ∈ F_E4, Fact.holds ρ g) → ∀ g ∈ lem_l1_62, Fact.holds ρ g := fun _ _ _ h => absurd h List.not_mem_nil
theorem lem_l1_63_ok : ∀ ρ, (∀ g ∈ F_M00, Fact.holds ρ g) → ∀ g ∈ lem_l1_63, Fact.holds ρ g := fun _ _ _ h => absurd h List.not_mem_nil
theorem lem_l1_64_ok : ∀ ρ, (∀ g ∈ F_M00, Fact.holds ρ g) → ∀ g ∈ lem_l1_64, Fact.holds ρ g := fun _ _ _ h => absurd h List.not_mem_nil
theorem lem_l1_65_ok : ∀ ρ, (∀ g ∈ F_N00, Fact.holds ρ g) → ∀ g ∈ lem_l1_65, Fact.holds ρ g := fun _ _ _ h => absurd h List.not_mem_nil
theorem lem_l1_66_ok : ∀ ρ, (∀ g ∈ F_M01, Fact.holds ρ g) → ∀ g ∈ lem_l1_66, Fact.holds ρ g := fun _ _ _ h => absurd h List.not_mem_nil
theorem lem_l1_67_ok : ∀ ρ, (∀ g ∈ F_M01, Fact.holds ρ g) → ∀ g ∈ lem_l1_67, Fact.holds ρ g := fun _ _ _ h => absurd h List.not_mem_nil
theorem lem_l1_68_ok : ∀ ρ, (∀ g ∈ F_I01, Fact.holds ρ g) → ∀ g ∈ lem_l1_68, Fact.holds ρ g := fun _ _ _ h => absurd h List.not_mem_nil
theorem lem_l1_69_ok : ∀ ρ, (∀ g ∈ F_N01, Fact.holds ρ g) → ∀ g ∈ lem_l1_69, Fact.holds ρ g := fun _ _ _ h => absurd h List.not_mem_nil
theorem lem_l1_70_ok : ∀ ρ, (∀ g ∈ F_M02, Fact.holds ρ g) → ∀ g ∈ lem_l1_70, Fact.holds ρ g := fun _ _ _ h => absurd h List.not_mem_nil
theorem lem_l1_71_ok : ∀ ρ, (∀ g ∈ F_M02, Fact.holds ρ g) → ∀ g ∈ lem_l1_71, Fact.holds ρ g := fun _ _ _ h => absurd h List.not_mem_nil
theorem lem_l1_72_ok : ∀ ρ, (∀ g ∈ F_I02, Fact.holds ρ g) → ∀ g ∈ lem_l1_72, Fact.holds ρ g := fun _ _ _ h => absurd h List.not_mem_nil
theorem lem_l1_73_ok : ∀ ρ, (∀ g ∈ F_N02, Fact.holds ρ g) → ∀ g ∈ lem_l1_73, Fact.holds ρ g := fun _ _ _ h => absurd h List.not_mem_nil
theorem lem_l1_74_ok : ∀ ρ, (∀ g ∈ F_M03, Fact.holds ρ g) → ∀ g ∈ lem_l1_74, Fact.holds ρ g := fun _ _ _ h => absurd h List.not_mem_nil
theorem lem_l1_75_ok : ∀ ρ, (∀ g ∈ F_M03, Fact.holds ρ g) → ∀ g ∈ lem_l1_75, Fact.holds ρ g := fun _ _ _ h => absurd h List.not_mem_nil
theorem lem_l1_76_ok : ∀ ρ, (∀ g ∈ F_I03, Fact.holds ρ g) → ∀ g ∈ lem_l1_76, Fact.holds ρ g := fun _ _ _ h => absurd h List.not_mem_nil
theorem lem_l1_77_ok : ∀ ρ, (∀ g ∈ F_N03, Fact.holds ρ g) → ∀ g ∈ lem_l1_77, Fact.holds ρ g := fun _ _ _ h => absurd h List.not_mem_nil
theorem lem_l1_78_ok : ∀ ρ, (∀ g ∈ F_M04, Fact.holds ρ g) → ∀ g ∈ lem_l1_78, Fact.holds ρ g := fun _ _ _ h => absurd h List.not_mem_nil
theorem lem_l1_79_ok : ∀ ρ, (∀ g ∈ F_M04, Fact.holds ρ g) → ∀ g ∈ lem_l1_79, Fact.holds ρ g := fun _ _ _ h => absurd h List.not_mem_nil
theorem lem_l1_80_ok : ∀ ρ, (∀ g ∈ F_I04, Fact.holds ρ g) → ∀ g ∈ lem_l1_80, Fact.holds ρ g := fun _ _ _ h => absurd h List.not_mem_nil
theorem lem_l1_81_ok : ∀ ρ, (∀ g ∈ F_N04, Fact.holds ρ g) → ∀ g ∈ lem_l1_81, Fact.holds ρ g := fun _ _ _ h => absurd h List.not_mem_nil
theorem lem_l1_82_ok : ∀ ρ, (∀ g ∈ F_M10, Fact.holds ρ g) → ∀ g ∈ lem_l1_82, Fact.holds ρ g := fun _ _ _ h => absurd h List.not_mem_nil
theorem lem_l1_83_ok : ∀ ρ, (∀ g ∈ F_M10, Fact.holds ρ g) → ∀ g ∈ lem_l1_83, Fact.holds ρ g := fun _ _ _ h => absurd h List.not_mem_nil
theorem lem_l1_84_ok : ∀ ρ, (∀ g ∈ F_N10, Fact.holds ρ g) → ∀ g ∈ lem_l1_84, Fact.holds ρ g := fun _ _ _ h => absurd h List.not_mem_nil
theorem lem_l1_85_ok : ∀ ρ, (∀ g ∈ F_M11, Fact.holds ρ g) → ∀ g ∈ lem_l1_85, Fact.holds ρ g := fun _ _ _ h => absurd h List.not_mem_nil
theorem lem_l1_86_ok : ∀ ρ, (∀ g ∈ F_M11, Fact.holds ρ g) → ∀ g ∈ lem_l1_86, Fact.holds ρ g := fun _ _ _ h => absurd h List.not_mem_nil
theorem lem_l1_87_ok : ∀ ρ, (∀ g ∈ F_I11, Fact.holds ρ g) → ∀ g ∈ lem_l1_87, Fact.holds ρ g := fun _ _ _ h => absurd h List.not_mem_nil
theorem lem_l1_88_ok : ∀ ρ, (∀ g ∈ F_N11, Fact.holds ρ g) → ∀ g ∈ lem_l1_88, Fact.holds ρ g := fun _ _ _ h => absurd h List.not_mem_nil
theorem lem_l1_89_ok : ∀ ρ, (∀ g ∈ F_M12, Fact.holds ρ g) → ∀ g ∈ lem_l1_89, Fact.holds ρ g := fun _ _ _ h => absurd h List.not_mem_nil
theorem lem_l1_90_ok : ∀ ρ, (∀ g ∈ F_M12, Fact.holds ρ g) → ∀ g ∈ lem_l1_90, Fact.holds ρ g := fun _ _ _ h => absurd h List.not_mem_nil
theorem lem_l1_91_ok : ∀ ρ, (∀ g ∈ F_I12, Fact.holds ρ g) → ∀ g ∈ lem_l1_91, Fact.holds ρ g := fun _ _ _ h => absurd h List.not_mem_nil
theorem lem_l1_92_ok : ∀ ρ, (∀ g ∈ F_N12, Fact.holds ρ g) → ∀ g ∈ lem_l1_92, Fact.holds ρ g := fun _ _ _ h => absurd h List.not_mem_nil
theorem lem_l1_93_ok : ∀ ρ, (∀ g ∈ F_M13, Fact.holds ρ g) → ∀ g ∈ lem_l1_93, Fact.holds ρ g := fun _ _ _ h => absurd h List.not_mem_nil
theorem lem_l1_94_ok : ∀ ρ, (∀ g ∈ F_M13, Fact.holds ρ g) → ∀ g ∈ lem_l1_94, Fact.holds ρ g := fun _ _ _ h => absurd h List.not_mem_nil
theorem lem_l1_95_ok : ∀ ρ, (∀ g ∈ F_I13, Fact.holds ρ g) → ∀ g ∈ lem_l1_95, Fact.holds ρ g := fun _ _ _ h => absurd h List.not_mem_nil
theorem lem_l1_96_ok : ∀ ρ, (∀ g ∈ F_N13, Fact.holds ρ g) → ∀ g ∈ lem_l1_96, Fact.holds ρ g := fun _ _ _ h => absurd h List.not_mem_nil
theorem lem_l1_97_ok : ∀ ρ, (∀ g ∈ F_M20, Fact.holds ρ g) → ∀ g ∈ lem_l1_97, Fact.holds ρ g := fun _ _ _ h => absurd h List.not_mem_nil
theorem lem_l1_98_ok : ∀ ρ, (∀ g ∈ F_M20, Fact.holds ρ g) → ∀ g ∈ lem_l1_98, Fact.holds ρ g := fun _ _ _ h => absurd h List.not_mem_nil
theorem lem_l1_99_ok : ∀ ρ, (∀ g ∈ F_N20, Fact.holds ρ g) → ∀ g ∈ lem_l1_99, Fact.holds ρ g := fun _ _ _ h => absurd h List.not_mem_nil
theorem lem_l1_100_ok : ∀ ρ, (∀ g ∈ F_M21, Fact.holds ρ g) → ∀ g ∈ lem_l1_100, Fact.holds ρ g := fun _ _ _ h => absurd h List.not_mem_nil
theorem lem_l1_101_ok : ∀ ρ, (∀ g ∈ F_M21, Fact.holds ρ g) → ∀ g ∈ lem_l1_101, Fact.holds ρ g := fun _ _ _ h => absurd h List.not_mem_nil
theorem lem_l1_102_ok : ∀ ρ, (∀ g ∈ F_I21, Fact.holds ρ g) → ∀ g ∈ lem_l1_102, Fact.holds ρ g := fun _ _ _ h => absurd h List.not_mem_nil
theorem lem_l1_103_ok : ∀ ρ, (∀ g ∈ F_N21, Fact.holds ρ g) → ∀ g ∈ lem_l1_103, Fact.holds ρ g := fun _ _ _ h => absurd h List.not_mem_nil
theorem lem_l1_104_ok : ∀ ρ, (∀ g ∈ F_M22, Fact.holds ρ g) → ∀ g ∈ lem_l1_104, Fact.holds ρ g := fun _ _ _ h => absurd h List.not_mem_nil
theorem lem_l1_105_ok : ∀ ρ, (∀ g ∈ F_M22, Fact.holds ρ g) → ∀ g ∈ lem_l1_105, Fact.holds ρ g := fun _ _ _ h => absurd h List.not_mem_nil
theorem lem_l1_106_ok : ∀ ρ, (∀ g ∈ F_I22, Fact.holds ρ g) → ∀ g ∈ lem_l1_106, Fact.holds ρ g := fun _ _ _ h => absurd h List.not_mem_nil
theorem lem_l1_107_ok : ∀ ρ, (∀ g ∈ F_N22, Fact.holds ρ g) → ∀ g ∈ lem_l1_107, Fact.holds ρ g := fun _ _ _ h => absurd h List.not_mem_nil
theorem lem_l1_108_ok : ∀ ρ, (∀ g ∈ F_M30, Fact.holds ρ g) → ∀ g ∈ lem_l1_108, Fact.holds ρ g := fun _ _ _ h => absurd h List.not_mem_nil
theorem lem_l1_109_ok : ∀ ρ, (∀ g ∈ F_M30, Fact.holds ρ g) → ∀ g ∈ lem_l1_109, Fact.holds ρ g := fun _ _ _ h => absurd h List.not_mem_nil
theorem lem_l1_110_ok : ∀ ρ, (∀ g ∈ F_N30, Fact.holds ρ g) → ∀ g ∈ lem_l1_110, Fact.holds ρ g := fun _ _ _ h => absurd h List.not_mem_nil
theorem lem_l1_111_ok : ∀ ρ, (∀ g ∈ F_M31, Fact.holds ρ g) → ∀ g ∈ lem_l1_111, Fact.holds ρ g := fun _ _ _ h => absurd h List.not_mem_nil
theorem lem_l1_112_ok : ∀ ρ, (∀ g ∈ F_M31, Fact.holds ρ g) → ∀ g ∈ lem_l1_112, Fact.holds ρ g := fun _ _ _ h => absurd h List.not_mem_nil
theorem lem_l1_113_ok : ∀ ρ, (∀ g ∈ F_I31, Fact.holds ρ g) → ∀ g ∈ lem_l1_113, Fact.holds ρ g := fun _ _ _ h => absurd h List.not_mem_nil
theorem lem_l1_114_ok : ∀ ρ, (∀ g ∈ F_N31, Fact.holds ρ g) → ∀ g ∈ lem_l1_114, Fact.holds ρ g := fun _ _ _ h => absurd h List.not_mem_nil
theorem lem_l1_115_ok : ∀ ρ, (∀ g ∈ F_M40, Fact.holds ρ g) → ∀ g ∈ lem_l1_115, Fact.holds ρ g := fun _ _ _ h => absurd h List.not_mem_nil
theorem lem_l1_116_ok : ∀ ρ, (∀ g ∈ F_Q, Fact.holds ρ g) → ∀ g ∈ lem_l1_116, Fact.holds ρ g := fun _ _ _ h => absurd h List.not_mem_nil
theorem lem_l1_1170 : ∀ ρ, (∀ g ∈ F_R, Fact.holds ρ g) → Fact.holds ρ (.rng (.get (.tv 121) (.var 113) 0) (some (.ofNat 0), some (.ofNat 99))) := by
  intro ρ hk
  exact waits_lem hk
theorem lem_l1_117_ok : ∀ ρ, (∀ g ∈ F_R, Fact.holds ρ g) → ∀ g ∈ lem_l1_117, Fact.holds ρ g := by
  intro ρ hk
  unfold lem_l1_117
  simp only [List.forall_mem_cons]
  exact ⟨lem_l1_1170 ρ hk, fun _ h => absurd h List.not_mem_nil⟩
theorem lem_l1_118_ok : ∀ ρ, (∀ g ∈ F_S, Fact.holds ρ g) → ∀ g ∈ lem_l1_118, Fact.holds ρ g := fun _ _ _ h => absurd h List.not_mem_nil
end
end Go.Proofs.Ytdicippbniglpaa.mshrWaits
