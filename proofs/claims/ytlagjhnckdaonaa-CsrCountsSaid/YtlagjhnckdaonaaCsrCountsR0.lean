/-
  'CsrCounts': the executor's run in some of the cases, checked by the kernel. Printed by program.
-/
import Derived.Test.YtlagjhnckdaonaaCsrCountsL
namespace Go.Proofs.Ytlagjhnckdaonaa.csrCounts
open Go.ChangeShapes Go.WideShapes Go.ChangeAt Go.RowKit Go.Sx
set_option linter.unusedVariables false
set_option linter.unusedSimpArgs false
set_option maxRecDepth 100000
theorem run0 : lawRunP Try.prog (TI.of Try.prog) (fnOf Try.prog) 400 9 Try.f9.params.toList (lem ++ []) = some [([((.bin .eq (.bin (.and .u64) (.var 18) (.lit (.ofNat 4))) (.lit (.ofNat 0))), false), ((.bin .eq (.bin (.and .u64) (.bin (.shr .u64) (.var 18) (.lit (.ofNat 2))) (.lit (.ofNat 1))) (.lit (.ofNat 0))), true), ((.var 41), false), ((.var 40), true), ((.bin .eq (.bin (.and .u64) (.var 18) (.lit (.ofNat 1))) (.lit (.ofNat 0))), false), ((.bin .eq (.bin (.sub .u64) (.bin (.add .u64) (.var 30) (.var 20)) (.var 21)) (.bin (.add .u64) (.var 20) (.bin (.sub .u64) (.var 30) (.var 21)))), true)], (.ite (.bin .eq (.bin (.add .u64) (.var 19) (.lit (.ofNat 1))) (.var 19)) (.lit (.ofNat 1)) (.lit (.ofNat 0)))), ([((.bin .eq (.bin (.and .u64) (.var 18) (.lit (.ofNat 4))) (.lit (.ofNat 0))), true), ((.bin .eq (.bin (.and .u64) (.bin (.shr .u64) (.var 18) (.lit (.ofNat 2))) (.lit (.ofNat 1))) (.lit (.ofNat 0))), false), ((.var 41), false), ((.var 40), true), ((.bin .eq (.bin (.and .u64) (.var 18) (.lit (.ofNat 1))) (.lit (.ofNat 0))), false), ((.bin .eq (.bin (.sub .u64) (.bin (.add .u64) (.var 30) (.var 20)) (.var 21)) (.bin (.add .u64) (.var 20) (.bin (.sub .u64) (.var 30) (.var 21)))), true)], (.ite (.bin .eq (.var 19) (.bin (.add .u64) (.var 19) (.lit (.ofNat 1)))) (.lit (.ofNat 1)) (.lit (.ofNat 0)))), ([((.bin .eq (.bin (.and .u64) (.var 18) (.lit (.ofNat 4))) (.lit (.ofNat 0))), false), ((.bin .eq (.bin (.and .u64) (.bin (.shr .u64) (.var 18) (.lit (.ofNat 2))) (.lit (.ofNat 1))) (.lit (.ofNat 0))), true), ((.var 41), false), ((.var 40), true), ((.bin .eq (.bin (.and .u64) (.var 18) (.lit (.ofNat 1))) (.lit (.ofNat 0))), true), ((.bin .eq (.bin (.sub .u64) (.bin (.add .u64) (.var 30) (.var 20)) (.var 21)) (.bin (.add .u64) (.var 20) (.bin (.sub .u64) (.var 30) (.var 21)))), true)], (.ite (.bin .eq (.bin (.add .u64) (.var 19) (.lit (.ofNat 1))) (.var 19)) (.lit (.ofNat 1)) (.lit (.ofNat 0)))), ([((.bin .eq (.bin (.and .u64) (.var 18) (.lit (.ofNat 4))) (.lit (.ofNat 0))), true), ((.bin .eq (.bin (.and .u64) (.bin (.shr .u64) (.var 18) (.lit (.ofNat 2))) (.lit (.ofNat 1))) (.lit (.ofNat 0))), false), ((.var 41), false), ((.var 40), true), ((.bin .eq (.bin (.and .u64) (.var 18) (.lit (.ofNat 1))) (.lit (.ofNat 0))), true), ((.bin .eq (.bin (.sub .u64) (.bin (.add .u64) (.var 30) (.var 20)) (.var 21)) (.bin (.add .u64) (.var 20) (.bin (.sub .u64) (.var 30) (.var 21)))), true)], (.ite (.bin .eq (.var 19) (.bin (.add .u64) (.var 19) (.lit (.ofNat 1)))) (.lit (.ofNat 1)) (.lit (.ofNat 0))))] := by kernel_rfl
theorem ok0 : RunOk Try.prog (TI.of Try.prog) (fnOf Try.prog) 400 9 Try.f9.params.toList (lem ++ []) := by
  refine ⟨_, run0, fun ρ hin p hp => ?_⟩
  have hx := hin _ _ _ hsym
  simp only [List.mem_cons, List.not_mem_nil, or_false] at hp
  rcases hp with rfl | rfl | rfl | rfl
  · intro h
    exfalso
    have h1 := eq_iff.1 (h _ (List.mem_cons_self ..))
    have h2 := eq_iff.1 (h _ (List.mem_cons_of_mem _ (List.mem_cons_self ..)))
    have e1 : E.den ρ (.bin (.and .u64) (.var 18) (.lit (.ofNat 4))) = 0 ↔ E.den ρ (.bin (.and .u64) (.bin (.shr .u64) (.var 18) (.lit (.ofNat 2))) (.lit (.ofNat 1))) = 0 := and4 (ρ.v 18) (x18 ρ hx)
    have l0 : E.den ρ (.lit (.ofNat 0)) = 0 := rfl
    rw [l0] at h1 h2
    rw [e1, h2] at h1
    exact absurd h1 (by decide)
  · intro h
    exfalso
    have h1 := eq_iff.1 (h _ (List.mem_cons_self ..))
    have h2 := eq_iff.1 (h _ (List.mem_cons_of_mem _ (List.mem_cons_self ..)))
    have e1 : E.den ρ (.bin (.and .u64) (.var 18) (.lit (.ofNat 4))) = 0 ↔ E.den ρ (.bin (.and .u64) (.bin (.shr .u64) (.var 18) (.lit (.ofNat 2))) (.lit (.ofNat 1))) = 0 := and4 (ρ.v 18) (x18 ρ hx)
    have l0 : E.den ρ (.lit (.ofNat 0)) = 0 := rfl
    rw [l0] at h1 h2
    rw [e1, h2] at h1
    exact absurd h1 (by decide)
  · intro h
    exfalso
    have h1 := eq_iff.1 (h _ (List.mem_cons_self ..))
    have h2 := eq_iff.1 (h _ (List.mem_cons_of_mem _ (List.mem_cons_self ..)))
    have e1 : E.den ρ (.bin (.and .u64) (.var 18) (.lit (.ofNat 4))) = 0 ↔ E.den ρ (.bin (.and .u64) (.bin (.shr .u64) (.var 18) (.lit (.ofNat 2))) (.lit (.ofNat 1))) = 0 := and4 (ρ.v 18) (x18 ρ hx)
    have l0 : E.den ρ (.lit (.ofNat 0)) = 0 := rfl
    rw [l0] at h1 h2
    rw [e1, h2] at h1
    exact absurd h1 (by decide)
  · intro h
    exfalso
    have h1 := eq_iff.1 (h _ (List.mem_cons_self ..))
    have h2 := eq_iff.1 (h _ (List.mem_cons_of_mem _ (List.mem_cons_self ..)))
    have e1 : E.den ρ (.bin (.and .u64) (.var 18) (.lit (.ofNat 4))) = 0 ↔ E.den ρ (.bin (.and .u64) (.bin (.shr .u64) (.var 18) (.lit (.ofNat 2))) (.lit (.ofNat 1))) = 0 := and4 (ρ.v 18) (x18 ρ hx)
    have l0 : E.den ρ (.lit (.ofNat 0)) = 0 := rfl
    rw [l0] at h1 h2
    rw [e1, h2] at h1
    exact absurd h1 (by decide)
end Go.Proofs.Ytlagjhnckdaonaa.csrCounts
