/-
  'PmaWhole': the executor's run in some of the cases, checked by the kernel. Printed by program.
-/
import Derived.Test.YtfncnkcjofljmaaPmaWholeL
namespace Go.Proofs.Ytfncnkcjofljmaa.pmaWhole
open Go.ChangeShapes Go.WideShapes Go.ChangeAt Go.RowKit Go.Sx
set_option linter.unusedVariables false
set_option linter.unusedSimpArgs false
set_option maxRecDepth 100000
theorem run4 : lawRunP Try.prog (TI.of Try.prog) (fnOf Try.prog) 400 4 Try.f4.params.toList (lem ++ [((.bin .lt (.var 1) (.lit (.ofNat 2147483648))), true), ((.bin .eq (.var 2) (.lit (.ofNat 1))), false), ((.bin .eq (.var 2) (.lit (.ofNat 2))), false), ((.bin .eq (.var 2) (.lit (.ofNat 4))), false), ((.bin .eq (.var 2) (.lit (.ofNat 8))), false)]) = some [] := by kernel_rfl
theorem ok4 : RunOk Try.prog (TI.of Try.prog) (fnOf Try.prog) 400 4 Try.f4.params.toList (lem ++ [((.bin .lt (.var 1) (.lit (.ofNat 2147483648))), true), ((.bin .eq (.var 2) (.lit (.ofNat 1))), false), ((.bin .eq (.var 2) (.lit (.ofNat 2))), false), ((.bin .eq (.var 2) (.lit (.ofNat 4))), false), ((.bin .eq (.var 2) (.lit (.ofNat 8))), false)]) := ⟨[], run4, fun _ _ _ h => absurd h List.not_mem_nil⟩
theorem run5 : lawRunP Try.prog (TI.of Try.prog) (fnOf Try.prog) 400 4 Try.f4.params.toList (lem ++ [((.bin .lt (.var 1) (.lit (.ofNat 2147483648))), false), ((.bin .lt (.var 1) (.lit (.ofNat 2148532224))), true), ((.bin .eq (.var 2) (.lit (.ofNat 1))), true)]) = some [([((.bin .lt (.bin (.sub .u64) (.bin (.add .u64) (.var 1) (.lit (.ofNat 0))) (.lit (.ofNat 2147483648))) (.bin (.mul .u64) (.bin .max (.bin .min (.var 0) (.lit (.ofNat 256))) (.lit (.ofNat 4))) (.lit (.ofNat 4096)))), false), ((.bin .eq (.var 3) (.lit (.ofNat 0))), true), ((.bin .lt (.bin (.sub .u64) (.bin (.mul .u64) (.bin .max (.bin .min (.var 0) (.lit (.ofNat 256))) (.lit (.ofNat 4))) (.lit (.ofNat 4096))) (.lit (.ofNat 1))) (.bin (.sub .u64) (.var 1) (.lit (.ofNat 2147483648)))), false), ((.bin .lt (.bin (.sub .u64) (.var 1) (.lit (.ofNat 2147483648))) (.bin (.mul .u64) (.bin .max (.bin .min (.var 0) (.lit (.ofNat 256))) (.lit (.ofNat 4))) (.lit (.ofNat 4096)))), true), ((.bin .eq (.var 2) (.lit (.ofNat 1))), true), ((.bin .lt (.var 1) (.lit (.ofNat 2148532224))), true), ((.bin .lt (.var 1) (.lit (.ofNat 2147483648))), false), ((.bin .lt (.bin (.mul .u64) (.bin .max (.bin .min (.var 0) (.lit (.ofNat 256))) (.lit (.ofNat 4))) (.lit (.ofNat 4096))) (.lit (.ofNat 1048577))), true)], (.lit (.ofNat 0))), ([((.bin .lt (.bin (.sub .u64) (.bin (.add .u64) (.var 1) (.lit (.ofNat 0))) (.lit (.ofNat 2147483648))) (.bin (.mul .u64) (.bin .max (.bin .min (.var 0) (.lit (.ofNat 256))) (.lit (.ofNat 4))) (.lit (.ofNat 4096)))), false), ((.bin .eq (.var 3) (.lit (.ofNat 1))), true), ((.bin .eq (.var 3) (.lit (.ofNat 0))), false), ((.bin .lt (.bin (.sub .u64) (.bin (.mul .u64) (.bin .max (.bin .min (.var 0) (.lit (.ofNat 256))) (.lit (.ofNat 4))) (.lit (.ofNat 4096))) (.lit (.ofNat 1))) (.bin (.sub .u64) (.var 1) (.lit (.ofNat 2147483648)))), false), ((.bin .lt (.bin (.sub .u64) (.var 1) (.lit (.ofNat 2147483648))) (.bin (.mul .u64) (.bin .max (.bin .min (.var 0) (.lit (.ofNat 256))) (.lit (.ofNat 4))) (.lit (.ofNat 4096)))), true), ((.bin .eq (.var 2) (.lit (.ofNat 1))), true), ((.bin .lt (.var 1) (.lit (.ofNat 2148532224))), true), ((.bin .lt (.var 1) (.lit (.ofNat 2147483648))), false), ((.bin .lt (.bin (.mul .u64) (.bin .max (.bin .min (.var 0) (.lit (.ofNat 256))) (.lit (.ofNat 4))) (.lit (.ofNat 4096))) (.lit (.ofNat 1048577))), true)], (.lit (.ofNat 0))), ([((.bin .lt (.bin (.sub .u64) (.bin (.add .u64) (.var 1) (.lit (.ofNat 0))) (.lit (.ofNat 2147483648))) (.bin (.mul .u64) (.bin .max (.bin .min (.var 0) (.lit (.ofNat 256))) (.lit (.ofNat 4))) (.lit (.ofNat 4096)))), false), ((.bin .eq (.var 3) (.lit (.ofNat 2))), true), ((.bin .eq (.var 3) (.lit (.ofNat 1))), false), ((.bin .eq (.var 3) (.lit (.ofNat 0))), false), ((.bin .lt (.bin (.sub .u64) (.bin (.mul .u64) (.bin .max (.bin .min (.var 0) (.lit (.ofNat 256))) (.lit (.ofNat 4))) (.lit (.ofNat 4096))) (.lit (.ofNat 1))) (.bin (.sub .u64) (.var 1) (.lit (.ofNat 2147483648)))), false), ((.bin .lt (.bin (.sub .u64) (.var 1) (.lit (.ofNat 2147483648))) (.bin (.mul .u64) (.bin .max (.bin .min (.var 0) (.lit (.ofNat 256))) (.lit (.ofNat 4))) (.lit (.ofNat 4096)))), true), ((.bin .eq (.var 2) (.lit (.ofNat 1))), true), ((.bin .lt (.var 1) (.lit (.ofNat 2148532224))), true), ((.bin .lt (.var 1) (.lit (.ofNat 2147483648))), false), ((.bin .lt (.bin (.mul .u64) (.bin .max (.bin .min (.var 0) (.lit (.ofNat 256))) (.lit (.ofNat 4))) (.lit (.ofNat 4096))) (.lit (.ofNat 1048577))), true)], (.lit (.ofNat 0)))] := by kernel_rfl
theorem ok5 : RunOk Try.prog (TI.of Try.prog) (fnOf Try.prog) 400 4 Try.f4.params.toList (lem ++ [((.bin .lt (.var 1) (.lit (.ofNat 2147483648))), false), ((.bin .lt (.var 1) (.lit (.ofNat 2148532224))), true), ((.bin .eq (.var 2) (.lit (.ofNat 1))), true)]) := by
  refine ⟨_, run5, fun ρ hin p hp => ?_⟩
  have hx := hin _ _ _ hsym
  simp only [List.mem_cons, List.not_mem_nil, or_false] at hp
  rcases hp with rfl | rfl | rfl
  · intro h
    exfalso
    have hn := nE_bd ρ
    simp only [List.forall_mem_cons, lt_ne, eq_ne, den_subI, den_addI, den_mulI, den_nE, den_var, den_lit, iff_true, Bool.false_eq_true, iff_false] at h
    omega
  · intro h
    exfalso
    have hn := nE_bd ρ
    simp only [List.forall_mem_cons, lt_ne, eq_ne, den_subI, den_addI, den_mulI, den_nE, den_var, den_lit, iff_true, Bool.false_eq_true, iff_false] at h
    omega
  · intro h
    exfalso
    have hn := nE_bd ρ
    simp only [List.forall_mem_cons, lt_ne, eq_ne, den_subI, den_addI, den_mulI, den_nE, den_var, den_lit, iff_true, Bool.false_eq_true, iff_false] at h
    omega
end Go.Proofs.Ytfncnkcjofljmaa.pmaWhole
