/-
  'PmaMay': the executor's run in some of the cases, checked by the kernel. Printed by program.
-/
import Derived.Test.YtfncnkcjofljmaaPmaMayL
namespace Go.Proofs.Ytfncnkcjofljmaa.pmaMay
open Go.ChangeShapes Go.WideShapes Go.ChangeAt Go.RowKit Go.Sx
set_option linter.unusedVariables false
set_option linter.unusedSimpArgs false
set_option maxRecDepth 100000
theorem run0 : lawRunP Try.prog (TI.of Try.prog) (fnOf Try.prog) 400 3 Try.f3.params.toList (lem ++ [((.bin .eq (.var 2) (.lit (.ofNat 1))), true)]) = some [] := by kernel_rfl
theorem run1 : lawRunP Try.prog (TI.of Try.prog) (fnOf Try.prog) 400 3 Try.f3.params.toList (lem ++ [((.bin .eq (.var 2) (.lit (.ofNat 1))), false), ((.bin .eq (.var 2) (.lit (.ofNat 2))), true)]) = some [] := by kernel_rfl
end Go.Proofs.Ytfncnkcjofljmaa.pmaMay
