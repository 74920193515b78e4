/-
  'HazardTells': the executor's run in some of the cases, checked by the kernel. Printed by program.
-/
import Derived.Test.YtgjdhgmnkgbhiaaHazardTellsL
namespace Go.Proofs.Ytgjdhgmnkgbhiaa.hazardTells
open Go.ChangeShapes Go.WideShapes Go.ChangeAt Go.RowKit Go.Sx
set_option linter.unusedVariables false
set_option linter.unusedSimpArgs false
set_option maxRecDepth 100000
theorem run2 : lawRunP Try.prog (TI.of Try.prog) (fnOf Try.prog) 400 4 Try.f4.params.toList (lem ++ [((.bin .eq (.var 0) (.lit (.ofNat 0))), false), ((.bin .eq (.var 1) (.lit (.ofNat 0))), true)]) = some [] := by kernel_rfl
theorem run3 : lawRunP Try.prog (TI.of Try.prog) (fnOf Try.prog) 400 4 Try.f4.params.toList (lem ++ [((.bin .eq (.var 0) (.lit (.ofNat 0))), false), ((.bin .eq (.var 1) (.lit (.ofNat 0))), false)]) = some [] := by kernel_rfl
end Go.Proofs.Ytgjdhgmnkgbhiaa.hazardTells
