/-
  'CsrHigher': the executor's run in some of the cases, checked by the kernel. Printed by program.
-/
import Derived.Test.YtlagjhnckdaonaaCsrHigherL
namespace Go.Proofs.Ytlagjhnckdaonaa.csrHigher
open Go.ChangeShapes Go.WideShapes Go.ChangeAt Go.RowKit Go.Sx
set_option linter.unusedVariables false
set_option linter.unusedSimpArgs false
set_option maxRecDepth 100000
theorem run2 : lawRunP Try.prog (TI.of Try.prog) (fnOf Try.prog) 400 6 Try.f6.params.toList (lem ++ [((.bin .lt (.var 30) (.lit (.ofNat 320))), false), ((.bin .lt (.var 30) (.lit (.ofNat 768))), false), ((.bin .lt (.var 30) (.lit (.ofNat 803))), true)]) = some [] := by kernel_rfl
theorem run3 : lawRunP Try.prog (TI.of Try.prog) (fnOf Try.prog) 400 6 Try.f6.params.toList (lem ++ [((.bin .lt (.var 30) (.lit (.ofNat 320))), false), ((.bin .lt (.var 30) (.lit (.ofNat 768))), false), ((.bin .lt (.var 30) (.lit (.ofNat 803))), false), ((.bin .lt (.var 30) (.lit (.ofNat 2816))), true)]) = some [] := by kernel_rfl
end Go.Proofs.Ytlagjhnckdaonaa.csrHigher
