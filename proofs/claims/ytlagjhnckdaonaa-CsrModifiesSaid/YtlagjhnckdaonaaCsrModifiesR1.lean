/-
  'CsrModifies': the executor's run in some of the cases, checked by the kernel. Printed by program.
-/
import Derived.Test.YtlagjhnckdaonaaCsrModifiesL
namespace Go.Proofs.Ytlagjhnckdaonaa.csrModifies
open Go.ChangeShapes Go.WideShapes Go.ChangeAt Go.RowKit Go.Sx
set_option linter.unusedVariables false
set_option linter.unusedSimpArgs false
set_option maxRecDepth 100000
theorem run3 : lawRunP Try.prog (TI.of Try.prog) (fnOf Try.prog) 400 10 Try.f10.params.toList (lem ++ [((.bin .lt (.var 30) (.lit (.ofNat 262))), false), ((.bin .lt (.var 30) (.lit (.ofNat 323))), false), ((.bin .lt (.var 30) (.lit (.ofNat 384))), false), ((.bin .lt (.var 30) (.lit (.ofNat 769))), true)]) = some [] := by kernel_rfl
theorem run4 : lawRunP Try.prog (TI.of Try.prog) (fnOf Try.prog) 400 10 Try.f10.params.toList (lem ++ [((.bin .lt (.var 30) (.lit (.ofNat 262))), false), ((.bin .lt (.var 30) (.lit (.ofNat 323))), false), ((.bin .lt (.var 30) (.lit (.ofNat 384))), false), ((.bin .lt (.var 30) (.lit (.ofNat 769))), false), ((.bin .lt (.var 30) (.lit (.ofNat 772))), true)]) = some [] := by kernel_rfl
theorem run5 : lawRunP Try.prog (TI.of Try.prog) (fnOf Try.prog) 400 10 Try.f10.params.toList (lem ++ [((.bin .lt (.var 30) (.lit (.ofNat 262))), false), ((.bin .lt (.var 30) (.lit (.ofNat 323))), false), ((.bin .lt (.var 30) (.lit (.ofNat 384))), false), ((.bin .lt (.var 30) (.lit (.ofNat 769))), false), ((.bin .lt (.var 30) (.lit (.ofNat 772))), false), ((.bin .lt (.var 30) (.lit (.ofNat 775))), true)]) = some [] := by kernel_rfl
end Go.Proofs.Ytlagjhnckdaonaa.csrModifies
