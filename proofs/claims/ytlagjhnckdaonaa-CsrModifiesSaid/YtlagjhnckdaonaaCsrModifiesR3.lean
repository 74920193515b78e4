/-
  'CsrModifies': the executor's run in some of the cases, checked by the kernel. Printed by program.
-/
import Derived.Test.YtlagjhnckdaonaaCsrModifiesL
namespace Go.Proofs.Ytlagjhnckdaonaa.csrModifies
open Go.ChangeShapes Go.WideShapes Go.ChangeAt Go.RowKit Go.Sx
set_option linter.unusedVariables false
set_option linter.unusedSimpArgs false
set_option maxRecDepth 100000
theorem run9 : lawRunP Try.prog (TI.of Try.prog) (fnOf Try.prog) 400 10 Try.f10.params.toList (lem ++ [((.bin .lt (.var 30) (.lit (.ofNat 262))), false), ((.bin .lt (.var 30) (.lit (.ofNat 323))), false), ((.bin .lt (.var 30) (.lit (.ofNat 384))), false), ((.bin .lt (.var 30) (.lit (.ofNat 769))), false), ((.bin .lt (.var 30) (.lit (.ofNat 772))), false), ((.bin .lt (.var 30) (.lit (.ofNat 775))), false), ((.bin .lt (.var 30) (.lit (.ofNat 803))), false), ((.bin .lt (.var 30) (.lit (.ofNat 807))), false), ((.bin .lt (.var 30) (.lit (.ofNat 834))), false), ((.bin .lt (.var 30) (.lit (.ofNat 837))), true)]) = some [] := by kernel_rfl
theorem run10 : lawRunP Try.prog (TI.of Try.prog) (fnOf Try.prog) 400 10 Try.f10.params.toList (lem ++ [((.bin .lt (.var 30) (.lit (.ofNat 262))), false), ((.bin .lt (.var 30) (.lit (.ofNat 323))), false), ((.bin .lt (.var 30) (.lit (.ofNat 384))), false), ((.bin .lt (.var 30) (.lit (.ofNat 769))), false), ((.bin .lt (.var 30) (.lit (.ofNat 772))), false), ((.bin .lt (.var 30) (.lit (.ofNat 775))), false), ((.bin .lt (.var 30) (.lit (.ofNat 803))), false), ((.bin .lt (.var 30) (.lit (.ofNat 807))), false), ((.bin .lt (.var 30) (.lit (.ofNat 834))), false), ((.bin .lt (.var 30) (.lit (.ofNat 837))), false), ((.bin .lt (.var 30) (.lit (.ofNat 2816))), true)]) = some [] := by kernel_rfl
theorem run11 : lawRunP Try.prog (TI.of Try.prog) (fnOf Try.prog) 400 10 Try.f10.params.toList (lem ++ [((.bin .lt (.var 30) (.lit (.ofNat 262))), false), ((.bin .lt (.var 30) (.lit (.ofNat 323))), false), ((.bin .lt (.var 30) (.lit (.ofNat 384))), false), ((.bin .lt (.var 30) (.lit (.ofNat 769))), false), ((.bin .lt (.var 30) (.lit (.ofNat 772))), false), ((.bin .lt (.var 30) (.lit (.ofNat 775))), false), ((.bin .lt (.var 30) (.lit (.ofNat 803))), false), ((.bin .lt (.var 30) (.lit (.ofNat 807))), false), ((.bin .lt (.var 30) (.lit (.ofNat 834))), false), ((.bin .lt (.var 30) (.lit (.ofNat 837))), false), ((.bin .lt (.var 30) (.lit (.ofNat 2816))), false), ((.bin .lt (.var 30) (.lit (.ofNat 2819))), true)]) = some [] := by kernel_rfl
end Go.Proofs.Ytlagjhnckdaonaa.csrModifies
