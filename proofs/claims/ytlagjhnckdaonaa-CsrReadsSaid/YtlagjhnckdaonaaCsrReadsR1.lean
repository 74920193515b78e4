/-
  'CsrReads': the executor's run in some of the cases, checked by the kernel. Printed by program.
-/
import Derived.Test.YtlagjhnckdaonaaCsrReadsL
namespace Go.Proofs.Ytlagjhnckdaonaa.csrReads
open Go.ChangeShapes Go.WideShapes Go.ChangeAt Go.RowKit Go.Sx
set_option linter.unusedVariables false
set_option linter.unusedSimpArgs false
set_option maxRecDepth 100000
theorem run3 : lawRunP Try.prog (TI.of Try.prog) (fnOf Try.prog) 400 3 Try.f3.params.toList (lem ++ [((.bin .lt (.var 30) (.lit (.ofNat 325))), false), ((.bin .lt (.var 30) (.lit (.ofNat 803))), false), ((.bin .lt (.var 30) (.lit (.ofNat 2816))), false), ((.bin .lt (.var 30) (.lit (.ofNat 3072))), true)]) = some [] := by kernel_rfl
theorem run4 : lawRunP Try.prog (TI.of Try.prog) (fnOf Try.prog) 400 3 Try.f3.params.toList (lem ++ [((.bin .lt (.var 30) (.lit (.ofNat 325))), false), ((.bin .lt (.var 30) (.lit (.ofNat 803))), false), ((.bin .lt (.var 30) (.lit (.ofNat 2816))), false), ((.bin .lt (.var 30) (.lit (.ofNat 3072))), false), ((.bin .eq (.var 30) (.lit (.ofNat 3072))), true)]) = some [] := by kernel_rfl
theorem run5 : lawRunP Try.prog (TI.of Try.prog) (fnOf Try.prog) 400 3 Try.f3.params.toList (lem ++ [((.bin .lt (.var 30) (.lit (.ofNat 325))), false), ((.bin .lt (.var 30) (.lit (.ofNat 803))), false), ((.bin .lt (.var 30) (.lit (.ofNat 2816))), false), ((.bin .lt (.var 30) (.lit (.ofNat 3072))), false), ((.bin .eq (.var 30) (.lit (.ofNat 3072))), false), ((.bin .eq (.var 30) (.lit (.ofNat 3073))), true)]) = some [] := by kernel_rfl
end Go.Proofs.Ytlagjhnckdaonaa.csrReads
