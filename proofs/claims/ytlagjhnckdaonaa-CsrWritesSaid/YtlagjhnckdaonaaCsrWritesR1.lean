/-
  'CsrWrites': the executor's run in some of the cases, checked by the kernel. Printed by program.
-/
import Derived.Test.YtlagjhnckdaonaaCsrWritesL
namespace Go.Proofs.Ytlagjhnckdaonaa.csrWrites
open Go.ChangeShapes Go.WideShapes Go.ChangeAt Go.RowKit Go.Sx
set_option linter.unusedVariables false
set_option linter.unusedSimpArgs false
set_option maxRecDepth 100000
theorem run4 : lawRunP Try.prog (TI.of Try.prog) (fnOf Try.prog) 400 4 Try.f4.params.toList (lem ++ [((.bin .lt (.var 30) (.lit (.ofNat 320))), false), ((.bin .lt (.var 30) (.lit (.ofNat 325))), false), ((.bin .lt (.var 30) (.lit (.ofNat 768))), false), ((.bin .lt (.var 30) (.lit (.ofNat 772))), false), ((.bin .lt (.var 30) (.lit (.ofNat 803))), true)]) = some [] := by kernel_rfl
theorem run5 : lawRunP Try.prog (TI.of Try.prog) (fnOf Try.prog) 400 4 Try.f4.params.toList (lem ++ [((.bin .lt (.var 30) (.lit (.ofNat 320))), false), ((.bin .lt (.var 30) (.lit (.ofNat 325))), false), ((.bin .lt (.var 30) (.lit (.ofNat 768))), false), ((.bin .lt (.var 30) (.lit (.ofNat 772))), false), ((.bin .lt (.var 30) (.lit (.ofNat 803))), false), ((.bin .lt (.var 30) (.lit (.ofNat 807))), true)]) = some [] := by kernel_rfl
theorem run6 : lawRunP Try.prog (TI.of Try.prog) (fnOf Try.prog) 400 4 Try.f4.params.toList (lem ++ [((.bin .lt (.var 30) (.lit (.ofNat 320))), false), ((.bin .lt (.var 30) (.lit (.ofNat 325))), false), ((.bin .lt (.var 30) (.lit (.ofNat 768))), false), ((.bin .lt (.var 30) (.lit (.ofNat 772))), false), ((.bin .lt (.var 30) (.lit (.ofNat 803))), false), ((.bin .lt (.var 30) (.lit (.ofNat 807))), false), ((.bin .lt (.var 30) (.lit (.ofNat 837))), true)]) = some [] := by kernel_rfl
theorem run7 : lawRunP Try.prog (TI.of Try.prog) (fnOf Try.prog) 400 4 Try.f4.params.toList (lem ++ [((.bin .lt (.var 30) (.lit (.ofNat 320))), false), ((.bin .lt (.var 30) (.lit (.ofNat 325))), false), ((.bin .lt (.var 30) (.lit (.ofNat 768))), false), ((.bin .lt (.var 30) (.lit (.ofNat 772))), false), ((.bin .lt (.var 30) (.lit (.ofNat 803))), false), ((.bin .lt (.var 30) (.lit (.ofNat 807))), false), ((.bin .lt (.var 30) (.lit (.ofNat 837))), false), ((.bin .lt (.var 30) (.lit (.ofNat 2816))), true)]) = some [] := by kernel_rfl
end Go.Proofs.Ytlagjhnckdaonaa.csrWrites
