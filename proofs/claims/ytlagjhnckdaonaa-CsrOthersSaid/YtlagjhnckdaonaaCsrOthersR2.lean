/-
  'CsrOthers': the executor's run in some of the cases, checked by the kernel. Printed by program.
-/
import Derived.Test.YtlagjhnckdaonaaCsrOthersL
namespace Go.Proofs.Ytlagjhnckdaonaa.csrOthers
open Go.ChangeShapes Go.WideShapes Go.ChangeAt Go.RowKit Go.Sx
set_option linter.unusedVariables false
set_option linter.unusedSimpArgs false
set_option maxRecDepth 100000
theorem run6 : lawRunP Try.prog (TI.of Try.prog) (fnOf Try.prog) 400 8 Try.f8.params.toList (lem ++ [((.bin .lt (.var 30) (.lit (.ofNat 256))), false), ((.bin .lt (.var 30) (.lit (.ofNat 257))), false), ((.bin .lt (.var 30) (.lit (.ofNat 261))), false), ((.bin .lt (.var 30) (.lit (.ofNat 262))), false), ((.bin .lt (.var 30) (.lit (.ofNat 263))), false), ((.bin .lt (.var 30) (.lit (.ofNat 321))), false), ((.bin .lt (.var 30) (.lit (.ofNat 322))), true)]) = some [] := by kernel_rfl
theorem run7 : lawRunP Try.prog (TI.of Try.prog) (fnOf Try.prog) 400 8 Try.f8.params.toList (lem ++ [((.bin .lt (.var 30) (.lit (.ofNat 256))), false), ((.bin .lt (.var 30) (.lit (.ofNat 257))), false), ((.bin .lt (.var 30) (.lit (.ofNat 261))), false), ((.bin .lt (.var 30) (.lit (.ofNat 262))), false), ((.bin .lt (.var 30) (.lit (.ofNat 263))), false), ((.bin .lt (.var 30) (.lit (.ofNat 321))), false), ((.bin .lt (.var 30) (.lit (.ofNat 322))), false), ((.bin .lt (.var 30) (.lit (.ofNat 323))), true)]) = some [] := by kernel_rfl
theorem run8 : lawRunP Try.prog (TI.of Try.prog) (fnOf Try.prog) 400 8 Try.f8.params.toList (lem ++ [((.bin .lt (.var 30) (.lit (.ofNat 256))), false), ((.bin .lt (.var 30) (.lit (.ofNat 257))), false), ((.bin .lt (.var 30) (.lit (.ofNat 261))), false), ((.bin .lt (.var 30) (.lit (.ofNat 262))), false), ((.bin .lt (.var 30) (.lit (.ofNat 263))), false), ((.bin .lt (.var 30) (.lit (.ofNat 321))), false), ((.bin .lt (.var 30) (.lit (.ofNat 322))), false), ((.bin .lt (.var 30) (.lit (.ofNat 323))), false), ((.bin .lt (.var 30) (.lit (.ofNat 324))), true)]) = some [] := by kernel_rfl
end Go.Proofs.Ytlagjhnckdaonaa.csrOthers
