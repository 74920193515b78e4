/-
  'CsrViews': the executor's run in some of the cases, checked by the kernel. Printed by program.
-/
import Derived.Test.YtlagjhnckdaonaaCsrViewsL
namespace Go.Proofs.Ytlagjhnckdaonaa.csrViews
open Go.ChangeShapes Go.WideShapes Go.ChangeAt Go.RowKit Go.Sx
set_option linter.unusedVariables false
set_option linter.unusedSimpArgs false
set_option maxRecDepth 100000
theorem run0 : lawRunP Try.prog (TI.of Try.prog) (fnOf Try.prog) 400 5 Try.f5.params.toList (lem ++ [((.bin .eq (.bin .rem (.un (.wrap .u64) (.var 40)) (.lit (.ofNat 7))) (.lit (.ofNat 0))), true)]) = some [] := by kernel_rfl
theorem run1 : lawRunP Try.prog (TI.of Try.prog) (fnOf Try.prog) 400 5 Try.f5.params.toList (lem ++ [((.bin .eq (.bin .rem (.un (.wrap .u64) (.var 40)) (.lit (.ofNat 7))) (.lit (.ofNat 0))), false), ((.bin .eq (.bin .rem (.un (.wrap .u64) (.var 40)) (.lit (.ofNat 7))) (.lit (.ofNat 1))), true)]) = some [] := by kernel_rfl
theorem run2 : lawRunP Try.prog (TI.of Try.prog) (fnOf Try.prog) 400 5 Try.f5.params.toList (lem ++ [((.bin .eq (.bin .rem (.un (.wrap .u64) (.var 40)) (.lit (.ofNat 7))) (.lit (.ofNat 0))), false), ((.bin .eq (.bin .rem (.un (.wrap .u64) (.var 40)) (.lit (.ofNat 7))) (.lit (.ofNat 1))), false), ((.bin .eq (.bin .rem (.un (.wrap .u64) (.var 40)) (.lit (.ofNat 7))) (.lit (.ofNat 2))), true)]) = some [] := by kernel_rfl
theorem run3 : lawRunP Try.prog (TI.of Try.prog) (fnOf Try.prog) 400 5 Try.f5.params.toList (lem ++ [((.bin .eq (.bin .rem (.un (.wrap .u64) (.var 40)) (.lit (.ofNat 7))) (.lit (.ofNat 0))), false), ((.bin .eq (.bin .rem (.un (.wrap .u64) (.var 40)) (.lit (.ofNat 7))) (.lit (.ofNat 1))), false), ((.bin .eq (.bin .rem (.un (.wrap .u64) (.var 40)) (.lit (.ofNat 7))) (.lit (.ofNat 2))), false), ((.bin .eq (.bin .rem (.un (.wrap .u64) (.var 40)) (.lit (.ofNat 7))) (.lit (.ofNat 3))), true)]) = some [] := by kernel_rfl
end Go.Proofs.Ytlagjhnckdaonaa.csrViews
