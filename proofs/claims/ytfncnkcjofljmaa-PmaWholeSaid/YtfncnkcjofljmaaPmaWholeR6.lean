/-
  'PmaWhole': the executor's run in some of the cases, checked by the kernel. Printed by program.
-/
import Derived.Test.YtfncnkcjofljmaaPmaWholeL
namespace Go.Proofs.Ytfncnkcjofljmaa.pmaWhole
open Go.ChangeShapes Go.WideShapes Go.ChangeAt Go.RowKit Go.Sx
set_option linter.unusedVariables false
set_option linter.unusedSimpArgs false
set_option maxRecDepth 100000
theorem run12 : lawRunP Try.prog (TI.of Try.prog) (fnOf Try.prog) 400 4 Try.f4.params.toList (lem ++ [((.bin .lt (.var 1) (.lit (.ofNat 2147483648))), false), ((.bin .lt (.var 1) (.lit (.ofNat 2148532224))), false), ((.bin .eq (.var 2) (.lit (.ofNat 1))), false), ((.bin .eq (.var 2) (.lit (.ofNat 2))), false), ((.bin .eq (.var 2) (.lit (.ofNat 4))), true)]) = some [] := by kernel_rfl
theorem ok12 : RunOk Try.prog (TI.of Try.prog) (fnOf Try.prog) 400 4 Try.f4.params.toList (lem ++ [((.bin .lt (.var 1) (.lit (.ofNat 2147483648))), false), ((.bin .lt (.var 1) (.lit (.ofNat 2148532224))), false), ((.bin .eq (.var 2) (.lit (.ofNat 1))), false), ((.bin .eq (.var 2) (.lit (.ofNat 2))), false), ((.bin .eq (.var 2) (.lit (.ofNat 4))), true)]) := ⟨[], run12, fun _ _ _ h => absurd h List.not_mem_nil⟩
theorem run13 : lawRunP Try.prog (TI.of Try.prog) (fnOf Try.prog) 400 4 Try.f4.params.toList (lem ++ [((.bin .lt (.var 1) (.lit (.ofNat 2147483648))), false), ((.bin .lt (.var 1) (.lit (.ofNat 2148532224))), false), ((.bin .eq (.var 2) (.lit (.ofNat 1))), false), ((.bin .eq (.var 2) (.lit (.ofNat 2))), false), ((.bin .eq (.var 2) (.lit (.ofNat 4))), false), ((.bin .eq (.var 2) (.lit (.ofNat 8))), true)]) = some [] := by kernel_rfl
theorem ok13 : RunOk Try.prog (TI.of Try.prog) (fnOf Try.prog) 400 4 Try.f4.params.toList (lem ++ [((.bin .lt (.var 1) (.lit (.ofNat 2147483648))), false), ((.bin .lt (.var 1) (.lit (.ofNat 2148532224))), false), ((.bin .eq (.var 2) (.lit (.ofNat 1))), false), ((.bin .eq (.var 2) (.lit (.ofNat 2))), false), ((.bin .eq (.var 2) (.lit (.ofNat 4))), false), ((.bin .eq (.var 2) (.lit (.ofNat 8))), true)]) := ⟨[], run13, fun _ _ _ h => absurd h List.not_mem_nil⟩
end Go.Proofs.Ytfncnkcjofljmaa.pmaWhole
