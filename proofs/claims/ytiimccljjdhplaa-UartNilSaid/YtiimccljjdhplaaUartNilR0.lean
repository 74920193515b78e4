/-
  'UartNil': the executor's run in some of the cases, checked by the kernel. Printed by program.
-/
import Derived.Test.YtiimccljjdhplaaUartNilL
namespace Go.Proofs.Ytiimccljjdhplaa.uartNil
open Go.ChangeShapes Go.WideShapes Go.ChangeAt Go.RowKit Go.Sx
set_option linter.unusedVariables false
set_option linter.unusedSimpArgs false
set_option maxRecDepth 100000
theorem run0 : lawRunP Try.prog (TI.of Try.prog) (fnOf Try.prog) 400 6 Try.f6.params.toList (lem ++ []) = some [] := by kernel_rfl
theorem ok0 : RunOk Try.prog (TI.of Try.prog) (fnOf Try.prog) 400 6 Try.f6.params.toList (lem ++ []) := ⟨[], run0, fun _ _ _ h => absurd h List.not_mem_nil⟩
end Go.Proofs.Ytiimccljjdhplaa.uartNil
