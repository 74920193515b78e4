/-
  'CsrKeeps': runs of its parts, checked by the kernel. Printed by program.
-/
import Derived.Test.YtlagjhnckdaonaaCsrKeepsL
namespace Go.Proofs.Ytlagjhnckdaonaa.csrKeeps
open Go.ChangeShapes Go.WideShapes Go.ChangeAt Go.RowKit Go.Sx
set_option linter.unusedVariables false
set_option linter.unusedSimpArgs false
set_option maxRecDepth 100000
theorem goodL_7 : GoodP (TI.of Try.prog) (fnOf Try.prog) mbl 400 Try.f11 (flat (loopBody (flat (bodyOf Try.f11)) 5)) (factsL ++ lemL) T.toS (some T) factsL (some (100, 200)) (some (0, TE)) factsE [((.get (.tv 0) (.var 100) 4), true), ((.bin .lt (.un (.wrap .i64) (.get (.tv 0) (.var 100) 0)) (.lit (257))), false), ((.bin .lt (.un (.wrap .i64) (.get (.tv 0) (.var 100) 0)) (.lit (261))), false), ((.bin .lt (.un (.wrap .i64) (.get (.tv 0) (.var 100) 0)) (.lit (262))), false), ((.bin .lt (.un (.wrap .i64) (.get (.tv 0) (.var 100) 0)) (.lit (320))), false), ((.bin .lt (.un (.wrap .i64) (.get (.tv 0) (.var 100) 0)) (.lit (321))), false), ((.bin .lt (.un (.wrap .i64) (.get (.tv 0) (.var 100) 0)) (.lit (323))), false), ((.bin .lt (.un (.wrap .i64) (.get (.tv 0) (.var 100) 0)) (.lit (325))), false), ((.bin .lt (.un (.wrap .i64) (.get (.tv 0) (.var 100) 0)) (.lit (385))), true)] := ⟨[], by kernel_rfl, fun ρ _ ob h => absurd h List.not_mem_nil⟩
end Go.Proofs.Ytlagjhnckdaonaa.csrKeeps
