/-
  'CsrBack': runs of its parts, checked by the kernel. Printed by program.
-/
import Derived.Test.YtlagjhnckdaonaaCsrBackL
namespace Go.Proofs.Ytlagjhnckdaonaa.csrBack
open Go.ChangeShapes Go.WideShapes Go.ChangeAt Go.RowKit Go.Sx
set_option linter.unusedVariables false
set_option linter.unusedSimpArgs false
set_option maxRecDepth 100000
theorem goodL_14 : GoodP (TI.of Try.prog) (fnOf Try.prog) 400 Try.f12 (flat (loopBody (flat (bodyOf Try.f12)) 5)) (factsL ++ lemL) T.toS (some T) factsL (some (100, 40)) (some (0, TE)) factsE [((.get (.tv 0) (.var 100) 4), false), ((.bin .lt (.un (.wrap .i64) (.get (.tv 0) (.var 100) 0)) (.lit (257))), true)] := ⟨[], by kernel_rfl, fun ρ _ ob h => absurd h List.not_mem_nil⟩
theorem goodL_15 : GoodP (TI.of Try.prog) (fnOf Try.prog) 400 Try.f12 (flat (loopBody (flat (bodyOf Try.f12)) 5)) (factsL ++ lemL) T.toS (some T) factsL (some (100, 40)) (some (0, TE)) factsE [((.get (.tv 0) (.var 100) 4), false), ((.bin .lt (.un (.wrap .i64) (.get (.tv 0) (.var 100) 0)) (.lit (257))), false), ((.bin .lt (.un (.wrap .i64) (.get (.tv 0) (.var 100) 0)) (.lit (320))), true)] := ⟨[], by kernel_rfl, fun ρ _ ob h => absurd h List.not_mem_nil⟩
theorem goodL_16 : GoodP (TI.of Try.prog) (fnOf Try.prog) 400 Try.f12 (flat (loopBody (flat (bodyOf Try.f12)) 5)) (factsL ++ lemL) T.toS (some T) factsL (some (100, 40)) (some (0, TE)) factsE [((.get (.tv 0) (.var 100) 4), false), ((.bin .lt (.un (.wrap .i64) (.get (.tv 0) (.var 100) 0)) (.lit (257))), false), ((.bin .lt (.un (.wrap .i64) (.get (.tv 0) (.var 100) 0)) (.lit (320))), false), ((.bin .lt (.un (.wrap .i64) (.get (.tv 0) (.var 100) 0)) (.lit (322))), true)] := ⟨[], by kernel_rfl, fun ρ _ ob h => absurd h List.not_mem_nil⟩
theorem goodL_17 : GoodP (TI.of Try.prog) (fnOf Try.prog) 400 Try.f12 (flat (loopBody (flat (bodyOf Try.f12)) 5)) (factsL ++ lemL) T.toS (some T) factsL (some (100, 40)) (some (0, TE)) factsE [((.get (.tv 0) (.var 100) 4), false), ((.bin .lt (.un (.wrap .i64) (.get (.tv 0) (.var 100) 0)) (.lit (257))), false), ((.bin .lt (.un (.wrap .i64) (.get (.tv 0) (.var 100) 0)) (.lit (320))), false), ((.bin .lt (.un (.wrap .i64) (.get (.tv 0) (.var 100) 0)) (.lit (322))), false), ((.bin .lt (.un (.wrap .i64) (.get (.tv 0) (.var 100) 0)) (.lit (325))), true)] := ⟨[], by kernel_rfl, fun ρ _ ob h => absurd h List.not_mem_nil⟩
end Go.Proofs.Ytlagjhnckdaonaa.csrBack
