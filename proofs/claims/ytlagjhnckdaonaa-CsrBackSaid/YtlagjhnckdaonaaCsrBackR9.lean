/-
  'CsrBack': runs of its parts, checked by the kernel. Printed by program.
-/
import Derived.Test.YtlagjhnckdaonaaCsrBackL
namespace Go.Proofs.Ytlagjhnckdaonaa.csrBack
open Go.ChangeShapes Go.WideShapes Go.ChangeAt Go.RowKit Go.Sx
set_option linter.unusedVariables false
set_option linter.unusedSimpArgs false
set_option maxRecDepth 100000
theorem good2_6 : GoodP (TI.of Try.prog) (fnOf Try.prog) 400 Try.f12 ((flat (bodyOf Try.f12)).drop (5 + 1)) (factsE ++ lemE) TE.toS none [] none none [] [((.bin .lt (.var 2) (.lit (257))), false), ((.bin .lt (.var 2) (.lit (260))), false), ((.bin .lt (.var 2) (.lit (320))), false), ((.bin .lt (.var 2) (.lit (321))), false), ((.bin .lt (.var 2) (.lit (322))), false), ((.bin .lt (.var 2) (.lit (323))), false), ((.bin .lt (.var 2) (.lit (324))), true)] := ⟨[], by kernel_rfl, fun ρ _ ob h => absurd h List.not_mem_nil⟩
theorem good2_7 : GoodP (TI.of Try.prog) (fnOf Try.prog) 400 Try.f12 ((flat (bodyOf Try.f12)).drop (5 + 1)) (factsE ++ lemE) TE.toS none [] none none [] [((.bin .lt (.var 2) (.lit (257))), false), ((.bin .lt (.var 2) (.lit (260))), false), ((.bin .lt (.var 2) (.lit (320))), false), ((.bin .lt (.var 2) (.lit (321))), false), ((.bin .lt (.var 2) (.lit (322))), false), ((.bin .lt (.var 2) (.lit (323))), false), ((.bin .lt (.var 2) (.lit (324))), false), ((.bin .lt (.var 2) (.lit (325))), true)] := ⟨[], by kernel_rfl, fun ρ _ ob h => absurd h List.not_mem_nil⟩
theorem good2_8 : GoodP (TI.of Try.prog) (fnOf Try.prog) 400 Try.f12 ((flat (bodyOf Try.f12)).drop (5 + 1)) (factsE ++ lemE) TE.toS none [] none none [] [((.bin .lt (.var 2) (.lit (257))), false), ((.bin .lt (.var 2) (.lit (260))), false), ((.bin .lt (.var 2) (.lit (320))), false), ((.bin .lt (.var 2) (.lit (321))), false), ((.bin .lt (.var 2) (.lit (322))), false), ((.bin .lt (.var 2) (.lit (323))), false), ((.bin .lt (.var 2) (.lit (324))), false), ((.bin .lt (.var 2) (.lit (325))), false), ((.bin .lt (.var 2) (.lit (384))), true)] := ⟨[], by kernel_rfl, fun ρ _ ob h => absurd h List.not_mem_nil⟩
theorem good2_9 : GoodP (TI.of Try.prog) (fnOf Try.prog) 400 Try.f12 ((flat (bodyOf Try.f12)).drop (5 + 1)) (factsE ++ lemE) TE.toS none [] none none [] [((.bin .lt (.var 2) (.lit (257))), false), ((.bin .lt (.var 2) (.lit (260))), false), ((.bin .lt (.var 2) (.lit (320))), false), ((.bin .lt (.var 2) (.lit (321))), false), ((.bin .lt (.var 2) (.lit (322))), false), ((.bin .lt (.var 2) (.lit (323))), false), ((.bin .lt (.var 2) (.lit (324))), false), ((.bin .lt (.var 2) (.lit (325))), false), ((.bin .lt (.var 2) (.lit (384))), false), ((.bin .lt (.var 2) (.lit (768))), true)] := ⟨[], by kernel_rfl, fun ρ _ ob h => absurd h List.not_mem_nil⟩
end Go.Proofs.Ytlagjhnckdaonaa.csrBack
