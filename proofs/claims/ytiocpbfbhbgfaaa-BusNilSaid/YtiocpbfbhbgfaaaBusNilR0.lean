/-
  'BusNil': runs of its parts, checked by the kernel. Printed by program.
-/
import Derived.Test.YtiocpbfbhbgfaaaBusNilL
namespace Go.Proofs.Ytiocpbfbhbgfaaa.busNil
open Go.ChangeShapes Go.WideShapes Go.ChangeAt Go.RowKit Go.Sx
set_option linter.unusedVariables false
set_option linter.unusedSimpArgs false
set_option maxRecDepth 100000
set_option maxHeartbeats 1600000
theorem good_c_awake_0_0 : GoodP ⟨(TI.of Try.prog), (fnOf Try.prog), ⟨[], ctOf []⟩, 400, Try.f11, (some ct_awake.R)⟩ (flat (bodyOf Try.f11)) (ct_awake.facts ++ lem_c_awake_0) ct_awake.s0 none [] [] := ⟨[], by kernel_rfl, fun ρ _ ob h => absurd h List.not_mem_nil⟩
theorem good_l0_1_0 : GoodP ⟨(TI.of Try.prog), (fnOf Try.prog), ⟨[], ctOf [ct_awake]⟩, 400, Try.f8, none⟩ (flat (bodyOf Try.f8)) (facts0 ++ lem_l0_1) st0 none [] [] := ⟨[], by kernel_rfl, fun ρ _ ob h => absurd h List.not_mem_nil⟩
end Go.Proofs.Ytiocpbfbhbgfaaa.busNil
