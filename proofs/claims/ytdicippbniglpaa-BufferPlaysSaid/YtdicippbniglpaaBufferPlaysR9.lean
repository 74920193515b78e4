/-
  'BufferPlays': runs of its parts, checked by the kernel. Printed by program.
-/
import Derived.Test.YtdicippbniglpaaBufferPlaysL
namespace Go.Proofs.Ytdicippbniglpaa.bufferPlays
open Go.ChangeShapes Go.WideShapes Go.ChangeAt Go.RowKit Go.Sx
set_option linter.unusedVariables false
set_option linter.unusedSimpArgs false
set_option maxRecDepth 100000
set_option maxHeartbeats 1600000
theorem good_c_find5_5_74_0 : GoodRg rn_find5_5 fM5 (fF5_5 ++ nl) 10 ⟨Try.f24.ntmps, rngPs fb24 3, rngAs fb24 3, rngBd fb24 3, [3, 6]⟩ ⟨fE5_5, fF5_5, [], []⟩ [] := ⟨[], by kernel_rfl, fun ρ _ ob h => absurd h List.not_mem_nil⟩
theorem good_c_find5_5_75_0 : GoodP rn_find5_5 (fb24.drop 4) (fF5_5 ++ nl) fE5_5.toS none [] [] := ⟨[], by kernel_rfl, fun ρ _ ob h => absurd h List.not_mem_nil⟩
theorem good_c_find6_0_76_0 : GoodP rn_find6_0 (fb24.take 3) (ct_find6_0.facts ++ nl) ct_find6_0.s0 (some ⟨fM6, fF6_0, [], []⟩) [] [] := ⟨[], by kernel_rfl, fun ρ _ ob h => absurd h List.not_mem_nil⟩
theorem good_c_find6_0_77_0 : GoodRg rn_find6_0 fM6 (fF6_0 ++ nl) 10 ⟨Try.f24.ntmps, rngPs fb24 3, rngAs fb24 3, rngBd fb24 3, [3, 6]⟩ ⟨fE6_0, fF6_0, [], []⟩ [] := ⟨[], by kernel_rfl, fun ρ _ ob h => absurd h List.not_mem_nil⟩
theorem good_c_find6_0_78_0 : GoodP rn_find6_0 (fb24.drop 4) (fF6_0 ++ nl) fE6_0.toS none [] [] := ⟨[], by kernel_rfl, fun ρ _ ob h => absurd h List.not_mem_nil⟩
theorem good_c_find6_1_79_0 : GoodP rn_find6_1 (fb24.take 3) (ct_find6_1.facts ++ nl) ct_find6_1.s0 (some ⟨fM6, fF6_1, [], []⟩) [] [] := ⟨[], by kernel_rfl, fun ρ _ ob h => absurd h List.not_mem_nil⟩
end Go.Proofs.Ytdicippbniglpaa.bufferPlays
