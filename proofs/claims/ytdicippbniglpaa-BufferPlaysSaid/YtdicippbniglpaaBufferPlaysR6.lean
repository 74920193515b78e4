/-
  'BufferPlays': runs of its parts, checked by the kernel. Printed by program.
-/
import Derived.Test.YtdicippbniglpaaBufferPlaysL
namespace Go.Proofs.Ytdicippbniglpaa.bufferPlays
open Go.ChangeShapes Go.WideShapes Go.ChangeAt Go.RowKit Go.Sx
set_option linter.unusedVariables false
set_option linter.unusedSimpArgs false
set_option maxRecDepth 100000
set_option maxHeartbeats 1600000
theorem good_c_find4_4_56_0 : GoodRg rn_find4_4 fM4 (fF4_4 ++ nl) 10 ⟨Try.f24.ntmps, rngPs fb24 3, rngAs fb24 3, rngBd fb24 3, [3, 6]⟩ ⟨fE4_4, fF4_4, [], []⟩ [] := ⟨[], by kernel_rfl, fun ρ _ ob h => absurd h List.not_mem_nil⟩
theorem good_c_find4_4_57_0 : GoodP rn_find4_4 (fb24.drop 4) (fF4_4 ++ nl) fE4_4.toS none [] [] := ⟨[], by kernel_rfl, fun ρ _ ob h => absurd h List.not_mem_nil⟩
theorem good_c_find5_0_58_0 : GoodP rn_find5_0 (fb24.take 3) (ct_find5_0.facts ++ nl) ct_find5_0.s0 (some ⟨fM5, fF5_0, [], []⟩) [] [] := ⟨[], by kernel_rfl, fun ρ _ ob h => absurd h List.not_mem_nil⟩
theorem good_c_find5_0_59_0 : GoodRg rn_find5_0 fM5 (fF5_0 ++ nl) 10 ⟨Try.f24.ntmps, rngPs fb24 3, rngAs fb24 3, rngBd fb24 3, [3, 6]⟩ ⟨fE5_0, fF5_0, [], []⟩ [] := ⟨[], by kernel_rfl, fun ρ _ ob h => absurd h List.not_mem_nil⟩
theorem good_c_find5_0_60_0 : GoodP rn_find5_0 (fb24.drop 4) (fF5_0 ++ nl) fE5_0.toS none [] [] := ⟨[], by kernel_rfl, fun ρ _ ob h => absurd h List.not_mem_nil⟩
theorem good_c_find5_1_61_0 : GoodP rn_find5_1 (fb24.take 3) (ct_find5_1.facts ++ nl) ct_find5_1.s0 (some ⟨fM5, fF5_1, [], []⟩) [] [] := ⟨[], by kernel_rfl, fun ρ _ ob h => absurd h List.not_mem_nil⟩
end Go.Proofs.Ytdicippbniglpaa.bufferPlays
