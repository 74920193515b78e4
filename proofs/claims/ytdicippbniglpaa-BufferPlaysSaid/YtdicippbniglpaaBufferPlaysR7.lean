/-
  'BufferPlays': runs of its parts, checked by the kernel. Printed by program.
-/
import Derived.Test.YtdicippbniglpaaBufferPlaysL
namespace Go.Proofs.Ytdicippbniglpaa.bufferPlays
open Go.ChangeShapes Go.WideShapes Go.ChangeAt Go.RowKit Go.Sx
set_option linter.unusedVariables false
set_option linter.unusedSimpArgs false
set_option maxRecDepth 100000
set_option maxHeartbeats 1600000
theorem good_c_find5_1_62_0 : GoodRg rn_find5_1 fM5 (fF5_1 ++ nl) 10 ⟨Try.f24.ntmps, rngPs fb24 3, rngAs fb24 3, rngBd fb24 3, [3, 6]⟩ ⟨fE5_1, fF5_1, [], []⟩ [] := ⟨[], by kernel_rfl, fun ρ _ ob h => absurd h List.not_mem_nil⟩
theorem good_c_find5_1_63_0 : GoodP rn_find5_1 (fb24.drop 4) (fF5_1 ++ nl) fE5_1.toS none [] [] := ⟨[], by kernel_rfl, fun ρ _ ob h => absurd h List.not_mem_nil⟩
theorem good_c_find5_2_64_0 : GoodP rn_find5_2 (fb24.take 3) (ct_find5_2.facts ++ nl) ct_find5_2.s0 (some ⟨fM5, fF5_2, [], []⟩) [] [] := ⟨[], by kernel_rfl, fun ρ _ ob h => absurd h List.not_mem_nil⟩
theorem good_c_find5_2_65_0 : GoodRg rn_find5_2 fM5 (fF5_2 ++ nl) 10 ⟨Try.f24.ntmps, rngPs fb24 3, rngAs fb24 3, rngBd fb24 3, [3, 6]⟩ ⟨fE5_2, fF5_2, [], []⟩ [] := ⟨[], by kernel_rfl, fun ρ _ ob h => absurd h List.not_mem_nil⟩
theorem good_c_find5_2_66_0 : GoodP rn_find5_2 (fb24.drop 4) (fF5_2 ++ nl) fE5_2.toS none [] [] := ⟨[], by kernel_rfl, fun ρ _ ob h => absurd h List.not_mem_nil⟩
theorem good_c_find5_3_67_0 : GoodP rn_find5_3 (fb24.take 3) (ct_find5_3.facts ++ nl) ct_find5_3.s0 (some ⟨fM5, fF5_3, [], []⟩) [] [] := ⟨[], by kernel_rfl, fun ρ _ ob h => absurd h List.not_mem_nil⟩
end Go.Proofs.Ytdicippbniglpaa.bufferPlays
