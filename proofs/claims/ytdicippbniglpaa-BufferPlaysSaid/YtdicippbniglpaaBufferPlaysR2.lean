/-
  'BufferPlays': runs of its parts, checked by the kernel. Printed by program.
-/
import Derived.Test.YtdicippbniglpaaBufferPlaysL
namespace Go.Proofs.Ytdicippbniglpaa.bufferPlays
open Go.ChangeShapes Go.WideShapes Go.ChangeAt Go.RowKit Go.Sx
set_option linter.unusedVariables false
set_option linter.unusedSimpArgs false
set_option maxRecDepth 100000
set_option maxHeartbeats 1600000
theorem good_c_find1_1_21_0 : GoodP rn_find1_1 (fb24.drop 4) (fF1_1 ++ nl) fE1_1.toS none [] [] := ⟨[], by kernel_rfl, fun ρ _ ob h => absurd h List.not_mem_nil⟩
theorem good_c_find2_0_22_0 : GoodP rn_find2_0 (fb24.take 3) (ct_find2_0.facts ++ nl) ct_find2_0.s0 (some ⟨fM2, fF2_0, [], []⟩) [] [] := ⟨[], by kernel_rfl, fun ρ _ ob h => absurd h List.not_mem_nil⟩
theorem good_c_find2_0_23_0 : GoodRg rn_find2_0 fM2 (fF2_0 ++ nl) 10 ⟨Try.f24.ntmps, rngPs fb24 3, rngAs fb24 3, rngBd fb24 3, [3, 6]⟩ ⟨fE2_0, fF2_0, [], []⟩ [] := ⟨[], by kernel_rfl, fun ρ _ ob h => absurd h List.not_mem_nil⟩
theorem good_c_find2_0_24_0 : GoodP rn_find2_0 (fb24.drop 4) (fF2_0 ++ nl) fE2_0.toS none [] [] := ⟨[], by kernel_rfl, fun ρ _ ob h => absurd h List.not_mem_nil⟩
theorem good_c_find2_1_25_0 : GoodP rn_find2_1 (fb24.take 3) (ct_find2_1.facts ++ nl) ct_find2_1.s0 (some ⟨fM2, fF2_1, [], []⟩) [] [] := ⟨[], by kernel_rfl, fun ρ _ ob h => absurd h List.not_mem_nil⟩
theorem good_c_find2_1_26_0 : GoodRg rn_find2_1 fM2 (fF2_1 ++ nl) 10 ⟨Try.f24.ntmps, rngPs fb24 3, rngAs fb24 3, rngBd fb24 3, [3, 6]⟩ ⟨fE2_1, fF2_1, [], []⟩ [] := ⟨[], by kernel_rfl, fun ρ _ ob h => absurd h List.not_mem_nil⟩
theorem good_c_find2_1_27_0 : GoodP rn_find2_1 (fb24.drop 4) (fF2_1 ++ nl) fE2_1.toS none [] [] := ⟨[], by kernel_rfl, fun ρ _ ob h => absurd h List.not_mem_nil⟩
theorem good_c_find2_2_28_0 : GoodP rn_find2_2 (fb24.take 3) (ct_find2_2.facts ++ nl) ct_find2_2.s0 (some ⟨fM2, fF2_2, [], []⟩) [] [] := ⟨[], by kernel_rfl, fun ρ _ ob h => absurd h List.not_mem_nil⟩
theorem good_c_find2_2_29_0 : GoodRg rn_find2_2 fM2 (fF2_2 ++ nl) 10 ⟨Try.f24.ntmps, rngPs fb24 3, rngAs fb24 3, rngBd fb24 3, [3, 6]⟩ ⟨fE2_2, fF2_2, [], []⟩ [] := ⟨[], by kernel_rfl, fun ρ _ ob h => absurd h List.not_mem_nil⟩
end Go.Proofs.Ytdicippbniglpaa.bufferPlays
