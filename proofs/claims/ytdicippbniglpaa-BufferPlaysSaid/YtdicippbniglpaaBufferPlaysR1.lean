/-
  'BufferPlays': runs of its parts, checked by the kernel. Printed by program.
-/
import Derived.Test.YtdicippbniglpaaBufferPlaysL
namespace Go.Proofs.Ytdicippbniglpaa.bufferPlays
open Go.ChangeShapes Go.WideShapes Go.ChangeAt Go.RowKit Go.Sx
set_option linter.unusedVariables false
set_option linter.unusedSimpArgs false
set_option maxRecDepth 100000
set_option maxHeartbeats 1600000
theorem good_c_spoilU_12_0 : GoodP rn_spoilU (fb22.drop 2) (uF ++ nl) uE.toS none [] [] := ⟨[], by kernel_rfl, fun ρ _ ob h => absurd h List.not_mem_nil⟩
theorem good_c_find0_0_13_0 : GoodP rn_find0_0 (fb24.take 3) (ct_find0_0.facts ++ nl) ct_find0_0.s0 (some ⟨fM0, fF0_0, [], []⟩) [] [] := ⟨[], by kernel_rfl, fun ρ _ ob h => absurd h List.not_mem_nil⟩
theorem good_c_find0_0_14_0 : GoodRg rn_find0_0 fM0 (fF0_0 ++ nl) 10 ⟨Try.f24.ntmps, rngPs fb24 3, rngAs fb24 3, rngBd fb24 3, [3, 6]⟩ ⟨fE0_0, fF0_0, [], []⟩ [] := ⟨[], by kernel_rfl, fun ρ _ ob h => absurd h List.not_mem_nil⟩
theorem good_c_find0_0_15_0 : GoodP rn_find0_0 (fb24.drop 4) (fF0_0 ++ nl) fE0_0.toS none [] [] := ⟨[], by kernel_rfl, fun ρ _ ob h => absurd h List.not_mem_nil⟩
theorem good_c_find1_0_16_0 : GoodP rn_find1_0 (fb24.take 3) (ct_find1_0.facts ++ nl) ct_find1_0.s0 (some ⟨fM1, fF1_0, [], []⟩) [] [] := ⟨[], by kernel_rfl, fun ρ _ ob h => absurd h List.not_mem_nil⟩
theorem good_c_find1_0_17_0 : GoodRg rn_find1_0 fM1 (fF1_0 ++ nl) 10 ⟨Try.f24.ntmps, rngPs fb24 3, rngAs fb24 3, rngBd fb24 3, [3, 6]⟩ ⟨fE1_0, fF1_0, [], []⟩ [] := ⟨[], by kernel_rfl, fun ρ _ ob h => absurd h List.not_mem_nil⟩
theorem good_c_find1_0_18_0 : GoodP rn_find1_0 (fb24.drop 4) (fF1_0 ++ nl) fE1_0.toS none [] [] := ⟨[], by kernel_rfl, fun ρ _ ob h => absurd h List.not_mem_nil⟩
theorem good_c_find1_1_19_0 : GoodP rn_find1_1 (fb24.take 3) (ct_find1_1.facts ++ nl) ct_find1_1.s0 (some ⟨fM1, fF1_1, [], []⟩) [] [] := ⟨[], by kernel_rfl, fun ρ _ ob h => absurd h List.not_mem_nil⟩
theorem good_c_find1_1_20_0 : GoodRg rn_find1_1 fM1 (fF1_1 ++ nl) 10 ⟨Try.f24.ntmps, rngPs fb24 3, rngAs fb24 3, rngBd fb24 3, [3, 6]⟩ ⟨fE1_1, fF1_1, [], []⟩ [] := ⟨[], by kernel_rfl, fun ρ _ ob h => absurd h List.not_mem_nil⟩
end Go.Proofs.Ytdicippbniglpaa.bufferPlays
