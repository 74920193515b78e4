/-
  'BufferPlays': runs of its parts, checked by the kernel. Printed by program.
-/
import Derived.Test.YtdicippbniglpaaBufferPlaysL
namespace Go.Proofs.Ytdicippbniglpaa.bufferPlays
open Go.ChangeShapes Go.WideShapes Go.ChangeAt Go.RowKit Go.Sx
set_option linter.unusedVariables false
set_option linter.unusedSimpArgs false
set_option maxRecDepth 100000
set_option maxHeartbeats 1600000
theorem good_c_find4_1_48_0 : GoodP rn_find4_1 (fb24.drop 4) (fF4_1 ++ nl) fE4_1.toS none [] [] := ⟨[], by kernel_rfl, fun ρ _ ob h => absurd h List.not_mem_nil⟩
theorem good_c_find4_2_49_0 : GoodP rn_find4_2 (fb24.take 3) (ct_find4_2.facts ++ nl) ct_find4_2.s0 (some ⟨fM4, fF4_2, [], []⟩) [] [] := ⟨[], by kernel_rfl, fun ρ _ ob h => absurd h List.not_mem_nil⟩
theorem good_c_find4_2_50_0 : GoodRg rn_find4_2 fM4 (fF4_2 ++ nl) 10 ⟨Try.f24.ntmps, rngPs fb24 3, rngAs fb24 3, rngBd fb24 3, [3, 6]⟩ ⟨fE4_2, fF4_2, [], []⟩ [] := ⟨[], by kernel_rfl, fun ρ _ ob h => absurd h List.not_mem_nil⟩
theorem good_c_find4_2_51_0 : GoodP rn_find4_2 (fb24.drop 4) (fF4_2 ++ nl) fE4_2.toS none [] [] := ⟨[], by kernel_rfl, fun ρ _ ob h => absurd h List.not_mem_nil⟩
theorem good_c_find4_3_52_0 : GoodP rn_find4_3 (fb24.take 3) (ct_find4_3.facts ++ nl) ct_find4_3.s0 (some ⟨fM4, fF4_3, [], []⟩) [] [] := ⟨[], by kernel_rfl, fun ρ _ ob h => absurd h List.not_mem_nil⟩
theorem good_c_find4_3_53_0 : GoodRg rn_find4_3 fM4 (fF4_3 ++ nl) 10 ⟨Try.f24.ntmps, rngPs fb24 3, rngAs fb24 3, rngBd fb24 3, [3, 6]⟩ ⟨fE4_3, fF4_3, [], []⟩ [] := ⟨[], by kernel_rfl, fun ρ _ ob h => absurd h List.not_mem_nil⟩
theorem good_c_find4_3_54_0 : GoodP rn_find4_3 (fb24.drop 4) (fF4_3 ++ nl) fE4_3.toS none [] [] := ⟨[], by kernel_rfl, fun ρ _ ob h => absurd h List.not_mem_nil⟩
theorem good_c_find4_4_55_0 : GoodP rn_find4_4 (fb24.take 3) (ct_find4_4.facts ++ nl) ct_find4_4.s0 (some ⟨fM4, fF4_4, [], []⟩) [] [] := ⟨[], by kernel_rfl, fun ρ _ ob h => absurd h List.not_mem_nil⟩
end Go.Proofs.Ytdicippbniglpaa.bufferPlays
