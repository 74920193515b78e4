/-
  'BufferPlays': runs of its parts, checked by the kernel. Printed by program.
-/
import Derived.Test.YtdicippbniglpaaBufferPlaysL
namespace Go.Proofs.Ytdicippbniglpaa.bufferPlays
open Go.ChangeShapes Go.WideShapes Go.ChangeAt Go.RowKit Go.Sx
set_option linter.unusedVariables false
set_option linter.unusedSimpArgs false
set_option maxRecDepth 100000
set_option maxHeartbeats 1600000
theorem good_c_find5_3_68_0 : GoodRg rn_find5_3 fM5 (fF5_3 ++ nl) 10 ⟨Try.f24.ntmps, rngPs fb24 3, rngAs fb24 3, rngBd fb24 3, [3, 6]⟩ ⟨fE5_3, fF5_3, [], []⟩ [] := ⟨[], by kernel_rfl, fun ρ _ ob h => absurd h List.not_mem_nil⟩
theorem good_c_find5_3_69_0 : GoodP rn_find5_3 (fb24.drop 4) (fF5_3 ++ nl) fE5_3.toS none [] [] := ⟨[], by kernel_rfl, fun ρ _ ob h => absurd h List.not_mem_nil⟩
theorem good_c_find5_4_70_0 : GoodP rn_find5_4 (fb24.take 3) (ct_find5_4.facts ++ nl) ct_find5_4.s0 (some ⟨fM5, fF5_4, [], []⟩) [] [] := ⟨[], by kernel_rfl, fun ρ _ ob h => absurd h List.not_mem_nil⟩
theorem good_c_find5_4_71_0 : GoodRg rn_find5_4 fM5 (fF5_4 ++ nl) 10 ⟨Try.f24.ntmps, rngPs fb24 3, rngAs fb24 3, rngBd fb24 3, [3, 6]⟩ ⟨fE5_4, fF5_4, [], []⟩ [] := ⟨[], by kernel_rfl, fun ρ _ ob h => absurd h List.not_mem_nil⟩
theorem good_c_find5_4_72_0 : GoodP rn_find5_4 (fb24.drop 4) (fF5_4 ++ nl) fE5_4.toS none [] [] := ⟨[], by kernel_rfl, fun ρ _ ob h => absurd h List.not_mem_nil⟩
theorem good_c_find5_5_73_0 : GoodP rn_find5_5 (fb24.take 3) (ct_find5_5.facts ++ nl) ct_find5_5.s0 (some ⟨fM5, fF5_5, [], []⟩) [] [] := ⟨[], by kernel_rfl, fun ρ _ ob h => absurd h List.not_mem_nil⟩
end Go.Proofs.Ytdicippbniglpaa.bufferPlays
