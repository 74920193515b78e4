/-
  'BufferPlays': runs of its parts, checked by the kernel. Printed by program.
-/
import Derived.Test.YtdicippbniglpaaBufferPlaysL
namespace Go.Proofs.Ytdicippbniglpaa.bufferPlays
open Go.ChangeShapes Go.WideShapes Go.ChangeAt Go.RowKit Go.Sx
set_option linter.unusedVariables false
set_option linter.unusedSimpArgs false
set_option maxRecDepth 100000
set_option maxHeartbeats 1600000
theorem good_c_lineG_0_0 : GoodP rn_lineG fb19 (ct_lineG.facts ++ nl) ct_lineG.s0 none [] [] := ⟨[], by kernel_rfl, fun ρ _ ob h => absurd h List.not_mem_nil⟩
theorem good_c_lineB_1_0 : GoodP rn_lineB fb19 (ct_lineB.facts ++ nl) ct_lineB.s0 none [] [] := ⟨[], by kernel_rfl, fun ρ _ ob h => absurd h List.not_mem_nil⟩
theorem good_c_own64_2_0 : GoodP rn_own64 fb18 (ct_own64.facts ++ nl) ct_own64.s0 none [] [] := ⟨[], by kernel_rfl, fun ρ _ ob h => absurd h List.not_mem_nil⟩
theorem good_c_own63_3_0 : GoodP rn_own63 fb18 (ct_own63.facts ++ nl) ct_own63.s0 none [] [] := ⟨[], by kernel_rfl, fun ρ _ ob h => absurd h List.not_mem_nil⟩
theorem good_c_kept64_4_0 : GoodP rn_kept64 fb21 (ct_kept64.facts ++ nl) ct_kept64.s0 none [] [] := ⟨[], by kernel_rfl, fun ρ _ ob h => absurd h List.not_mem_nil⟩
theorem good_c_kept63_5_0 : GoodP rn_kept63 fb21 (ct_kept63.facts ++ nl) ct_kept63.s0 none [] [] := ⟨[], by kernel_rfl, fun ρ _ ob h => absurd h List.not_mem_nil⟩
theorem good_c_awake_6_0 : GoodP rn_awake fb8 (ct_awake.facts ++ nl) ct_awake.s0 none [] [] := ⟨[], by kernel_rfl, fun ρ _ ob h => absurd h List.not_mem_nil⟩
theorem good_c_spoil_7_0 : GoodP rn_spoil (fb22.take 1) (ct_spoil.facts ++ nl) ct_spoil.s0 (some ⟨sT, sF, [], []⟩) [] [] := ⟨[], by kernel_rfl, fun ρ _ ob h => absurd h List.not_mem_nil⟩
theorem good_c_spoil_8_0 : GoodP rn_spoil (flat (loopBody fb22 1)) (sF ++ nl) sT.toS (some ⟨sT, sF, [(101, some 140737488355329)], []⟩) [(0, ⟨sE, sF, [], []⟩)] [] := ⟨[], by kernel_rfl, fun ρ _ ob h => absurd h List.not_mem_nil⟩
theorem good_c_spoil_9_0 : GoodP rn_spoil (fb22.drop 2) (sF ++ nl) sE.toS none [] [] := ⟨[], by kernel_rfl, fun ρ _ ob h => absurd h List.not_mem_nil⟩
theorem good_c_spoilU_10_0 : GoodP rn_spoilU (fb22.take 1) (ct_spoilU.facts ++ nl) ct_spoilU.s0 (some ⟨uT, uF, [], []⟩) [] [] := ⟨[], by kernel_rfl, fun ρ _ ob h => absurd h List.not_mem_nil⟩
theorem good_c_spoilU_11_0 : GoodP rn_spoilU (flat (loopBody fb22 1)) (uF ++ nl) uT.toS (some ⟨uT, uF, [(101, some 140737488355329)], []⟩) [(0, ⟨uE, uF, [], []⟩)] [] := ⟨[], by kernel_rfl, fun ρ _ ob h => absurd h List.not_mem_nil⟩
end Go.Proofs.Ytdicippbniglpaa.bufferPlays
