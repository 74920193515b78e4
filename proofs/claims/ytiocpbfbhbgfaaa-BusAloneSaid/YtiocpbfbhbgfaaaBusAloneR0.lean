/-
  'BusAlone': runs of its parts, checked by the kernel. Printed by program.
-/
import Derived.Test.YtiocpbfbhbgfaaaBusAloneL
namespace Go.Proofs.Ytiocpbfbhbgfaaa.busAlone
open Go.ChangeShapes Go.WideShapes Go.ChangeAt Go.RowKit Go.Sx
set_option linter.unusedVariables false
set_option linter.unusedSimpArgs false
set_option maxRecDepth 100000
set_option maxHeartbeats 1600000
theorem good_c_awake_0_0 : GoodP ⟨(TI.of Try.prog), (fnOf Try.prog), ⟨[], ctOf []⟩, 400, Try.f11, (some ct_awake.R)⟩ (flat (bodyOf Try.f11)) (ct_awake.facts ++ lem_c_awake_0) ct_awake.s0 none [] [] := ⟨[], by kernel_rfl, fun ρ _ ob h => absurd h List.not_mem_nil⟩
theorem good_c_serve8_1_0 : GoodP ⟨(TI.of Try.prog), (fnOf Try.prog), ⟨[], ctOf []⟩, 400, Try.f10, (some ct_serve8.R)⟩ (flat (bodyOf Try.f10)) (ct_serve8.facts ++ lem_c_serve8_1) ct_serve8.s0 none [] [] := ⟨[], by kernel_rfl, fun ρ _ ob h => absurd h List.not_mem_nil⟩
theorem good_c_clb0_2_0 : GoodP ⟨(TI.of Try.prog), (fnOf Try.prog), ⟨[], ctOf []⟩, 400, Try.f46, (some ct_clb0.R)⟩ (flat (bodyOf Try.f46)) (ct_clb0.facts ++ lem_c_clb0_2) ct_clb0.s0 none [] [] := ⟨[], by kernel_rfl, fun ρ _ ob h => absurd h List.not_mem_nil⟩
theorem good_c_clb1_3_0 : GoodP ⟨(TI.of Try.prog), (fnOf Try.prog), ⟨[], ctOf []⟩, 400, Try.f46, (some ct_clb1.R)⟩ (flat (bodyOf Try.f46)) (ct_clb1.facts ++ lem_c_clb1_3) ct_clb1.s0 none [] [] := ⟨[], by kernel_rfl, fun ρ _ ob h => absurd h List.not_mem_nil⟩
theorem good_c_clb2_4_0 : GoodP ⟨(TI.of Try.prog), (fnOf Try.prog), ⟨[], ctOf []⟩, 400, Try.f46, (some ct_clb2.R)⟩ (flat (bodyOf Try.f46)) (ct_clb2.facts ++ lem_c_clb2_4) ct_clb2.s0 none [] [] := ⟨[], by kernel_rfl, fun ρ _ ob h => absurd h List.not_mem_nil⟩
theorem good_c_clt0_5_0 : GoodP ⟨(TI.of Try.prog), (fnOf Try.prog), ⟨[], ctOf []⟩, 400, Try.f47, (some ct_clt0.R)⟩ (flat (bodyOf Try.f47)) (ct_clt0.facts ++ lem_c_clt0_5) ct_clt0.s0 none [] [] := ⟨[], by kernel_rfl, fun ρ _ ob h => absurd h List.not_mem_nil⟩
theorem good_c_clt1_6_0 : GoodP ⟨(TI.of Try.prog), (fnOf Try.prog), ⟨[], ctOf []⟩, 400, Try.f47, (some ct_clt1.R)⟩ (flat (bodyOf Try.f47)) (ct_clt1.facts ++ lem_c_clt1_6) ct_clt1.s0 none [] [] := ⟨[], by kernel_rfl, fun ρ _ ob h => absurd h List.not_mem_nil⟩
theorem good_c_clt2_7_0 : GoodP ⟨(TI.of Try.prog), (fnOf Try.prog), ⟨[], ctOf []⟩, 400, Try.f47, (some ct_clt2.R)⟩ (flat (bodyOf Try.f47)) (ct_clt2.facts ++ lem_c_clt2_7) ct_clt2.s0 none [] [] := ⟨[], by kernel_rfl, fun ρ _ ob h => absurd h List.not_mem_nil⟩
theorem good_l0_8_0 : GoodP rnL cd0 (facts0 ++ lem_l0_8) st0 none [] [] := ⟨[], by kernel_rfl, fun ρ _ ob h => absurd h List.not_mem_nil⟩
theorem good_l1_9_0 : GoodP rnL (cd0.take 6) (facts1 ++ lem_l1_9) st1 (some ⟨T_A0n, F_A0n, [], []⟩) [] [] := ⟨[], by kernel_rfl, fun ρ _ ob h => absurd h List.not_mem_nil⟩
theorem good_l1_10_0 : GoodP rnL (cd1.take 2) (F_A0n ++ lem_l1_10) T_A0n.toS aG0 [(0, ⟨T_E0n, F_E0n, [], []⟩)] [] := ⟨[], by kernel_rfl, fun ρ _ ob h => absurd h List.not_mem_nil⟩
theorem good_l1_11_0 : GoodP rnL ((cd2.take 8).drop 1) (F_B0n ++ lem_l1_11) aS1 aG2 aX3 aP4 := ⟨[], by kernel_rfl, fun ρ _ ob h => absurd h List.not_mem_nil⟩
theorem good_l1_11_1 : GoodP rnL ((cd2.take 8).drop 1) (F_B0n ++ lem_l1_11) aS1 aG2 aX3 aP5 := ⟨[], by kernel_rfl, fun ρ _ ob h => absurd h List.not_mem_nil⟩
theorem good_l1_11_2 : GoodP rnL ((cd2.take 8).drop 1) (F_B0n ++ lem_l1_11) aS1 aG2 aX3 aP6 := ⟨[], by kernel_rfl, fun ρ _ ob h => absurd h List.not_mem_nil⟩
theorem good_l1_11_3 : GoodP rnL ((cd2.take 8).drop 1) (F_B0n ++ lem_l1_11) aS1 aG2 aX3 aP7 := ⟨[], by kernel_rfl, fun ρ _ ob h => absurd h List.not_mem_nil⟩
theorem good_l1_11_4 : GoodP rnL ((cd2.take 8).drop 1) (F_B0n ++ lem_l1_11) aS1 aG2 aX3 aP8 := ⟨[], by kernel_rfl, fun ρ _ ob h => absurd h List.not_mem_nil⟩
end Go.Proofs.Ytiocpbfbhbgfaaa.busAlone
