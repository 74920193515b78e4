/-
  'BusAlone': runs of its parts, checked by the kernel. Printed by program.
-/
import Derived.Test.YtiocpbfbhbgfaaaBusAloneL
namespace Go.Proofs.Ytiocpbfbhbgfaaa.busAlone
open Go.ChangeShapes Go.WideShapes Go.ChangeAt Go.RowKit Go.Sx
set_option linter.unusedVariables false
set_option linter.unusedSimpArgs false
set_option maxRecDepth 100000
set_option maxHeartbeats 1600000
theorem good_l3_87_5 : GoodP rnL cd3 (F_T01w8 ++ lem_l3_87) T_T01w8.toS aG45 aX46 aP31 := ⟨aO32, by kernel_rfl, fun _ h => dueA h⟩
theorem good_l3_88_0 : GoodP rnL cd3 (F_T02r1 ++ lem_l3_88) T_T02r1.toS aG45 aX46 aP21 := ⟨aO22, by kernel_rfl, fun _ h => dueA h⟩
theorem good_l3_88_1 : GoodP rnL cd3 (F_T02r1 ++ lem_l3_88) T_T02r1.toS aG45 aX46 aP23 := ⟨aO24, by kernel_rfl, fun _ h => dueA h⟩
theorem good_l3_88_2 : GoodP rnL cd3 (F_T02r1 ++ lem_l3_88) T_T02r1.toS aG45 aX46 aP25 := ⟨aO26, by kernel_rfl, fun _ h => dueA h⟩
theorem good_l3_88_3 : GoodP rnL cd3 (F_T02r1 ++ lem_l3_88) T_T02r1.toS aG45 aX46 aP27 := ⟨aO28, by kernel_rfl, fun _ h => dueA h⟩
theorem good_l3_88_4 : GoodP rnL cd3 (F_T02r1 ++ lem_l3_88) T_T02r1.toS aG45 aX46 aP29 := ⟨aO30, by kernel_rfl, fun _ h => dueA h⟩
theorem good_l3_88_5 : GoodP rnL cd3 (F_T02r1 ++ lem_l3_88) T_T02r1.toS aG45 aX46 aP31 := ⟨aO32, by kernel_rfl, fun _ h => dueA h⟩
theorem good_l3_89_0 : GoodP rnL cd3 (F_T02r8 ++ lem_l3_89) T_T02r8.toS aG45 aX46 aP21 := ⟨aO22, by kernel_rfl, fun _ h => dueA h⟩
theorem good_l3_89_1 : GoodP rnL cd3 (F_T02r8 ++ lem_l3_89) T_T02r8.toS aG45 aX46 aP23 := ⟨aO24, by kernel_rfl, fun _ h => dueA h⟩
theorem good_l3_89_2 : GoodP rnL cd3 (F_T02r8 ++ lem_l3_89) T_T02r8.toS aG45 aX46 aP25 := ⟨aO26, by kernel_rfl, fun _ h => dueA h⟩
theorem good_l3_89_3 : GoodP rnL cd3 (F_T02r8 ++ lem_l3_89) T_T02r8.toS aG45 aX46 aP27 := ⟨aO28, by kernel_rfl, fun _ h => dueA h⟩
theorem good_l3_89_4 : GoodP rnL cd3 (F_T02r8 ++ lem_l3_89) T_T02r8.toS aG45 aX46 aP29 := ⟨aO30, by kernel_rfl, fun _ h => dueA h⟩
theorem good_l3_89_5 : GoodP rnL cd3 (F_T02r8 ++ lem_l3_89) T_T02r8.toS aG45 aX46 aP31 := ⟨aO32, by kernel_rfl, fun _ h => dueA h⟩
theorem good_l3_90_0 : GoodP rnL cd3 (F_T02w1 ++ lem_l3_90) T_T02w1.toS aG45 aX46 aP21 := ⟨aO22, by kernel_rfl, fun _ h => dueA h⟩
theorem good_l3_90_1 : GoodP rnL cd3 (F_T02w1 ++ lem_l3_90) T_T02w1.toS aG45 aX46 aP23 := ⟨aO24, by kernel_rfl, fun _ h => dueA h⟩
theorem good_l3_90_2 : GoodP rnL cd3 (F_T02w1 ++ lem_l3_90) T_T02w1.toS aG45 aX46 aP25 := ⟨aO26, by kernel_rfl, fun _ h => dueA h⟩
theorem good_l3_90_3 : GoodP rnL cd3 (F_T02w1 ++ lem_l3_90) T_T02w1.toS aG45 aX46 aP27 := ⟨aO28, by kernel_rfl, fun _ h => dueA h⟩
theorem good_l3_90_4 : GoodP rnL cd3 (F_T02w1 ++ lem_l3_90) T_T02w1.toS aG45 aX46 aP29 := ⟨aO30, by kernel_rfl, fun _ h => dueA h⟩
theorem good_l3_90_5 : GoodP rnL cd3 (F_T02w1 ++ lem_l3_90) T_T02w1.toS aG45 aX46 aP31 := ⟨aO32, by kernel_rfl, fun _ h => dueA h⟩
theorem good_l3_91_0 : GoodP rnL cd3 (F_T02w8 ++ lem_l3_91) T_T02w8.toS aG45 aX46 aP21 := ⟨aO22, by kernel_rfl, fun _ h => dueA h⟩
theorem good_l3_91_1 : GoodP rnL cd3 (F_T02w8 ++ lem_l3_91) T_T02w8.toS aG45 aX46 aP23 := ⟨aO24, by kernel_rfl, fun _ h => dueA h⟩
theorem good_l3_91_2 : GoodP rnL cd3 (F_T02w8 ++ lem_l3_91) T_T02w8.toS aG45 aX46 aP25 := ⟨aO26, by kernel_rfl, fun _ h => dueA h⟩
theorem good_l3_91_3 : GoodP rnL cd3 (F_T02w8 ++ lem_l3_91) T_T02w8.toS aG45 aX46 aP27 := ⟨aO28, by kernel_rfl, fun _ h => dueA h⟩
theorem good_l3_91_4 : GoodP rnL cd3 (F_T02w8 ++ lem_l3_91) T_T02w8.toS aG45 aX46 aP29 := ⟨aO30, by kernel_rfl, fun _ h => dueA h⟩
theorem good_l3_91_5 : GoodP rnL cd3 (F_T02w8 ++ lem_l3_91) T_T02w8.toS aG45 aX46 aP31 := ⟨aO32, by kernel_rfl, fun _ h => dueA h⟩
theorem good_l3_92_0 : GoodP rnL cd3 (F_T03r1 ++ lem_l3_92) T_T03r1.toS aG45 aX46 aP21 := ⟨aO22, by kernel_rfl, fun _ h => dueA h⟩
theorem good_l3_92_1 : GoodP rnL cd3 (F_T03r1 ++ lem_l3_92) T_T03r1.toS aG45 aX46 aP23 := ⟨aO24, by kernel_rfl, fun _ h => dueA h⟩
theorem good_l3_92_2 : GoodP rnL cd3 (F_T03r1 ++ lem_l3_92) T_T03r1.toS aG45 aX46 aP25 := ⟨aO26, by kernel_rfl, fun _ h => dueA h⟩
theorem good_l3_92_3 : GoodP rnL cd3 (F_T03r1 ++ lem_l3_92) T_T03r1.toS aG45 aX46 aP27 := ⟨aO28, by kernel_rfl, fun _ h => dueA h⟩
end Go.Proofs.Ytiocpbfbhbgfaaa.busAlone
