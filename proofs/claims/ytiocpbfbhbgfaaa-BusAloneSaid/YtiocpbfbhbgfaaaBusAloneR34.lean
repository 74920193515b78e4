/-
  'BusAlone': runs of its parts, checked by the kernel. Printed by program.
-/
import Derived.Test.YtiocpbfbhbgfaaaBusAloneL
namespace Go.Proofs.Ytiocpbfbhbgfaaa.busAlone
open Go.ChangeShapes Go.WideShapes Go.ChangeAt Go.RowKit Go.Sx
set_option linter.unusedVariables false
set_option linter.unusedSimpArgs false
set_option maxRecDepth 100000
set_option maxHeartbeats 1600000
theorem good_l3_116_4 : GoodP rnL cd3 (F_T21r1 ++ lem_l3_116) T_T21r1.toS aG45 aX46 aP29 := ⟨aO30, by kernel_rfl, fun _ h => dueA h⟩
theorem good_l3_116_5 : GoodP rnL cd3 (F_T21r1 ++ lem_l3_116) T_T21r1.toS aG45 aX46 aP31 := ⟨aO32, by kernel_rfl, fun _ h => dueA h⟩
theorem good_l3_117_0 : GoodP rnL cd3 (F_T21r8 ++ lem_l3_117) T_T21r8.toS aG45 aX46 aP21 := ⟨aO22, by kernel_rfl, fun _ h => dueA h⟩
theorem good_l3_117_1 : GoodP rnL cd3 (F_T21r8 ++ lem_l3_117) T_T21r8.toS aG45 aX46 aP23 := ⟨aO24, by kernel_rfl, fun _ h => dueA h⟩
theorem good_l3_117_2 : GoodP rnL cd3 (F_T21r8 ++ lem_l3_117) T_T21r8.toS aG45 aX46 aP25 := ⟨aO26, by kernel_rfl, fun _ h => dueA h⟩
theorem good_l3_117_3 : GoodP rnL cd3 (F_T21r8 ++ lem_l3_117) T_T21r8.toS aG45 aX46 aP27 := ⟨aO28, by kernel_rfl, fun _ h => dueA h⟩
theorem good_l3_117_4 : GoodP rnL cd3 (F_T21r8 ++ lem_l3_117) T_T21r8.toS aG45 aX46 aP29 := ⟨aO30, by kernel_rfl, fun _ h => dueA h⟩
theorem good_l3_117_5 : GoodP rnL cd3 (F_T21r8 ++ lem_l3_117) T_T21r8.toS aG45 aX46 aP31 := ⟨aO32, by kernel_rfl, fun _ h => dueA h⟩
theorem good_l3_118_0 : GoodP rnL cd3 (F_T21w1 ++ lem_l3_118) T_T21w1.toS aG45 aX46 aP21 := ⟨aO22, by kernel_rfl, fun _ h => dueA h⟩
theorem good_l3_118_1 : GoodP rnL cd3 (F_T21w1 ++ lem_l3_118) T_T21w1.toS aG45 aX46 aP23 := ⟨aO24, by kernel_rfl, fun _ h => dueA h⟩
theorem good_l3_118_2 : GoodP rnL cd3 (F_T21w1 ++ lem_l3_118) T_T21w1.toS aG45 aX46 aP25 := ⟨aO26, by kernel_rfl, fun _ h => dueA h⟩
theorem good_l3_118_3 : GoodP rnL cd3 (F_T21w1 ++ lem_l3_118) T_T21w1.toS aG45 aX46 aP27 := ⟨aO28, by kernel_rfl, fun _ h => dueA h⟩
theorem good_l3_118_4 : GoodP rnL cd3 (F_T21w1 ++ lem_l3_118) T_T21w1.toS aG45 aX46 aP29 := ⟨aO30, by kernel_rfl, fun _ h => dueA h⟩
theorem good_l3_118_5 : GoodP rnL cd3 (F_T21w1 ++ lem_l3_118) T_T21w1.toS aG45 aX46 aP31 := ⟨aO32, by kernel_rfl, fun _ h => dueA h⟩
theorem good_l3_119_0 : GoodP rnL cd3 (F_T21w8 ++ lem_l3_119) T_T21w8.toS aG45 aX46 aP21 := ⟨aO22, by kernel_rfl, fun _ h => dueA h⟩
theorem good_l3_119_1 : GoodP rnL cd3 (F_T21w8 ++ lem_l3_119) T_T21w8.toS aG45 aX46 aP23 := ⟨aO24, by kernel_rfl, fun _ h => dueA h⟩
theorem good_l3_119_2 : GoodP rnL cd3 (F_T21w8 ++ lem_l3_119) T_T21w8.toS aG45 aX46 aP25 := ⟨aO26, by kernel_rfl, fun _ h => dueA h⟩
theorem good_l3_119_3 : GoodP rnL cd3 (F_T21w8 ++ lem_l3_119) T_T21w8.toS aG45 aX46 aP27 := ⟨aO28, by kernel_rfl, fun _ h => dueA h⟩
theorem good_l3_119_4 : GoodP rnL cd3 (F_T21w8 ++ lem_l3_119) T_T21w8.toS aG45 aX46 aP29 := ⟨aO30, by kernel_rfl, fun _ h => dueA h⟩
theorem good_l3_119_5 : GoodP rnL cd3 (F_T21w8 ++ lem_l3_119) T_T21w8.toS aG45 aX46 aP31 := ⟨aO32, by kernel_rfl, fun _ h => dueA h⟩
theorem good_l3_120_0 : GoodP rnL cd3 (F_T22r1 ++ lem_l3_120) T_T22r1.toS aG45 aX46 aP21 := ⟨aO22, by kernel_rfl, fun _ h => dueA h⟩
theorem good_l3_120_1 : GoodP rnL cd3 (F_T22r1 ++ lem_l3_120) T_T22r1.toS aG45 aX46 aP23 := ⟨aO24, by kernel_rfl, fun _ h => dueA h⟩
theorem good_l3_120_2 : GoodP rnL cd3 (F_T22r1 ++ lem_l3_120) T_T22r1.toS aG45 aX46 aP25 := ⟨aO26, by kernel_rfl, fun _ h => dueA h⟩
theorem good_l3_120_3 : GoodP rnL cd3 (F_T22r1 ++ lem_l3_120) T_T22r1.toS aG45 aX46 aP27 := ⟨aO28, by kernel_rfl, fun _ h => dueA h⟩
theorem good_l3_120_4 : GoodP rnL cd3 (F_T22r1 ++ lem_l3_120) T_T22r1.toS aG45 aX46 aP29 := ⟨aO30, by kernel_rfl, fun _ h => dueA h⟩
theorem good_l3_120_5 : GoodP rnL cd3 (F_T22r1 ++ lem_l3_120) T_T22r1.toS aG45 aX46 aP31 := ⟨aO32, by kernel_rfl, fun _ h => dueA h⟩
theorem good_l3_121_0 : GoodP rnL cd3 (F_T22r8 ++ lem_l3_121) T_T22r8.toS aG45 aX46 aP21 := ⟨aO22, by kernel_rfl, fun _ h => dueA h⟩
end Go.Proofs.Ytiocpbfbhbgfaaa.busAlone
