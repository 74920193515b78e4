/-
  'BusAlone': runs of its parts, checked by the kernel. Printed by program.
-/
import Derived.Test.YtiocpbfbhbgfaaaBusAloneL
namespace Go.Proofs.Ytiocpbfbhbgfaaa.busAlone
open Go.ChangeShapes Go.WideShapes Go.ChangeAt Go.RowKit Go.Sx
set_option linter.unusedVariables false
set_option linter.unusedSimpArgs false
set_option maxRecDepth 100000
set_option maxHeartbeats 1600000
theorem good_l3_111_5 : GoodP rnL cd3 (F_T13w8 ++ lem_l3_111) T_T13w8.toS aG45 aX46 aP31 := ⟨aO32, by kernel_rfl, fun _ h => dueA h⟩
theorem good_l3_112_0 : GoodP rnL cd3 (F_T20r1 ++ lem_l3_112) T_T20r1.toS aG45 aX46 aP21 := ⟨aO22, by kernel_rfl, fun _ h => dueA h⟩
theorem good_l3_112_1 : GoodP rnL cd3 (F_T20r1 ++ lem_l3_112) T_T20r1.toS aG45 aX46 aP23 := ⟨aO24, by kernel_rfl, fun _ h => dueA h⟩
theorem good_l3_112_2 : GoodP rnL cd3 (F_T20r1 ++ lem_l3_112) T_T20r1.toS aG45 aX46 aP25 := ⟨aO26, by kernel_rfl, fun _ h => dueA h⟩
theorem good_l3_112_3 : GoodP rnL cd3 (F_T20r1 ++ lem_l3_112) T_T20r1.toS aG45 aX46 aP27 := ⟨aO28, by kernel_rfl, fun _ h => dueA h⟩
theorem good_l3_112_4 : GoodP rnL cd3 (F_T20r1 ++ lem_l3_112) T_T20r1.toS aG45 aX46 aP29 := ⟨aO30, by kernel_rfl, fun _ h => dueA h⟩
theorem good_l3_112_5 : GoodP rnL cd3 (F_T20r1 ++ lem_l3_112) T_T20r1.toS aG45 aX46 aP31 := ⟨aO32, by kernel_rfl, fun _ h => dueA h⟩
theorem good_l3_113_0 : GoodP rnL cd3 (F_T20r8 ++ lem_l3_113) T_T20r8.toS aG45 aX46 aP21 := ⟨aO22, by kernel_rfl, fun _ h => dueA h⟩
theorem good_l3_113_1 : GoodP rnL cd3 (F_T20r8 ++ lem_l3_113) T_T20r8.toS aG45 aX46 aP23 := ⟨aO24, by kernel_rfl, fun _ h => dueA h⟩
theorem good_l3_113_2 : GoodP rnL cd3 (F_T20r8 ++ lem_l3_113) T_T20r8.toS aG45 aX46 aP25 := ⟨aO26, by kernel_rfl, fun _ h => dueA h⟩
theorem good_l3_113_3 : GoodP rnL cd3 (F_T20r8 ++ lem_l3_113) T_T20r8.toS aG45 aX46 aP27 := ⟨aO28, by kernel_rfl, fun _ h => dueA h⟩
theorem good_l3_113_4 : GoodP rnL cd3 (F_T20r8 ++ lem_l3_113) T_T20r8.toS aG45 aX46 aP29 := ⟨aO30, by kernel_rfl, fun _ h => dueA h⟩
theorem good_l3_113_5 : GoodP rnL cd3 (F_T20r8 ++ lem_l3_113) T_T20r8.toS aG45 aX46 aP31 := ⟨aO32, by kernel_rfl, fun _ h => dueA h⟩
theorem good_l3_114_0 : GoodP rnL cd3 (F_T20w1 ++ lem_l3_114) T_T20w1.toS aG45 aX46 aP21 := ⟨aO22, by kernel_rfl, fun _ h => dueA h⟩
theorem good_l3_114_1 : GoodP rnL cd3 (F_T20w1 ++ lem_l3_114) T_T20w1.toS aG45 aX46 aP23 := ⟨aO24, by kernel_rfl, fun _ h => dueA h⟩
theorem good_l3_114_2 : GoodP rnL cd3 (F_T20w1 ++ lem_l3_114) T_T20w1.toS aG45 aX46 aP25 := ⟨aO26, by kernel_rfl, fun _ h => dueA h⟩
theorem good_l3_114_3 : GoodP rnL cd3 (F_T20w1 ++ lem_l3_114) T_T20w1.toS aG45 aX46 aP27 := ⟨aO28, by kernel_rfl, fun _ h => dueA h⟩
theorem good_l3_114_4 : GoodP rnL cd3 (F_T20w1 ++ lem_l3_114) T_T20w1.toS aG45 aX46 aP29 := ⟨aO30, by kernel_rfl, fun _ h => dueA h⟩
theorem good_l3_114_5 : GoodP rnL cd3 (F_T20w1 ++ lem_l3_114) T_T20w1.toS aG45 aX46 aP31 := ⟨aO32, by kernel_rfl, fun _ h => dueA h⟩
theorem good_l3_115_0 : GoodP rnL cd3 (F_T20w8 ++ lem_l3_115) T_T20w8.toS aG45 aX46 aP21 := ⟨aO22, by kernel_rfl, fun _ h => dueA h⟩
theorem good_l3_115_1 : GoodP rnL cd3 (F_T20w8 ++ lem_l3_115) T_T20w8.toS aG45 aX46 aP23 := ⟨aO24, by kernel_rfl, fun _ h => dueA h⟩
theorem good_l3_115_2 : GoodP rnL cd3 (F_T20w8 ++ lem_l3_115) T_T20w8.toS aG45 aX46 aP25 := ⟨aO26, by kernel_rfl, fun _ h => dueA h⟩
theorem good_l3_115_3 : GoodP rnL cd3 (F_T20w8 ++ lem_l3_115) T_T20w8.toS aG45 aX46 aP27 := ⟨aO28, by kernel_rfl, fun _ h => dueA h⟩
theorem good_l3_115_4 : GoodP rnL cd3 (F_T20w8 ++ lem_l3_115) T_T20w8.toS aG45 aX46 aP29 := ⟨aO30, by kernel_rfl, fun _ h => dueA h⟩
theorem good_l3_115_5 : GoodP rnL cd3 (F_T20w8 ++ lem_l3_115) T_T20w8.toS aG45 aX46 aP31 := ⟨aO32, by kernel_rfl, fun _ h => dueA h⟩
theorem good_l3_116_0 : GoodP rnL cd3 (F_T21r1 ++ lem_l3_116) T_T21r1.toS aG45 aX46 aP21 := ⟨aO22, by kernel_rfl, fun _ h => dueA h⟩
theorem good_l3_116_1 : GoodP rnL cd3 (F_T21r1 ++ lem_l3_116) T_T21r1.toS aG45 aX46 aP23 := ⟨aO24, by kernel_rfl, fun _ h => dueA h⟩
theorem good_l3_116_2 : GoodP rnL cd3 (F_T21r1 ++ lem_l3_116) T_T21r1.toS aG45 aX46 aP25 := ⟨aO26, by kernel_rfl, fun _ h => dueA h⟩
theorem good_l3_116_3 : GoodP rnL cd3 (F_T21r1 ++ lem_l3_116) T_T21r1.toS aG45 aX46 aP27 := ⟨aO28, by kernel_rfl, fun _ h => dueA h⟩
end Go.Proofs.Ytiocpbfbhbgfaaa.busAlone
