/-
  'BusAlone': runs of its parts, checked by the kernel. Printed by program.
-/
import Derived.Test.YtiocpbfbhbgfaaaBusAloneL
namespace Go.Proofs.Ytiocpbfbhbgfaaa.busAlone
open Go.ChangeShapes Go.WideShapes Go.ChangeAt Go.RowKit Go.Sx
set_option linter.unusedVariables false
set_option linter.unusedSimpArgs false
set_option maxRecDepth 100000
set_option maxHeartbeats 1600000
theorem good_l3_82_5 : GoodP rnL cd3 (F_T00w1 ++ lem_l3_82) T_T00w1.toS aG45 aX46 aP31 := ⟨aO32, by kernel_rfl, fun _ h => dueA h⟩
theorem good_l3_83_0 : GoodP rnL cd3 (F_T00w8 ++ lem_l3_83) T_T00w8.toS aG45 aX46 aP21 := ⟨aO22, by kernel_rfl, fun _ h => dueA h⟩
theorem good_l3_83_1 : GoodP rnL cd3 (F_T00w8 ++ lem_l3_83) T_T00w8.toS aG45 aX46 aP23 := ⟨aO24, by kernel_rfl, fun _ h => dueA h⟩
theorem good_l3_83_2 : GoodP rnL cd3 (F_T00w8 ++ lem_l3_83) T_T00w8.toS aG45 aX46 aP25 := ⟨aO26, by kernel_rfl, fun _ h => dueA h⟩
theorem good_l3_83_3 : GoodP rnL cd3 (F_T00w8 ++ lem_l3_83) T_T00w8.toS aG45 aX46 aP27 := ⟨aO28, by kernel_rfl, fun _ h => dueA h⟩
theorem good_l3_83_4 : GoodP rnL cd3 (F_T00w8 ++ lem_l3_83) T_T00w8.toS aG45 aX46 aP29 := ⟨aO30, by kernel_rfl, fun _ h => dueA h⟩
theorem good_l3_83_5 : GoodP rnL cd3 (F_T00w8 ++ lem_l3_83) T_T00w8.toS aG45 aX46 aP31 := ⟨aO32, by kernel_rfl, fun _ h => dueA h⟩
theorem good_l3_84_0 : GoodP rnL cd3 (F_T01r1 ++ lem_l3_84) T_T01r1.toS aG45 aX46 aP21 := ⟨aO22, by kernel_rfl, fun _ h => dueA h⟩
theorem good_l3_84_1 : GoodP rnL cd3 (F_T01r1 ++ lem_l3_84) T_T01r1.toS aG45 aX46 aP23 := ⟨aO24, by kernel_rfl, fun _ h => dueA h⟩
theorem good_l3_84_2 : GoodP rnL cd3 (F_T01r1 ++ lem_l3_84) T_T01r1.toS aG45 aX46 aP25 := ⟨aO26, by kernel_rfl, fun _ h => dueA h⟩
theorem good_l3_84_3 : GoodP rnL cd3 (F_T01r1 ++ lem_l3_84) T_T01r1.toS aG45 aX46 aP27 := ⟨aO28, by kernel_rfl, fun _ h => dueA h⟩
theorem good_l3_84_4 : GoodP rnL cd3 (F_T01r1 ++ lem_l3_84) T_T01r1.toS aG45 aX46 aP29 := ⟨aO30, by kernel_rfl, fun _ h => dueA h⟩
theorem good_l3_84_5 : GoodP rnL cd3 (F_T01r1 ++ lem_l3_84) T_T01r1.toS aG45 aX46 aP31 := ⟨aO32, by kernel_rfl, fun _ h => dueA h⟩
theorem good_l3_85_0 : GoodP rnL cd3 (F_T01r8 ++ lem_l3_85) T_T01r8.toS aG45 aX46 aP21 := ⟨aO22, by kernel_rfl, fun _ h => dueA h⟩
theorem good_l3_85_1 : GoodP rnL cd3 (F_T01r8 ++ lem_l3_85) T_T01r8.toS aG45 aX46 aP23 := ⟨aO24, by kernel_rfl, fun _ h => dueA h⟩
theorem good_l3_85_2 : GoodP rnL cd3 (F_T01r8 ++ lem_l3_85) T_T01r8.toS aG45 aX46 aP25 := ⟨aO26, by kernel_rfl, fun _ h => dueA h⟩
theorem good_l3_85_3 : GoodP rnL cd3 (F_T01r8 ++ lem_l3_85) T_T01r8.toS aG45 aX46 aP27 := ⟨aO28, by kernel_rfl, fun _ h => dueA h⟩
theorem good_l3_85_4 : GoodP rnL cd3 (F_T01r8 ++ lem_l3_85) T_T01r8.toS aG45 aX46 aP29 := ⟨aO30, by kernel_rfl, fun _ h => dueA h⟩
theorem good_l3_85_5 : GoodP rnL cd3 (F_T01r8 ++ lem_l3_85) T_T01r8.toS aG45 aX46 aP31 := ⟨aO32, by kernel_rfl, fun _ h => dueA h⟩
theorem good_l3_86_0 : GoodP rnL cd3 (F_T01w1 ++ lem_l3_86) T_T01w1.toS aG45 aX46 aP21 := ⟨aO22, by kernel_rfl, fun _ h => dueA h⟩
theorem good_l3_86_1 : GoodP rnL cd3 (F_T01w1 ++ lem_l3_86) T_T01w1.toS aG45 aX46 aP23 := ⟨aO24, by kernel_rfl, fun _ h => dueA h⟩
theorem good_l3_86_2 : GoodP rnL cd3 (F_T01w1 ++ lem_l3_86) T_T01w1.toS aG45 aX46 aP25 := ⟨aO26, by kernel_rfl, fun _ h => dueA h⟩
theorem good_l3_86_3 : GoodP rnL cd3 (F_T01w1 ++ lem_l3_86) T_T01w1.toS aG45 aX46 aP27 := ⟨aO28, by kernel_rfl, fun _ h => dueA h⟩
theorem good_l3_86_4 : GoodP rnL cd3 (F_T01w1 ++ lem_l3_86) T_T01w1.toS aG45 aX46 aP29 := ⟨aO30, by kernel_rfl, fun _ h => dueA h⟩
theorem good_l3_86_5 : GoodP rnL cd3 (F_T01w1 ++ lem_l3_86) T_T01w1.toS aG45 aX46 aP31 := ⟨aO32, by kernel_rfl, fun _ h => dueA h⟩
theorem good_l3_87_0 : GoodP rnL cd3 (F_T01w8 ++ lem_l3_87) T_T01w8.toS aG45 aX46 aP21 := ⟨aO22, by kernel_rfl, fun _ h => dueA h⟩
theorem good_l3_87_1 : GoodP rnL cd3 (F_T01w8 ++ lem_l3_87) T_T01w8.toS aG45 aX46 aP23 := ⟨aO24, by kernel_rfl, fun _ h => dueA h⟩
theorem good_l3_87_2 : GoodP rnL cd3 (F_T01w8 ++ lem_l3_87) T_T01w8.toS aG45 aX46 aP25 := ⟨aO26, by kernel_rfl, fun _ h => dueA h⟩
theorem good_l3_87_3 : GoodP rnL cd3 (F_T01w8 ++ lem_l3_87) T_T01w8.toS aG45 aX46 aP27 := ⟨aO28, by kernel_rfl, fun _ h => dueA h⟩
theorem good_l3_87_4 : GoodP rnL cd3 (F_T01w8 ++ lem_l3_87) T_T01w8.toS aG45 aX46 aP29 := ⟨aO30, by kernel_rfl, fun _ h => dueA h⟩
end Go.Proofs.Ytiocpbfbhbgfaaa.busAlone
