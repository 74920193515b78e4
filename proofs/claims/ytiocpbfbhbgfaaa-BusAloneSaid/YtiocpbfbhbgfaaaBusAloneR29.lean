/-
  'BusAlone': runs of its parts, checked by the kernel. Printed by program.
-/
import Derived.Test.YtiocpbfbhbgfaaaBusAloneL
namespace Go.Proofs.Ytiocpbfbhbgfaaa.busAlone
open Go.ChangeShapes Go.WideShapes Go.ChangeAt Go.RowKit Go.Sx
set_option linter.unusedVariables false
set_option linter.unusedSimpArgs false
set_option maxRecDepth 100000
set_option maxHeartbeats 1600000
theorem good_l3_92_4 : GoodP rnL cd3 (F_T03r1 ++ lem_l3_92) T_T03r1.toS aG45 aX46 aP29 := ⟨aO30, by kernel_rfl, fun _ h => dueA h⟩
theorem good_l3_92_5 : GoodP rnL cd3 (F_T03r1 ++ lem_l3_92) T_T03r1.toS aG45 aX46 aP31 := ⟨aO32, by kernel_rfl, fun _ h => dueA h⟩
theorem good_l3_93_0 : GoodP rnL cd3 (F_T03r8 ++ lem_l3_93) T_T03r8.toS aG45 aX46 aP21 := ⟨aO22, by kernel_rfl, fun _ h => dueA h⟩
theorem good_l3_93_1 : GoodP rnL cd3 (F_T03r8 ++ lem_l3_93) T_T03r8.toS aG45 aX46 aP23 := ⟨aO24, by kernel_rfl, fun _ h => dueA h⟩
theorem good_l3_93_2 : GoodP rnL cd3 (F_T03r8 ++ lem_l3_93) T_T03r8.toS aG45 aX46 aP25 := ⟨aO26, by kernel_rfl, fun _ h => dueA h⟩
theorem good_l3_93_3 : GoodP rnL cd3 (F_T03r8 ++ lem_l3_93) T_T03r8.toS aG45 aX46 aP27 := ⟨aO28, by kernel_rfl, fun _ h => dueA h⟩
theorem good_l3_93_4 : GoodP rnL cd3 (F_T03r8 ++ lem_l3_93) T_T03r8.toS aG45 aX46 aP29 := ⟨aO30, by kernel_rfl, fun _ h => dueA h⟩
theorem good_l3_93_5 : GoodP rnL cd3 (F_T03r8 ++ lem_l3_93) T_T03r8.toS aG45 aX46 aP31 := ⟨aO32, by kernel_rfl, fun _ h => dueA h⟩
theorem good_l3_94_0 : GoodP rnL cd3 (F_T03w1 ++ lem_l3_94) T_T03w1.toS aG45 aX46 aP21 := ⟨aO22, by kernel_rfl, fun _ h => dueA h⟩
theorem good_l3_94_1 : GoodP rnL cd3 (F_T03w1 ++ lem_l3_94) T_T03w1.toS aG45 aX46 aP23 := ⟨aO24, by kernel_rfl, fun _ h => dueA h⟩
theorem good_l3_94_2 : GoodP rnL cd3 (F_T03w1 ++ lem_l3_94) T_T03w1.toS aG45 aX46 aP25 := ⟨aO26, by kernel_rfl, fun _ h => dueA h⟩
theorem good_l3_94_3 : GoodP rnL cd3 (F_T03w1 ++ lem_l3_94) T_T03w1.toS aG45 aX46 aP27 := ⟨aO28, by kernel_rfl, fun _ h => dueA h⟩
theorem good_l3_94_4 : GoodP rnL cd3 (F_T03w1 ++ lem_l3_94) T_T03w1.toS aG45 aX46 aP29 := ⟨aO30, by kernel_rfl, fun _ h => dueA h⟩
theorem good_l3_94_5 : GoodP rnL cd3 (F_T03w1 ++ lem_l3_94) T_T03w1.toS aG45 aX46 aP31 := ⟨aO32, by kernel_rfl, fun _ h => dueA h⟩
theorem good_l3_95_0 : GoodP rnL cd3 (F_T03w8 ++ lem_l3_95) T_T03w8.toS aG45 aX46 aP21 := ⟨aO22, by kernel_rfl, fun _ h => dueA h⟩
theorem good_l3_95_1 : GoodP rnL cd3 (F_T03w8 ++ lem_l3_95) T_T03w8.toS aG45 aX46 aP23 := ⟨aO24, by kernel_rfl, fun _ h => dueA h⟩
theorem good_l3_95_2 : GoodP rnL cd3 (F_T03w8 ++ lem_l3_95) T_T03w8.toS aG45 aX46 aP25 := ⟨aO26, by kernel_rfl, fun _ h => dueA h⟩
theorem good_l3_95_3 : GoodP rnL cd3 (F_T03w8 ++ lem_l3_95) T_T03w8.toS aG45 aX46 aP27 := ⟨aO28, by kernel_rfl, fun _ h => dueA h⟩
theorem good_l3_95_4 : GoodP rnL cd3 (F_T03w8 ++ lem_l3_95) T_T03w8.toS aG45 aX46 aP29 := ⟨aO30, by kernel_rfl, fun _ h => dueA h⟩
theorem good_l3_95_5 : GoodP rnL cd3 (F_T03w8 ++ lem_l3_95) T_T03w8.toS aG45 aX46 aP31 := ⟨aO32, by kernel_rfl, fun _ h => dueA h⟩
theorem good_l3_96_0 : GoodP rnL cd3 (F_T10r1 ++ lem_l3_96) T_T10r1.toS aG45 aX46 aP21 := ⟨aO22, by kernel_rfl, fun _ h => dueA h⟩
theorem good_l3_96_1 : GoodP rnL cd3 (F_T10r1 ++ lem_l3_96) T_T10r1.toS aG45 aX46 aP23 := ⟨aO24, by kernel_rfl, fun _ h => dueA h⟩
theorem good_l3_96_2 : GoodP rnL cd3 (F_T10r1 ++ lem_l3_96) T_T10r1.toS aG45 aX46 aP25 := ⟨aO26, by kernel_rfl, fun _ h => dueA h⟩
theorem good_l3_96_3 : GoodP rnL cd3 (F_T10r1 ++ lem_l3_96) T_T10r1.toS aG45 aX46 aP27 := ⟨aO28, by kernel_rfl, fun _ h => dueA h⟩
theorem good_l3_96_4 : GoodP rnL cd3 (F_T10r1 ++ lem_l3_96) T_T10r1.toS aG45 aX46 aP29 := ⟨aO30, by kernel_rfl, fun _ h => dueA h⟩
theorem good_l3_96_5 : GoodP rnL cd3 (F_T10r1 ++ lem_l3_96) T_T10r1.toS aG45 aX46 aP31 := ⟨aO32, by kernel_rfl, fun _ h => dueA h⟩
theorem good_l3_97_0 : GoodP rnL cd3 (F_T10r8 ++ lem_l3_97) T_T10r8.toS aG45 aX46 aP21 := ⟨aO22, by kernel_rfl, fun _ h => dueA h⟩
theorem good_l3_97_1 : GoodP rnL cd3 (F_T10r8 ++ lem_l3_97) T_T10r8.toS aG45 aX46 aP23 := ⟨aO24, by kernel_rfl, fun _ h => dueA h⟩
theorem good_l3_97_2 : GoodP rnL cd3 (F_T10r8 ++ lem_l3_97) T_T10r8.toS aG45 aX46 aP25 := ⟨aO26, by kernel_rfl, fun _ h => dueA h⟩
end Go.Proofs.Ytiocpbfbhbgfaaa.busAlone
