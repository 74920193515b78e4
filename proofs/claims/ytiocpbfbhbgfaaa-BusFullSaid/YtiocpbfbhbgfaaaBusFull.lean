/-
  'BusFull' ('tappet/tappetlaw20.BusFull'): the executor's runs (Sx) of the parts, checked by the kernel, put together by the rules of loops and by contracts of what is called, are the walk. Printed by program.
-/
import Derived.Test.YtiocpbfbhbgfaaaBusFullR0
import Derived.Test.YtiocpbfbhbgfaaaBusFullR1
import Derived.Test.YtiocpbfbhbgfaaaBusFullR2
import Derived.Test.YtiocpbfbhbgfaaaBusFullR3
import Derived.Test.YtiocpbfbhbgfaaaBusFullR4
import Derived.Test.YtiocpbfbhbgfaaaBusFullR5
import Derived.Test.YtiocpbfbhbgfaaaBusFullR6
import Derived.Test.YtiocpbfbhbgfaaaBusFullR7
import Derived.Test.YtiocpbfbhbgfaaaBusFullR8
import Derived.Test.YtiocpbfbhbgfaaaBusFullR9
import Derived.Test.YtiocpbfbhbgfaaaBusFullR10
import Derived.Test.YtiocpbfbhbgfaaaBusFullR11
import Derived.Test.YtiocpbfbhbgfaaaBusFullR12
import Derived.Test.YtiocpbfbhbgfaaaBusFullR13
import Derived.Test.YtiocpbfbhbgfaaaBusFullR14
import Derived.Test.YtiocpbfbhbgfaaaBusFullR15
import Derived.Test.YtiocpbfbhbgfaaaBusFullR16
import Derived.Test.YtiocpbfbhbgfaaaBusFullR17
import Derived.Test.YtiocpbfbhbgfaaaBusFullR18
import Derived.Test.YtiocpbfbhbgfaaaBusFullR19
import Derived.Test.YtiocpbfbhbgfaaaBusFullR20
import Derived.Test.YtiocpbfbhbgfaaaBusFullR21
import Derived.Test.YtiocpbfbhbgfaaaBusFullR22
import Derived.Test.YtiocpbfbhbgfaaaBusFullR23
import Derived.Test.YtiocpbfbhbgfaaaBusFullR24
import Derived.Test.YtiocpbfbhbgfaaaBusFullR25
import Derived.Test.YtiocpbfbhbgfaaaBusFullR26
import Derived.Test.YtiocpbfbhbgfaaaBusFullR27
import Derived.Test.YtiocpbfbhbgfaaaBusFullR28
import Derived.Test.YtiocpbfbhbgfaaaBusFullR29
import Derived.Test.YtiocpbfbhbgfaaaBusFullR30
import Derived.Test.YtiocpbfbhbgfaaaBusFullR31
import Derived.Test.YtiocpbfbhbgfaaaBusFullR32
namespace Go.Proofs.Ytiocpbfbhbgfaaa.busFull
open Go.ChangeShapes Go.WideShapes Go.ChangeAt Go.RowKit Go.Sx
set_option linter.unusedVariables false
set_option linter.unusedSimpArgs false
theorem hbody : Try.f6.body = some (bodyOf Try.f6) := by kernel_rfl
theorem hfunc : Try.prog.funcs[6]? = some Try.f6 := by kernel_rfl
theorem hfls : flagsAll Try.prog Try.f6.params.toList = [[true, false], [false, false]] := by kernel_rfl
set_option maxRecDepth 100000
theorem own : ownKnob Try.prog.godebug = none := by kernel_rfl
theorem kids : Kids Try.prog (· < Try.prog.types.size) := kids_rows (by kernel_rfl) (by kernel_rfl)
theorem full : ∀ t e, t < Try.prog.types.size → Try.prog.underlying t = some (.slice e) → 0 < Try.prog.cellsOf e := slices_full_of Try.prog (by kernel_rfl)
theorem fnOk : FnOk Try.prog (fnOf Try.prog) := fnOf_ok (by kernel_rfl)
theorem mixed : Try.prog.follows .mixedOrders = true := by kernel_rfl
theorem rets : Try.f6.resultTypes = #[4] := by kernel_rfl
theorem bool_ : Try.prog.underlying 4 = some .bool := by kernel_rfl
theorem good_c_awake_0paths : DT.paths .leaf = [[]] := by kernel_rfl
theorem good_c_awake_0 : GoodT ⟨(TI.of Try.prog), (fnOf Try.prog), ⟨[], ctOf []⟩, 400, Try.f11, (some ct_awake.R)⟩ (flat (bodyOf Try.f11)) (ct_awake.facts ++ lem_c_awake_0) ct_awake.s0 none [] .leaf := by
  unfold GoodT
  rw [good_c_awake_0paths]
  simp only [List.forall_mem_cons]
  exact ⟨good_c_awake_0_0, fun _ h => absurd h List.not_mem_nil⟩
theorem good_l0_1paths : DT.paths .leaf = [[]] := by kernel_rfl
theorem good_l0_1 : GoodT ⟨(TI.of Try.prog), (fnOf Try.prog), ⟨[], ctOf [ct_awake]⟩, 400, Try.f6, none⟩ (flat (bodyOf Try.f6)) (facts0 ++ lem_l0_1) st0 none [] .leaf := by
  unfold GoodT
  rw [good_l0_1paths]
  simp only [List.forall_mem_cons]
  exact ⟨good_l0_1_0, fun _ h => absurd h List.not_mem_nil⟩
theorem good_l1_2paths : DT.paths (.node (.bin .lt (.bin .rem (.un (.wrap .u64) (.var 2)) (.lit (.ofNat 3))) (.lit (.ofNat 1))) .leaf (.node (.bin .lt (.bin .rem (.un (.wrap .u64) (.var 2)) (.lit (.ofNat 3))) (.lit (.ofNat 2))) .leaf .leaf)) = [[((.bin .lt (.bin .rem (.un (.wrap .u64) (.var 2)) (.lit (.ofNat 3))) (.lit (.ofNat 1))), true)], [((.bin .lt (.bin .rem (.un (.wrap .u64) (.var 2)) (.lit (.ofNat 3))) (.lit (.ofNat 1))), false), ((.bin .lt (.bin .rem (.un (.wrap .u64) (.var 2)) (.lit (.ofNat 3))) (.lit (.ofNat 2))), true)], [((.bin .lt (.bin .rem (.un (.wrap .u64) (.var 2)) (.lit (.ofNat 3))) (.lit (.ofNat 1))), false), ((.bin .lt (.bin .rem (.un (.wrap .u64) (.var 2)) (.lit (.ofNat 3))) (.lit (.ofNat 2))), false)]] := by kernel_rfl
theorem good_l1_2 : GoodT ⟨(TI.of Try.prog), (fnOf Try.prog), ⟨[], ctOf [ct_awake]⟩, 400, Try.f6, none⟩ ((flat (bodyOf Try.f6)).take 8) (facts1 ++ lem_l1_2) st1 (some ⟨T000, F000, [], fam⟩) [] (.node (.bin .lt (.bin .rem (.un (.wrap .u64) (.var 2)) (.lit (.ofNat 3))) (.lit (.ofNat 1))) .leaf (.node (.bin .lt (.bin .rem (.un (.wrap .u64) (.var 2)) (.lit (.ofNat 3))) (.lit (.ofNat 2))) .leaf .leaf)) := by
  unfold GoodT
  rw [good_l1_2paths]
  simp only [List.forall_mem_cons]
  exact ⟨good_l1_2_0, good_l1_2_1, good_l1_2_2, fun _ h => absurd h List.not_mem_nil⟩
theorem good_l1_3paths : DT.paths .leaf = [[]] := by kernel_rfl
theorem good_l1_3 : GoodT ⟨(TI.of Try.prog), (fnOf Try.prog), ⟨[], ctOf [ct_awake]⟩, 400, Try.f6, none⟩ (flat (loopBody (flat (bodyOf Try.f6)) 8)) (F000 ++ lem_l1_3) T000.toS (some ⟨T000, F000, [(110, some 41)], fam⟩) [(0, ⟨TE, FE, [], []⟩)] .leaf := by
  unfold GoodT
  rw [good_l1_3paths]
  simp only [List.forall_mem_cons]
  exact ⟨good_l1_3_0, fun _ h => absurd h List.not_mem_nil⟩
theorem good_l1_4paths : DT.paths (.node (.bin .eq (.var 101) idE) .leaf .leaf) = [[((.bin .eq (.var 101) idE), true)], [((.bin .eq (.var 101) idE), false)]] := by kernel_rfl
theorem good_l1_4 : GoodT ⟨(TI.of Try.prog), (fnOf Try.prog), ⟨[], ctOf [ct_awake]⟩, 400, Try.f6, none⟩ (flat (loopBody (flat (bodyOf Try.f6)) 8)) (F001 ++ lem_l1_4) T001.toS (some ⟨T000, F000, [(110, some 41)], fam⟩) [(0, ⟨TE, FE, [], []⟩)] (.node (.bin .eq (.var 101) idE) .leaf .leaf) := by
  unfold GoodT
  rw [good_l1_4paths]
  simp only [List.forall_mem_cons]
  exact ⟨good_l1_4_0, good_l1_4_1, fun _ h => absurd h List.not_mem_nil⟩
theorem good_l1_5paths : DT.paths (.node (.bin .eq (.var 102) idE) .leaf (.node (.bin .eq (.var 101) idE) .leaf .leaf)) = [[((.bin .eq (.var 102) idE), true)], [((.bin .eq (.var 102) idE), false), ((.bin .eq (.var 101) idE), true)], [((.bin .eq (.var 102) idE), false), ((.bin .eq (.var 101) idE), false)]] := by kernel_rfl
theorem good_l1_5 : GoodT ⟨(TI.of Try.prog), (fnOf Try.prog), ⟨[], ctOf [ct_awake]⟩, 400, Try.f6, none⟩ (flat (loopBody (flat (bodyOf Try.f6)) 8)) (F002 ++ lem_l1_5) T002.toS (some ⟨T000, F000, [(110, some 41)], fam⟩) [(0, ⟨TE, FE, [], []⟩)] (.node (.bin .eq (.var 102) idE) .leaf (.node (.bin .eq (.var 101) idE) .leaf .leaf)) := by
  unfold GoodT
  rw [good_l1_5paths]
  simp only [List.forall_mem_cons]
  exact ⟨good_l1_5_0, good_l1_5_1, good_l1_5_2, fun _ h => absurd h List.not_mem_nil⟩
theorem good_l1_6paths : DT.paths (.node (.bin .eq (.var 103) idE) .leaf (.node (.bin .eq (.var 102) idE) .leaf (.node (.bin .eq (.var 101) idE) .leaf .leaf))) = [[((.bin .eq (.var 103) idE), true)], [((.bin .eq (.var 103) idE), false), ((.bin .eq (.var 102) idE), true)], [((.bin .eq (.var 103) idE), false), ((.bin .eq (.var 102) idE), false), ((.bin .eq (.var 101) idE), true)], [((.bin .eq (.var 103) idE), false), ((.bin .eq (.var 102) idE), false), ((.bin .eq (.var 101) idE), false)]] := by kernel_rfl
theorem good_l1_6 : GoodT ⟨(TI.of Try.prog), (fnOf Try.prog), ⟨[], ctOf [ct_awake]⟩, 400, Try.f6, none⟩ (flat (loopBody (flat (bodyOf Try.f6)) 8)) (F003 ++ lem_l1_6) T003.toS (some ⟨T000, F000, [(110, some 41)], fam⟩) [(0, ⟨TE, FE, [], []⟩)] (.node (.bin .eq (.var 103) idE) .leaf (.node (.bin .eq (.var 102) idE) .leaf (.node (.bin .eq (.var 101) idE) .leaf .leaf))) := by
  unfold GoodT
  rw [good_l1_6paths]
  simp only [List.forall_mem_cons]
  exact ⟨good_l1_6_0, good_l1_6_1, good_l1_6_2, good_l1_6_3, fun _ h => absurd h List.not_mem_nil⟩
theorem good_l1_7paths : DT.paths .leaf = [[]] := by kernel_rfl
theorem good_l1_7 : GoodT ⟨(TI.of Try.prog), (fnOf Try.prog), ⟨[], ctOf [ct_awake]⟩, 400, Try.f6, none⟩ (flat (loopBody (flat (bodyOf Try.f6)) 8)) (F004 ++ lem_l1_7) T004.toS (some ⟨T000, F000, [(110, some 41)], fam⟩) [(0, ⟨TE, FE, [], []⟩)] .leaf := by
  unfold GoodT
  rw [good_l1_7paths]
  simp only [List.forall_mem_cons]
  exact ⟨good_l1_7_0, fun _ h => absurd h List.not_mem_nil⟩
theorem good_l1_8paths : DT.paths (.node (.bin .eq (.var 101) idE) .leaf .leaf) = [[((.bin .eq (.var 101) idE), true)], [((.bin .eq (.var 101) idE), false)]] := by kernel_rfl
theorem good_l1_8 : GoodT ⟨(TI.of Try.prog), (fnOf Try.prog), ⟨[], ctOf [ct_awake]⟩, 400, Try.f6, none⟩ (flat (loopBody (flat (bodyOf Try.f6)) 8)) (F010 ++ lem_l1_8) T010.toS (some ⟨T000, F000, [(110, some 41)], fam⟩) [(0, ⟨TE, FE, [], []⟩)] (.node (.bin .eq (.var 101) idE) .leaf .leaf) := by
  unfold GoodT
  rw [good_l1_8paths]
  simp only [List.forall_mem_cons]
  exact ⟨good_l1_8_0, good_l1_8_1, fun _ h => absurd h List.not_mem_nil⟩
theorem good_l1_9paths : DT.paths (.node (.bin .eq (.var 102) idE) .leaf (.node (.bin .eq (.var 101) idE) .leaf .leaf)) = [[((.bin .eq (.var 102) idE), true)], [((.bin .eq (.var 102) idE), false), ((.bin .eq (.var 101) idE), true)], [((.bin .eq (.var 102) idE), false), ((.bin .eq (.var 101) idE), false)]] := by kernel_rfl
theorem good_l1_9 : GoodT ⟨(TI.of Try.prog), (fnOf Try.prog), ⟨[], ctOf [ct_awake]⟩, 400, Try.f6, none⟩ (flat (loopBody (flat (bodyOf Try.f6)) 8)) (F011 ++ lem_l1_9) T011.toS (some ⟨T000, F000, [(110, some 41)], fam⟩) [(0, ⟨TE, FE, [], []⟩)] (.node (.bin .eq (.var 102) idE) .leaf (.node (.bin .eq (.var 101) idE) .leaf .leaf)) := by
  unfold GoodT
  rw [good_l1_9paths]
  simp only [List.forall_mem_cons]
  exact ⟨good_l1_9_0, good_l1_9_1, good_l1_9_2, fun _ h => absurd h List.not_mem_nil⟩
theorem good_l1_10paths : DT.paths (.node (.bin .eq (.var 103) idE) .leaf (.node (.bin .eq (.var 102) idE) .leaf (.node (.bin .eq (.var 101) idE) .leaf .leaf))) = [[((.bin .eq (.var 103) idE), true)], [((.bin .eq (.var 103) idE), false), ((.bin .eq (.var 102) idE), true)], [((.bin .eq (.var 103) idE), false), ((.bin .eq (.var 102) idE), false), ((.bin .eq (.var 101) idE), true)], [((.bin .eq (.var 103) idE), false), ((.bin .eq (.var 102) idE), false), ((.bin .eq (.var 101) idE), false)]] := by kernel_rfl
theorem good_l1_10 : GoodT ⟨(TI.of Try.prog), (fnOf Try.prog), ⟨[], ctOf [ct_awake]⟩, 400, Try.f6, none⟩ (flat (loopBody (flat (bodyOf Try.f6)) 8)) (F012 ++ lem_l1_10) T012.toS (some ⟨T000, F000, [(110, some 41)], fam⟩) [(0, ⟨TE, FE, [], []⟩)] (.node (.bin .eq (.var 103) idE) .leaf (.node (.bin .eq (.var 102) idE) .leaf (.node (.bin .eq (.var 101) idE) .leaf .leaf))) := by
  unfold GoodT
  rw [good_l1_10paths]
  simp only [List.forall_mem_cons]
  exact ⟨good_l1_10_0, good_l1_10_1, good_l1_10_2, good_l1_10_3, fun _ h => absurd h List.not_mem_nil⟩
theorem good_l1_11paths : DT.paths (.node (.bin .eq (.var 104) idE) .leaf (.node (.bin .eq (.var 103) idE) .leaf (.node (.bin .eq (.var 102) idE) .leaf (.node (.bin .eq (.var 101) idE) .leaf .leaf)))) = [[((.bin .eq (.var 104) idE), true)], [((.bin .eq (.var 104) idE), false), ((.bin .eq (.var 103) idE), true)], [((.bin .eq (.var 104) idE), false), ((.bin .eq (.var 103) idE), false), ((.bin .eq (.var 102) idE), true)], [((.bin .eq (.var 104) idE), false), ((.bin .eq (.var 103) idE), false), ((.bin .eq (.var 102) idE), false), ((.bin .eq (.var 101) idE), true)], [((.bin .eq (.var 104) idE), false), ((.bin .eq (.var 103) idE), false), ((.bin .eq (.var 102) idE), false), ((.bin .eq (.var 101) idE), false)]] := by kernel_rfl
theorem good_l1_11 : GoodT ⟨(TI.of Try.prog), (fnOf Try.prog), ⟨[], ctOf [ct_awake]⟩, 400, Try.f6, none⟩ (flat (loopBody (flat (bodyOf Try.f6)) 8)) (F013 ++ lem_l1_11) T013.toS (some ⟨T000, F000, [(110, some 41)], fam⟩) [(0, ⟨TE, FE, [], []⟩)] (.node (.bin .eq (.var 104) idE) .leaf (.node (.bin .eq (.var 103) idE) .leaf (.node (.bin .eq (.var 102) idE) .leaf (.node (.bin .eq (.var 101) idE) .leaf .leaf)))) := by
  unfold GoodT
  rw [good_l1_11paths]
  simp only [List.forall_mem_cons]
  exact ⟨good_l1_11_0, good_l1_11_1, good_l1_11_2, good_l1_11_3, good_l1_11_4, fun _ h => absurd h List.not_mem_nil⟩
theorem good_l1_12paths : DT.paths .leaf = [[]] := by kernel_rfl
theorem good_l1_12 : GoodT ⟨(TI.of Try.prog), (fnOf Try.prog), ⟨[], ctOf [ct_awake]⟩, 400, Try.f6, none⟩ (flat (loopBody (flat (bodyOf Try.f6)) 8)) (F014 ++ lem_l1_12) T014.toS (some ⟨T000, F000, [(110, some 41)], fam⟩) [(0, ⟨TE, FE, [], []⟩)] .leaf := by
  unfold GoodT
  rw [good_l1_12paths]
  simp only [List.forall_mem_cons]
  exact ⟨good_l1_12_0, fun _ h => absurd h List.not_mem_nil⟩
theorem good_l1_13paths : DT.paths (.node (.bin .eq (.var 102) idE) .leaf (.node (.bin .eq (.var 101) idE) .leaf .leaf)) = [[((.bin .eq (.var 102) idE), true)], [((.bin .eq (.var 102) idE), false), ((.bin .eq (.var 101) idE), true)], [((.bin .eq (.var 102) idE), false), ((.bin .eq (.var 101) idE), false)]] := by kernel_rfl
theorem good_l1_13 : GoodT ⟨(TI.of Try.prog), (fnOf Try.prog), ⟨[], ctOf [ct_awake]⟩, 400, Try.f6, none⟩ (flat (loopBody (flat (bodyOf Try.f6)) 8)) (F020 ++ lem_l1_13) T020.toS (some ⟨T000, F000, [(110, some 41)], fam⟩) [(0, ⟨TE, FE, [], []⟩)] (.node (.bin .eq (.var 102) idE) .leaf (.node (.bin .eq (.var 101) idE) .leaf .leaf)) := by
  unfold GoodT
  rw [good_l1_13paths]
  simp only [List.forall_mem_cons]
  exact ⟨good_l1_13_0, good_l1_13_1, good_l1_13_2, fun _ h => absurd h List.not_mem_nil⟩
theorem good_l1_14paths : DT.paths (.node (.bin .eq (.var 103) idE) .leaf (.node (.bin .eq (.var 102) idE) .leaf (.node (.bin .eq (.var 101) idE) .leaf .leaf))) = [[((.bin .eq (.var 103) idE), true)], [((.bin .eq (.var 103) idE), false), ((.bin .eq (.var 102) idE), true)], [((.bin .eq (.var 103) idE), false), ((.bin .eq (.var 102) idE), false), ((.bin .eq (.var 101) idE), true)], [((.bin .eq (.var 103) idE), false), ((.bin .eq (.var 102) idE), false), ((.bin .eq (.var 101) idE), false)]] := by kernel_rfl
theorem good_l1_14 : GoodT ⟨(TI.of Try.prog), (fnOf Try.prog), ⟨[], ctOf [ct_awake]⟩, 400, Try.f6, none⟩ (flat (loopBody (flat (bodyOf Try.f6)) 8)) (F021 ++ lem_l1_14) T021.toS (some ⟨T000, F000, [(110, some 41)], fam⟩) [(0, ⟨TE, FE, [], []⟩)] (.node (.bin .eq (.var 103) idE) .leaf (.node (.bin .eq (.var 102) idE) .leaf (.node (.bin .eq (.var 101) idE) .leaf .leaf))) := by
  unfold GoodT
  rw [good_l1_14paths]
  simp only [List.forall_mem_cons]
  exact ⟨good_l1_14_0, good_l1_14_1, good_l1_14_2, good_l1_14_3, fun _ h => absurd h List.not_mem_nil⟩
theorem good_l1_15paths : DT.paths (.node (.bin .eq (.var 104) idE) .leaf (.node (.bin .eq (.var 103) idE) .leaf (.node (.bin .eq (.var 102) idE) .leaf (.node (.bin .eq (.var 101) idE) .leaf .leaf)))) = [[((.bin .eq (.var 104) idE), true)], [((.bin .eq (.var 104) idE), false), ((.bin .eq (.var 103) idE), true)], [((.bin .eq (.var 104) idE), false), ((.bin .eq (.var 103) idE), false), ((.bin .eq (.var 102) idE), true)], [((.bin .eq (.var 104) idE), false), ((.bin .eq (.var 103) idE), false), ((.bin .eq (.var 102) idE), false), ((.bin .eq (.var 101) idE), true)], [((.bin .eq (.var 104) idE), false), ((.bin .eq (.var 103) idE), false), ((.bin .eq (.var 102) idE), false), ((.bin .eq (.var 101) idE), false)]] := by kernel_rfl
theorem good_l1_15 : GoodT ⟨(TI.of Try.prog), (fnOf Try.prog), ⟨[], ctOf [ct_awake]⟩, 400, Try.f6, none⟩ (flat (loopBody (flat (bodyOf Try.f6)) 8)) (F022 ++ lem_l1_15) T022.toS (some ⟨T000, F000, [(110, some 41)], fam⟩) [(0, ⟨TE, FE, [], []⟩)] (.node (.bin .eq (.var 104) idE) .leaf (.node (.bin .eq (.var 103) idE) .leaf (.node (.bin .eq (.var 102) idE) .leaf (.node (.bin .eq (.var 101) idE) .leaf .leaf)))) := by
  unfold GoodT
  rw [good_l1_15paths]
  simp only [List.forall_mem_cons]
  exact ⟨good_l1_15_0, good_l1_15_1, good_l1_15_2, good_l1_15_3, good_l1_15_4, fun _ h => absurd h List.not_mem_nil⟩
theorem good_l1_16paths : DT.paths (.node (.bin .eq (.var 105) idE) .leaf (.node (.bin .eq (.var 104) idE) .leaf (.node (.bin .eq (.var 103) idE) .leaf (.node (.bin .eq (.var 102) idE) .leaf (.node (.bin .eq (.var 101) idE) .leaf .leaf))))) = [[((.bin .eq (.var 105) idE), true)], [((.bin .eq (.var 105) idE), false), ((.bin .eq (.var 104) idE), true)], [((.bin .eq (.var 105) idE), false), ((.bin .eq (.var 104) idE), false), ((.bin .eq (.var 103) idE), true)], [((.bin .eq (.var 105) idE), false), ((.bin .eq (.var 104) idE), false), ((.bin .eq (.var 103) idE), false), ((.bin .eq (.var 102) idE), true)], [((.bin .eq (.var 105) idE), false), ((.bin .eq (.var 104) idE), false), ((.bin .eq (.var 103) idE), false), ((.bin .eq (.var 102) idE), false), ((.bin .eq (.var 101) idE), true)], [((.bin .eq (.var 105) idE), false), ((.bin .eq (.var 104) idE), false), ((.bin .eq (.var 103) idE), false), ((.bin .eq (.var 102) idE), false), ((.bin .eq (.var 101) idE), false)]] := by kernel_rfl
theorem good_l1_16 : GoodT ⟨(TI.of Try.prog), (fnOf Try.prog), ⟨[], ctOf [ct_awake]⟩, 400, Try.f6, none⟩ (flat (loopBody (flat (bodyOf Try.f6)) 8)) (F023 ++ lem_l1_16) T023.toS (some ⟨T000, F000, [(110, some 41)], fam⟩) [(0, ⟨TE, FE, [], []⟩)] (.node (.bin .eq (.var 105) idE) .leaf (.node (.bin .eq (.var 104) idE) .leaf (.node (.bin .eq (.var 103) idE) .leaf (.node (.bin .eq (.var 102) idE) .leaf (.node (.bin .eq (.var 101) idE) .leaf .leaf))))) := by
  unfold GoodT
  rw [good_l1_16paths]
  simp only [List.forall_mem_cons]
  exact ⟨good_l1_16_0, good_l1_16_1, good_l1_16_2, good_l1_16_3, good_l1_16_4, good_l1_16_5, fun _ h => absurd h List.not_mem_nil⟩
theorem good_l1_17paths : DT.paths .leaf = [[]] := by kernel_rfl
theorem good_l1_17 : GoodT ⟨(TI.of Try.prog), (fnOf Try.prog), ⟨[], ctOf [ct_awake]⟩, 400, Try.f6, none⟩ (flat (loopBody (flat (bodyOf Try.f6)) 8)) (F024 ++ lem_l1_17) T024.toS (some ⟨T000, F000, [(110, some 41)], fam⟩) [(0, ⟨TE, FE, [], []⟩)] .leaf := by
  unfold GoodT
  rw [good_l1_17paths]
  simp only [List.forall_mem_cons]
  exact ⟨good_l1_17_0, fun _ h => absurd h List.not_mem_nil⟩
theorem good_l1_18paths : DT.paths (.node (.bin .eq (.var 103) idE) .leaf (.node (.bin .eq (.var 102) idE) .leaf (.node (.bin .eq (.var 101) idE) .leaf .leaf))) = [[((.bin .eq (.var 103) idE), true)], [((.bin .eq (.var 103) idE), false), ((.bin .eq (.var 102) idE), true)], [((.bin .eq (.var 103) idE), false), ((.bin .eq (.var 102) idE), false), ((.bin .eq (.var 101) idE), true)], [((.bin .eq (.var 103) idE), false), ((.bin .eq (.var 102) idE), false), ((.bin .eq (.var 101) idE), false)]] := by kernel_rfl
theorem good_l1_18 : GoodT ⟨(TI.of Try.prog), (fnOf Try.prog), ⟨[], ctOf [ct_awake]⟩, 400, Try.f6, none⟩ (flat (loopBody (flat (bodyOf Try.f6)) 8)) (F030 ++ lem_l1_18) T030.toS (some ⟨T000, F000, [(110, some 41)], fam⟩) [(0, ⟨TE, FE, [], []⟩)] (.node (.bin .eq (.var 103) idE) .leaf (.node (.bin .eq (.var 102) idE) .leaf (.node (.bin .eq (.var 101) idE) .leaf .leaf))) := by
  unfold GoodT
  rw [good_l1_18paths]
  simp only [List.forall_mem_cons]
  exact ⟨good_l1_18_0, good_l1_18_1, good_l1_18_2, good_l1_18_3, fun _ h => absurd h List.not_mem_nil⟩
theorem good_l1_19paths : DT.paths (.node (.bin .eq (.var 104) idE) .leaf (.node (.bin .eq (.var 103) idE) .leaf (.node (.bin .eq (.var 102) idE) .leaf (.node (.bin .eq (.var 101) idE) .leaf .leaf)))) = [[((.bin .eq (.var 104) idE), true)], [((.bin .eq (.var 104) idE), false), ((.bin .eq (.var 103) idE), true)], [((.bin .eq (.var 104) idE), false), ((.bin .eq (.var 103) idE), false), ((.bin .eq (.var 102) idE), true)], [((.bin .eq (.var 104) idE), false), ((.bin .eq (.var 103) idE), false), ((.bin .eq (.var 102) idE), false), ((.bin .eq (.var 101) idE), true)], [((.bin .eq (.var 104) idE), false), ((.bin .eq (.var 103) idE), false), ((.bin .eq (.var 102) idE), false), ((.bin .eq (.var 101) idE), false)]] := by kernel_rfl
theorem good_l1_19 : GoodT ⟨(TI.of Try.prog), (fnOf Try.prog), ⟨[], ctOf [ct_awake]⟩, 400, Try.f6, none⟩ (flat (loopBody (flat (bodyOf Try.f6)) 8)) (F031 ++ lem_l1_19) T031.toS (some ⟨T000, F000, [(110, some 41)], fam⟩) [(0, ⟨TE, FE, [], []⟩)] (.node (.bin .eq (.var 104) idE) .leaf (.node (.bin .eq (.var 103) idE) .leaf (.node (.bin .eq (.var 102) idE) .leaf (.node (.bin .eq (.var 101) idE) .leaf .leaf)))) := by
  unfold GoodT
  rw [good_l1_19paths]
  simp only [List.forall_mem_cons]
  exact ⟨good_l1_19_0, good_l1_19_1, good_l1_19_2, good_l1_19_3, good_l1_19_4, fun _ h => absurd h List.not_mem_nil⟩
theorem good_l1_20paths : DT.paths (.node (.bin .eq (.var 105) idE) .leaf (.node (.bin .eq (.var 104) idE) .leaf (.node (.bin .eq (.var 103) idE) .leaf (.node (.bin .eq (.var 102) idE) .leaf (.node (.bin .eq (.var 101) idE) .leaf .leaf))))) = [[((.bin .eq (.var 105) idE), true)], [((.bin .eq (.var 105) idE), false), ((.bin .eq (.var 104) idE), true)], [((.bin .eq (.var 105) idE), false), ((.bin .eq (.var 104) idE), false), ((.bin .eq (.var 103) idE), true)], [((.bin .eq (.var 105) idE), false), ((.bin .eq (.var 104) idE), false), ((.bin .eq (.var 103) idE), false), ((.bin .eq (.var 102) idE), true)], [((.bin .eq (.var 105) idE), false), ((.bin .eq (.var 104) idE), false), ((.bin .eq (.var 103) idE), false), ((.bin .eq (.var 102) idE), false), ((.bin .eq (.var 101) idE), true)], [((.bin .eq (.var 105) idE), false), ((.bin .eq (.var 104) idE), false), ((.bin .eq (.var 103) idE), false), ((.bin .eq (.var 102) idE), false), ((.bin .eq (.var 101) idE), false)]] := by kernel_rfl
theorem good_l1_20 : GoodT ⟨(TI.of Try.prog), (fnOf Try.prog), ⟨[], ctOf [ct_awake]⟩, 400, Try.f6, none⟩ (flat (loopBody (flat (bodyOf Try.f6)) 8)) (F032 ++ lem_l1_20) T032.toS (some ⟨T000, F000, [(110, some 41)], fam⟩) [(0, ⟨TE, FE, [], []⟩)] (.node (.bin .eq (.var 105) idE) .leaf (.node (.bin .eq (.var 104) idE) .leaf (.node (.bin .eq (.var 103) idE) .leaf (.node (.bin .eq (.var 102) idE) .leaf (.node (.bin .eq (.var 101) idE) .leaf .leaf))))) := by
  unfold GoodT
  rw [good_l1_20paths]
  simp only [List.forall_mem_cons]
  exact ⟨good_l1_20_0, good_l1_20_1, good_l1_20_2, good_l1_20_3, good_l1_20_4, good_l1_20_5, fun _ h => absurd h List.not_mem_nil⟩
theorem good_l1_21paths : DT.paths (.node (.bin .eq (.var 106) idE) .leaf (.node (.bin .eq (.var 105) idE) .leaf (.node (.bin .eq (.var 104) idE) .leaf (.node (.bin .eq (.var 103) idE) .leaf (.node (.bin .eq (.var 102) idE) .leaf (.node (.bin .eq (.var 101) idE) .leaf .leaf)))))) = [[((.bin .eq (.var 106) idE), true)], [((.bin .eq (.var 106) idE), false), ((.bin .eq (.var 105) idE), true)], [((.bin .eq (.var 106) idE), false), ((.bin .eq (.var 105) idE), false), ((.bin .eq (.var 104) idE), true)], [((.bin .eq (.var 106) idE), false), ((.bin .eq (.var 105) idE), false), ((.bin .eq (.var 104) idE), false), ((.bin .eq (.var 103) idE), true)], [((.bin .eq (.var 106) idE), false), ((.bin .eq (.var 105) idE), false), ((.bin .eq (.var 104) idE), false), ((.bin .eq (.var 103) idE), false), ((.bin .eq (.var 102) idE), true)], [((.bin .eq (.var 106) idE), false), ((.bin .eq (.var 105) idE), false), ((.bin .eq (.var 104) idE), false), ((.bin .eq (.var 103) idE), false), ((.bin .eq (.var 102) idE), false), ((.bin .eq (.var 101) idE), true)], [((.bin .eq (.var 106) idE), false), ((.bin .eq (.var 105) idE), false), ((.bin .eq (.var 104) idE), false), ((.bin .eq (.var 103) idE), false), ((.bin .eq (.var 102) idE), false), ((.bin .eq (.var 101) idE), false)]] := by kernel_rfl
theorem good_l1_21 : GoodT ⟨(TI.of Try.prog), (fnOf Try.prog), ⟨[], ctOf [ct_awake]⟩, 400, Try.f6, none⟩ (flat (loopBody (flat (bodyOf Try.f6)) 8)) (F033 ++ lem_l1_21) T033.toS (some ⟨T000, F000, [(110, some 41)], fam⟩) [(0, ⟨TE, FE, [], []⟩)] (.node (.bin .eq (.var 106) idE) .leaf (.node (.bin .eq (.var 105) idE) .leaf (.node (.bin .eq (.var 104) idE) .leaf (.node (.bin .eq (.var 103) idE) .leaf (.node (.bin .eq (.var 102) idE) .leaf (.node (.bin .eq (.var 101) idE) .leaf .leaf)))))) := by
  unfold GoodT
  rw [good_l1_21paths]
  simp only [List.forall_mem_cons]
  exact ⟨good_l1_21_0, good_l1_21_1, good_l1_21_2, good_l1_21_3, good_l1_21_4, good_l1_21_5, good_l1_21_6, fun _ h => absurd h List.not_mem_nil⟩
theorem good_l1_22paths : DT.paths .leaf = [[]] := by kernel_rfl
theorem good_l1_22 : GoodT ⟨(TI.of Try.prog), (fnOf Try.prog), ⟨[], ctOf [ct_awake]⟩, 400, Try.f6, none⟩ (flat (loopBody (flat (bodyOf Try.f6)) 8)) (F034 ++ lem_l1_22) T034.toS (some ⟨T000, F000, [(110, some 41)], fam⟩) [(0, ⟨TE, FE, [], []⟩)] .leaf := by
  unfold GoodT
  rw [good_l1_22paths]
  simp only [List.forall_mem_cons]
  exact ⟨good_l1_22_0, fun _ h => absurd h List.not_mem_nil⟩
theorem good_l1_23paths : DT.paths (.node (.bin .eq (.var 104) idE) .leaf (.node (.bin .eq (.var 103) idE) .leaf (.node (.bin .eq (.var 102) idE) .leaf (.node (.bin .eq (.var 101) idE) .leaf .leaf)))) = [[((.bin .eq (.var 104) idE), true)], [((.bin .eq (.var 104) idE), false), ((.bin .eq (.var 103) idE), true)], [((.bin .eq (.var 104) idE), false), ((.bin .eq (.var 103) idE), false), ((.bin .eq (.var 102) idE), true)], [((.bin .eq (.var 104) idE), false), ((.bin .eq (.var 103) idE), false), ((.bin .eq (.var 102) idE), false), ((.bin .eq (.var 101) idE), true)], [((.bin .eq (.var 104) idE), false), ((.bin .eq (.var 103) idE), false), ((.bin .eq (.var 102) idE), false), ((.bin .eq (.var 101) idE), false)]] := by kernel_rfl
theorem good_l1_23 : GoodT ⟨(TI.of Try.prog), (fnOf Try.prog), ⟨[], ctOf [ct_awake]⟩, 400, Try.f6, none⟩ (flat (loopBody (flat (bodyOf Try.f6)) 8)) (F040 ++ lem_l1_23) T040.toS (some ⟨T000, F000, [(110, some 41)], fam⟩) [(0, ⟨TE, FE, [], []⟩)] (.node (.bin .eq (.var 104) idE) .leaf (.node (.bin .eq (.var 103) idE) .leaf (.node (.bin .eq (.var 102) idE) .leaf (.node (.bin .eq (.var 101) idE) .leaf .leaf)))) := by
  unfold GoodT
  rw [good_l1_23paths]
  simp only [List.forall_mem_cons]
  exact ⟨good_l1_23_0, good_l1_23_1, good_l1_23_2, good_l1_23_3, good_l1_23_4, fun _ h => absurd h List.not_mem_nil⟩
theorem good_l1_24paths : DT.paths (.node (.bin .eq (.var 105) idE) .leaf (.node (.bin .eq (.var 104) idE) .leaf (.node (.bin .eq (.var 103) idE) .leaf (.node (.bin .eq (.var 102) idE) .leaf (.node (.bin .eq (.var 101) idE) .leaf .leaf))))) = [[((.bin .eq (.var 105) idE), true)], [((.bin .eq (.var 105) idE), false), ((.bin .eq (.var 104) idE), true)], [((.bin .eq (.var 105) idE), false), ((.bin .eq (.var 104) idE), false), ((.bin .eq (.var 103) idE), true)], [((.bin .eq (.var 105) idE), false), ((.bin .eq (.var 104) idE), false), ((.bin .eq (.var 103) idE), false), ((.bin .eq (.var 102) idE), true)], [((.bin .eq (.var 105) idE), false), ((.bin .eq (.var 104) idE), false), ((.bin .eq (.var 103) idE), false), ((.bin .eq (.var 102) idE), false), ((.bin .eq (.var 101) idE), true)], [((.bin .eq (.var 105) idE), false), ((.bin .eq (.var 104) idE), false), ((.bin .eq (.var 103) idE), false), ((.bin .eq (.var 102) idE), false), ((.bin .eq (.var 101) idE), false)]] := by kernel_rfl
theorem good_l1_24 : GoodT ⟨(TI.of Try.prog), (fnOf Try.prog), ⟨[], ctOf [ct_awake]⟩, 400, Try.f6, none⟩ (flat (loopBody (flat (bodyOf Try.f6)) 8)) (F041 ++ lem_l1_24) T041.toS (some ⟨T000, F000, [(110, some 41)], fam⟩) [(0, ⟨TE, FE, [], []⟩)] (.node (.bin .eq (.var 105) idE) .leaf (.node (.bin .eq (.var 104) idE) .leaf (.node (.bin .eq (.var 103) idE) .leaf (.node (.bin .eq (.var 102) idE) .leaf (.node (.bin .eq (.var 101) idE) .leaf .leaf))))) := by
  unfold GoodT
  rw [good_l1_24paths]
  simp only [List.forall_mem_cons]
  exact ⟨good_l1_24_0, good_l1_24_1, good_l1_24_2, good_l1_24_3, good_l1_24_4, good_l1_24_5, fun _ h => absurd h List.not_mem_nil⟩
theorem good_l1_25paths : DT.paths (.node (.bin .eq (.var 106) idE) .leaf (.node (.bin .eq (.var 105) idE) .leaf (.node (.bin .eq (.var 104) idE) .leaf (.node (.bin .eq (.var 103) idE) .leaf (.node (.bin .eq (.var 102) idE) .leaf (.node (.bin .eq (.var 101) idE) .leaf .leaf)))))) = [[((.bin .eq (.var 106) idE), true)], [((.bin .eq (.var 106) idE), false), ((.bin .eq (.var 105) idE), true)], [((.bin .eq (.var 106) idE), false), ((.bin .eq (.var 105) idE), false), ((.bin .eq (.var 104) idE), true)], [((.bin .eq (.var 106) idE), false), ((.bin .eq (.var 105) idE), false), ((.bin .eq (.var 104) idE), false), ((.bin .eq (.var 103) idE), true)], [((.bin .eq (.var 106) idE), false), ((.bin .eq (.var 105) idE), false), ((.bin .eq (.var 104) idE), false), ((.bin .eq (.var 103) idE), false), ((.bin .eq (.var 102) idE), true)], [((.bin .eq (.var 106) idE), false), ((.bin .eq (.var 105) idE), false), ((.bin .eq (.var 104) idE), false), ((.bin .eq (.var 103) idE), false), ((.bin .eq (.var 102) idE), false), ((.bin .eq (.var 101) idE), true)], [((.bin .eq (.var 106) idE), false), ((.bin .eq (.var 105) idE), false), ((.bin .eq (.var 104) idE), false), ((.bin .eq (.var 103) idE), false), ((.bin .eq (.var 102) idE), false), ((.bin .eq (.var 101) idE), false)]] := by kernel_rfl
theorem good_l1_25 : GoodT ⟨(TI.of Try.prog), (fnOf Try.prog), ⟨[], ctOf [ct_awake]⟩, 400, Try.f6, none⟩ (flat (loopBody (flat (bodyOf Try.f6)) 8)) (F042 ++ lem_l1_25) T042.toS (some ⟨T000, F000, [(110, some 41)], fam⟩) [(0, ⟨TE, FE, [], []⟩)] (.node (.bin .eq (.var 106) idE) .leaf (.node (.bin .eq (.var 105) idE) .leaf (.node (.bin .eq (.var 104) idE) .leaf (.node (.bin .eq (.var 103) idE) .leaf (.node (.bin .eq (.var 102) idE) .leaf (.node (.bin .eq (.var 101) idE) .leaf .leaf)))))) := by
  unfold GoodT
  rw [good_l1_25paths]
  simp only [List.forall_mem_cons]
  exact ⟨good_l1_25_0, good_l1_25_1, good_l1_25_2, good_l1_25_3, good_l1_25_4, good_l1_25_5, good_l1_25_6, fun _ h => absurd h List.not_mem_nil⟩
theorem good_l1_26paths : DT.paths (.node (.bin .eq (.var 107) idE) .leaf (.node (.bin .eq (.var 106) idE) .leaf (.node (.bin .eq (.var 105) idE) .leaf (.node (.bin .eq (.var 104) idE) .leaf (.node (.bin .eq (.var 103) idE) .leaf (.node (.bin .eq (.var 102) idE) .leaf (.node (.bin .eq (.var 101) idE) .leaf .leaf))))))) = [[((.bin .eq (.var 107) idE), true)], [((.bin .eq (.var 107) idE), false), ((.bin .eq (.var 106) idE), true)], [((.bin .eq (.var 107) idE), false), ((.bin .eq (.var 106) idE), false), ((.bin .eq (.var 105) idE), true)], [((.bin .eq (.var 107) idE), false), ((.bin .eq (.var 106) idE), false), ((.bin .eq (.var 105) idE), false), ((.bin .eq (.var 104) idE), true)], [((.bin .eq (.var 107) idE), false), ((.bin .eq (.var 106) idE), false), ((.bin .eq (.var 105) idE), false), ((.bin .eq (.var 104) idE), false), ((.bin .eq (.var 103) idE), true)], [((.bin .eq (.var 107) idE), false), ((.bin .eq (.var 106) idE), false), ((.bin .eq (.var 105) idE), false), ((.bin .eq (.var 104) idE), false), ((.bin .eq (.var 103) idE), false), ((.bin .eq (.var 102) idE), true)], [((.bin .eq (.var 107) idE), false), ((.bin .eq (.var 106) idE), false), ((.bin .eq (.var 105) idE), false), ((.bin .eq (.var 104) idE), false), ((.bin .eq (.var 103) idE), false), ((.bin .eq (.var 102) idE), false), ((.bin .eq (.var 101) idE), true)], [((.bin .eq (.var 107) idE), false), ((.bin .eq (.var 106) idE), false), ((.bin .eq (.var 105) idE), false), ((.bin .eq (.var 104) idE), false), ((.bin .eq (.var 103) idE), false), ((.bin .eq (.var 102) idE), false), ((.bin .eq (.var 101) idE), false)]] := by kernel_rfl
theorem good_l1_26 : GoodT ⟨(TI.of Try.prog), (fnOf Try.prog), ⟨[], ctOf [ct_awake]⟩, 400, Try.f6, none⟩ (flat (loopBody (flat (bodyOf Try.f6)) 8)) (F043 ++ lem_l1_26) T043.toS (some ⟨T000, F000, [(110, some 41)], fam⟩) [(0, ⟨TE, FE, [], []⟩)] (.node (.bin .eq (.var 107) idE) .leaf (.node (.bin .eq (.var 106) idE) .leaf (.node (.bin .eq (.var 105) idE) .leaf (.node (.bin .eq (.var 104) idE) .leaf (.node (.bin .eq (.var 103) idE) .leaf (.node (.bin .eq (.var 102) idE) .leaf (.node (.bin .eq (.var 101) idE) .leaf .leaf))))))) := by
  unfold GoodT
  rw [good_l1_26paths]
  simp only [List.forall_mem_cons]
  exact ⟨good_l1_26_0, good_l1_26_1, good_l1_26_2, good_l1_26_3, good_l1_26_4, good_l1_26_5, good_l1_26_6, good_l1_26_7, fun _ h => absurd h List.not_mem_nil⟩
theorem good_l1_27paths : DT.paths .leaf = [[]] := by kernel_rfl
theorem good_l1_27 : GoodT ⟨(TI.of Try.prog), (fnOf Try.prog), ⟨[], ctOf [ct_awake]⟩, 400, Try.f6, none⟩ (flat (loopBody (flat (bodyOf Try.f6)) 8)) (F044 ++ lem_l1_27) T044.toS (some ⟨T000, F000, [(110, some 41)], fam⟩) [(0, ⟨TE, FE, [], []⟩)] .leaf := by
  unfold GoodT
  rw [good_l1_27paths]
  simp only [List.forall_mem_cons]
  exact ⟨good_l1_27_0, fun _ h => absurd h List.not_mem_nil⟩
theorem good_l1_28paths : DT.paths .leaf = [[]] := by kernel_rfl
theorem good_l1_28 : GoodT ⟨(TI.of Try.prog), (fnOf Try.prog), ⟨[], ctOf [ct_awake]⟩, 400, Try.f6, none⟩ (flat (loopBody (flat (bodyOf Try.f6)) 8)) (F100 ++ lem_l1_28) T100.toS (some ⟨T000, F000, [(110, some 41)], fam⟩) [(0, ⟨TE, FE, [], []⟩)] .leaf := by
  unfold GoodT
  rw [good_l1_28paths]
  simp only [List.forall_mem_cons]
  exact ⟨good_l1_28_0, fun _ h => absurd h List.not_mem_nil⟩
theorem good_l1_29paths : DT.paths (.node (.bin .eq (.var 101) idE) .leaf .leaf) = [[((.bin .eq (.var 101) idE), true)], [((.bin .eq (.var 101) idE), false)]] := by kernel_rfl
theorem good_l1_29 : GoodT ⟨(TI.of Try.prog), (fnOf Try.prog), ⟨[], ctOf [ct_awake]⟩, 400, Try.f6, none⟩ (flat (loopBody (flat (bodyOf Try.f6)) 8)) (F101 ++ lem_l1_29) T101.toS (some ⟨T000, F000, [(110, some 41)], fam⟩) [(0, ⟨TE, FE, [], []⟩)] (.node (.bin .eq (.var 101) idE) .leaf .leaf) := by
  unfold GoodT
  rw [good_l1_29paths]
  simp only [List.forall_mem_cons]
  exact ⟨good_l1_29_0, good_l1_29_1, fun _ h => absurd h List.not_mem_nil⟩
theorem good_l1_30paths : DT.paths (.node (.bin .eq (.var 102) idE) .leaf (.node (.bin .eq (.var 101) idE) .leaf .leaf)) = [[((.bin .eq (.var 102) idE), true)], [((.bin .eq (.var 102) idE), false), ((.bin .eq (.var 101) idE), true)], [((.bin .eq (.var 102) idE), false), ((.bin .eq (.var 101) idE), false)]] := by kernel_rfl
theorem good_l1_30 : GoodT ⟨(TI.of Try.prog), (fnOf Try.prog), ⟨[], ctOf [ct_awake]⟩, 400, Try.f6, none⟩ (flat (loopBody (flat (bodyOf Try.f6)) 8)) (F102 ++ lem_l1_30) T102.toS (some ⟨T000, F000, [(110, some 41)], fam⟩) [(0, ⟨TE, FE, [], []⟩)] (.node (.bin .eq (.var 102) idE) .leaf (.node (.bin .eq (.var 101) idE) .leaf .leaf)) := by
  unfold GoodT
  rw [good_l1_30paths]
  simp only [List.forall_mem_cons]
  exact ⟨good_l1_30_0, good_l1_30_1, good_l1_30_2, fun _ h => absurd h List.not_mem_nil⟩
theorem good_l1_31paths : DT.paths (.node (.bin .eq (.var 103) idE) .leaf (.node (.bin .eq (.var 102) idE) .leaf (.node (.bin .eq (.var 101) idE) .leaf .leaf))) = [[((.bin .eq (.var 103) idE), true)], [((.bin .eq (.var 103) idE), false), ((.bin .eq (.var 102) idE), true)], [((.bin .eq (.var 103) idE), false), ((.bin .eq (.var 102) idE), false), ((.bin .eq (.var 101) idE), true)], [((.bin .eq (.var 103) idE), false), ((.bin .eq (.var 102) idE), false), ((.bin .eq (.var 101) idE), false)]] := by kernel_rfl
theorem good_l1_31 : GoodT ⟨(TI.of Try.prog), (fnOf Try.prog), ⟨[], ctOf [ct_awake]⟩, 400, Try.f6, none⟩ (flat (loopBody (flat (bodyOf Try.f6)) 8)) (F103 ++ lem_l1_31) T103.toS (some ⟨T000, F000, [(110, some 41)], fam⟩) [(0, ⟨TE, FE, [], []⟩)] (.node (.bin .eq (.var 103) idE) .leaf (.node (.bin .eq (.var 102) idE) .leaf (.node (.bin .eq (.var 101) idE) .leaf .leaf))) := by
  unfold GoodT
  rw [good_l1_31paths]
  simp only [List.forall_mem_cons]
  exact ⟨good_l1_31_0, good_l1_31_1, good_l1_31_2, good_l1_31_3, fun _ h => absurd h List.not_mem_nil⟩
theorem good_l1_32paths : DT.paths .leaf = [[]] := by kernel_rfl
theorem good_l1_32 : GoodT ⟨(TI.of Try.prog), (fnOf Try.prog), ⟨[], ctOf [ct_awake]⟩, 400, Try.f6, none⟩ (flat (loopBody (flat (bodyOf Try.f6)) 8)) (F104 ++ lem_l1_32) T104.toS (some ⟨T000, F000, [(110, some 41)], fam⟩) [(0, ⟨TE, FE, [], []⟩)] .leaf := by
  unfold GoodT
  rw [good_l1_32paths]
  simp only [List.forall_mem_cons]
  exact ⟨good_l1_32_0, fun _ h => absurd h List.not_mem_nil⟩
theorem good_l1_33paths : DT.paths (.node (.bin .eq (.var 101) idE) .leaf .leaf) = [[((.bin .eq (.var 101) idE), true)], [((.bin .eq (.var 101) idE), false)]] := by kernel_rfl
theorem good_l1_33 : GoodT ⟨(TI.of Try.prog), (fnOf Try.prog), ⟨[], ctOf [ct_awake]⟩, 400, Try.f6, none⟩ (flat (loopBody (flat (bodyOf Try.f6)) 8)) (F110 ++ lem_l1_33) T110.toS (some ⟨T000, F000, [(110, some 41)], fam⟩) [(0, ⟨TE, FE, [], []⟩)] (.node (.bin .eq (.var 101) idE) .leaf .leaf) := by
  unfold GoodT
  rw [good_l1_33paths]
  simp only [List.forall_mem_cons]
  exact ⟨good_l1_33_0, good_l1_33_1, fun _ h => absurd h List.not_mem_nil⟩
theorem good_l1_34paths : DT.paths (.node (.bin .eq (.var 102) idE) .leaf (.node (.bin .eq (.var 101) idE) .leaf .leaf)) = [[((.bin .eq (.var 102) idE), true)], [((.bin .eq (.var 102) idE), false), ((.bin .eq (.var 101) idE), true)], [((.bin .eq (.var 102) idE), false), ((.bin .eq (.var 101) idE), false)]] := by kernel_rfl
theorem good_l1_34 : GoodT ⟨(TI.of Try.prog), (fnOf Try.prog), ⟨[], ctOf [ct_awake]⟩, 400, Try.f6, none⟩ (flat (loopBody (flat (bodyOf Try.f6)) 8)) (F111 ++ lem_l1_34) T111.toS (some ⟨T000, F000, [(110, some 41)], fam⟩) [(0, ⟨TE, FE, [], []⟩)] (.node (.bin .eq (.var 102) idE) .leaf (.node (.bin .eq (.var 101) idE) .leaf .leaf)) := by
  unfold GoodT
  rw [good_l1_34paths]
  simp only [List.forall_mem_cons]
  exact ⟨good_l1_34_0, good_l1_34_1, good_l1_34_2, fun _ h => absurd h List.not_mem_nil⟩
theorem good_l1_35paths : DT.paths (.node (.bin .eq (.var 103) idE) .leaf (.node (.bin .eq (.var 102) idE) .leaf (.node (.bin .eq (.var 101) idE) .leaf .leaf))) = [[((.bin .eq (.var 103) idE), true)], [((.bin .eq (.var 103) idE), false), ((.bin .eq (.var 102) idE), true)], [((.bin .eq (.var 103) idE), false), ((.bin .eq (.var 102) idE), false), ((.bin .eq (.var 101) idE), true)], [((.bin .eq (.var 103) idE), false), ((.bin .eq (.var 102) idE), false), ((.bin .eq (.var 101) idE), false)]] := by kernel_rfl
theorem good_l1_35 : GoodT ⟨(TI.of Try.prog), (fnOf Try.prog), ⟨[], ctOf [ct_awake]⟩, 400, Try.f6, none⟩ (flat (loopBody (flat (bodyOf Try.f6)) 8)) (F112 ++ lem_l1_35) T112.toS (some ⟨T000, F000, [(110, some 41)], fam⟩) [(0, ⟨TE, FE, [], []⟩)] (.node (.bin .eq (.var 103) idE) .leaf (.node (.bin .eq (.var 102) idE) .leaf (.node (.bin .eq (.var 101) idE) .leaf .leaf))) := by
  unfold GoodT
  rw [good_l1_35paths]
  simp only [List.forall_mem_cons]
  exact ⟨good_l1_35_0, good_l1_35_1, good_l1_35_2, good_l1_35_3, fun _ h => absurd h List.not_mem_nil⟩
theorem good_l1_36paths : DT.paths (.node (.bin .eq (.var 104) idE) .leaf (.node (.bin .eq (.var 103) idE) .leaf (.node (.bin .eq (.var 102) idE) .leaf (.node (.bin .eq (.var 101) idE) .leaf .leaf)))) = [[((.bin .eq (.var 104) idE), true)], [((.bin .eq (.var 104) idE), false), ((.bin .eq (.var 103) idE), true)], [((.bin .eq (.var 104) idE), false), ((.bin .eq (.var 103) idE), false), ((.bin .eq (.var 102) idE), true)], [((.bin .eq (.var 104) idE), false), ((.bin .eq (.var 103) idE), false), ((.bin .eq (.var 102) idE), false), ((.bin .eq (.var 101) idE), true)], [((.bin .eq (.var 104) idE), false), ((.bin .eq (.var 103) idE), false), ((.bin .eq (.var 102) idE), false), ((.bin .eq (.var 101) idE), false)]] := by kernel_rfl
theorem good_l1_36 : GoodT ⟨(TI.of Try.prog), (fnOf Try.prog), ⟨[], ctOf [ct_awake]⟩, 400, Try.f6, none⟩ (flat (loopBody (flat (bodyOf Try.f6)) 8)) (F113 ++ lem_l1_36) T113.toS (some ⟨T000, F000, [(110, some 41)], fam⟩) [(0, ⟨TE, FE, [], []⟩)] (.node (.bin .eq (.var 104) idE) .leaf (.node (.bin .eq (.var 103) idE) .leaf (.node (.bin .eq (.var 102) idE) .leaf (.node (.bin .eq (.var 101) idE) .leaf .leaf)))) := by
  unfold GoodT
  rw [good_l1_36paths]
  simp only [List.forall_mem_cons]
  exact ⟨good_l1_36_0, good_l1_36_1, good_l1_36_2, good_l1_36_3, good_l1_36_4, fun _ h => absurd h List.not_mem_nil⟩
theorem good_l1_37paths : DT.paths .leaf = [[]] := by kernel_rfl
theorem good_l1_37 : GoodT ⟨(TI.of Try.prog), (fnOf Try.prog), ⟨[], ctOf [ct_awake]⟩, 400, Try.f6, none⟩ (flat (loopBody (flat (bodyOf Try.f6)) 8)) (F114 ++ lem_l1_37) T114.toS (some ⟨T000, F000, [(110, some 41)], fam⟩) [(0, ⟨TE, FE, [], []⟩)] .leaf := by
  unfold GoodT
  rw [good_l1_37paths]
  simp only [List.forall_mem_cons]
  exact ⟨good_l1_37_0, fun _ h => absurd h List.not_mem_nil⟩
theorem good_l1_38paths : DT.paths (.node (.bin .eq (.var 102) idE) .leaf (.node (.bin .eq (.var 101) idE) .leaf .leaf)) = [[((.bin .eq (.var 102) idE), true)], [((.bin .eq (.var 102) idE), false), ((.bin .eq (.var 101) idE), true)], [((.bin .eq (.var 102) idE), false), ((.bin .eq (.var 101) idE), false)]] := by kernel_rfl
theorem good_l1_38 : GoodT ⟨(TI.of Try.prog), (fnOf Try.prog), ⟨[], ctOf [ct_awake]⟩, 400, Try.f6, none⟩ (flat (loopBody (flat (bodyOf Try.f6)) 8)) (F120 ++ lem_l1_38) T120.toS (some ⟨T000, F000, [(110, some 41)], fam⟩) [(0, ⟨TE, FE, [], []⟩)] (.node (.bin .eq (.var 102) idE) .leaf (.node (.bin .eq (.var 101) idE) .leaf .leaf)) := by
  unfold GoodT
  rw [good_l1_38paths]
  simp only [List.forall_mem_cons]
  exact ⟨good_l1_38_0, good_l1_38_1, good_l1_38_2, fun _ h => absurd h List.not_mem_nil⟩
theorem good_l1_39paths : DT.paths (.node (.bin .eq (.var 103) idE) .leaf (.node (.bin .eq (.var 102) idE) .leaf (.node (.bin .eq (.var 101) idE) .leaf .leaf))) = [[((.bin .eq (.var 103) idE), true)], [((.bin .eq (.var 103) idE), false), ((.bin .eq (.var 102) idE), true)], [((.bin .eq (.var 103) idE), false), ((.bin .eq (.var 102) idE), false), ((.bin .eq (.var 101) idE), true)], [((.bin .eq (.var 103) idE), false), ((.bin .eq (.var 102) idE), false), ((.bin .eq (.var 101) idE), false)]] := by kernel_rfl
theorem good_l1_39 : GoodT ⟨(TI.of Try.prog), (fnOf Try.prog), ⟨[], ctOf [ct_awake]⟩, 400, Try.f6, none⟩ (flat (loopBody (flat (bodyOf Try.f6)) 8)) (F121 ++ lem_l1_39) T121.toS (some ⟨T000, F000, [(110, some 41)], fam⟩) [(0, ⟨TE, FE, [], []⟩)] (.node (.bin .eq (.var 103) idE) .leaf (.node (.bin .eq (.var 102) idE) .leaf (.node (.bin .eq (.var 101) idE) .leaf .leaf))) := by
  unfold GoodT
  rw [good_l1_39paths]
  simp only [List.forall_mem_cons]
  exact ⟨good_l1_39_0, good_l1_39_1, good_l1_39_2, good_l1_39_3, fun _ h => absurd h List.not_mem_nil⟩
theorem good_l1_40paths : DT.paths (.node (.bin .eq (.var 104) idE) .leaf (.node (.bin .eq (.var 103) idE) .leaf (.node (.bin .eq (.var 102) idE) .leaf (.node (.bin .eq (.var 101) idE) .leaf .leaf)))) = [[((.bin .eq (.var 104) idE), true)], [((.bin .eq (.var 104) idE), false), ((.bin .eq (.var 103) idE), true)], [((.bin .eq (.var 104) idE), false), ((.bin .eq (.var 103) idE), false), ((.bin .eq (.var 102) idE), true)], [((.bin .eq (.var 104) idE), false), ((.bin .eq (.var 103) idE), false), ((.bin .eq (.var 102) idE), false), ((.bin .eq (.var 101) idE), true)], [((.bin .eq (.var 104) idE), false), ((.bin .eq (.var 103) idE), false), ((.bin .eq (.var 102) idE), false), ((.bin .eq (.var 101) idE), false)]] := by kernel_rfl
theorem good_l1_40 : GoodT ⟨(TI.of Try.prog), (fnOf Try.prog), ⟨[], ctOf [ct_awake]⟩, 400, Try.f6, none⟩ (flat (loopBody (flat (bodyOf Try.f6)) 8)) (F122 ++ lem_l1_40) T122.toS (some ⟨T000, F000, [(110, some 41)], fam⟩) [(0, ⟨TE, FE, [], []⟩)] (.node (.bin .eq (.var 104) idE) .leaf (.node (.bin .eq (.var 103) idE) .leaf (.node (.bin .eq (.var 102) idE) .leaf (.node (.bin .eq (.var 101) idE) .leaf .leaf)))) := by
  unfold GoodT
  rw [good_l1_40paths]
  simp only [List.forall_mem_cons]
  exact ⟨good_l1_40_0, good_l1_40_1, good_l1_40_2, good_l1_40_3, good_l1_40_4, fun _ h => absurd h List.not_mem_nil⟩
theorem good_l1_41paths : DT.paths (.node (.bin .eq (.var 105) idE) .leaf (.node (.bin .eq (.var 104) idE) .leaf (.node (.bin .eq (.var 103) idE) .leaf (.node (.bin .eq (.var 102) idE) .leaf (.node (.bin .eq (.var 101) idE) .leaf .leaf))))) = [[((.bin .eq (.var 105) idE), true)], [((.bin .eq (.var 105) idE), false), ((.bin .eq (.var 104) idE), true)], [((.bin .eq (.var 105) idE), false), ((.bin .eq (.var 104) idE), false), ((.bin .eq (.var 103) idE), true)], [((.bin .eq (.var 105) idE), false), ((.bin .eq (.var 104) idE), false), ((.bin .eq (.var 103) idE), false), ((.bin .eq (.var 102) idE), true)], [((.bin .eq (.var 105) idE), false), ((.bin .eq (.var 104) idE), false), ((.bin .eq (.var 103) idE), false), ((.bin .eq (.var 102) idE), false), ((.bin .eq (.var 101) idE), true)], [((.bin .eq (.var 105) idE), false), ((.bin .eq (.var 104) idE), false), ((.bin .eq (.var 103) idE), false), ((.bin .eq (.var 102) idE), false), ((.bin .eq (.var 101) idE), false)]] := by kernel_rfl
theorem good_l1_41 : GoodT ⟨(TI.of Try.prog), (fnOf Try.prog), ⟨[], ctOf [ct_awake]⟩, 400, Try.f6, none⟩ (flat (loopBody (flat (bodyOf Try.f6)) 8)) (F123 ++ lem_l1_41) T123.toS (some ⟨T000, F000, [(110, some 41)], fam⟩) [(0, ⟨TE, FE, [], []⟩)] (.node (.bin .eq (.var 105) idE) .leaf (.node (.bin .eq (.var 104) idE) .leaf (.node (.bin .eq (.var 103) idE) .leaf (.node (.bin .eq (.var 102) idE) .leaf (.node (.bin .eq (.var 101) idE) .leaf .leaf))))) := by
  unfold GoodT
  rw [good_l1_41paths]
  simp only [List.forall_mem_cons]
  exact ⟨good_l1_41_0, good_l1_41_1, good_l1_41_2, good_l1_41_3, good_l1_41_4, good_l1_41_5, fun _ h => absurd h List.not_mem_nil⟩
theorem good_l1_42paths : DT.paths .leaf = [[]] := by kernel_rfl
theorem good_l1_42 : GoodT ⟨(TI.of Try.prog), (fnOf Try.prog), ⟨[], ctOf [ct_awake]⟩, 400, Try.f6, none⟩ (flat (loopBody (flat (bodyOf Try.f6)) 8)) (F124 ++ lem_l1_42) T124.toS (some ⟨T000, F000, [(110, some 41)], fam⟩) [(0, ⟨TE, FE, [], []⟩)] .leaf := by
  unfold GoodT
  rw [good_l1_42paths]
  simp only [List.forall_mem_cons]
  exact ⟨good_l1_42_0, fun _ h => absurd h List.not_mem_nil⟩
theorem good_l1_43paths : DT.paths (.node (.bin .eq (.var 103) idE) .leaf (.node (.bin .eq (.var 102) idE) .leaf (.node (.bin .eq (.var 101) idE) .leaf .leaf))) = [[((.bin .eq (.var 103) idE), true)], [((.bin .eq (.var 103) idE), false), ((.bin .eq (.var 102) idE), true)], [((.bin .eq (.var 103) idE), false), ((.bin .eq (.var 102) idE), false), ((.bin .eq (.var 101) idE), true)], [((.bin .eq (.var 103) idE), false), ((.bin .eq (.var 102) idE), false), ((.bin .eq (.var 101) idE), false)]] := by kernel_rfl
theorem good_l1_43 : GoodT ⟨(TI.of Try.prog), (fnOf Try.prog), ⟨[], ctOf [ct_awake]⟩, 400, Try.f6, none⟩ (flat (loopBody (flat (bodyOf Try.f6)) 8)) (F130 ++ lem_l1_43) T130.toS (some ⟨T000, F000, [(110, some 41)], fam⟩) [(0, ⟨TE, FE, [], []⟩)] (.node (.bin .eq (.var 103) idE) .leaf (.node (.bin .eq (.var 102) idE) .leaf (.node (.bin .eq (.var 101) idE) .leaf .leaf))) := by
  unfold GoodT
  rw [good_l1_43paths]
  simp only [List.forall_mem_cons]
  exact ⟨good_l1_43_0, good_l1_43_1, good_l1_43_2, good_l1_43_3, fun _ h => absurd h List.not_mem_nil⟩
theorem good_l1_44paths : DT.paths (.node (.bin .eq (.var 104) idE) .leaf (.node (.bin .eq (.var 103) idE) .leaf (.node (.bin .eq (.var 102) idE) .leaf (.node (.bin .eq (.var 101) idE) .leaf .leaf)))) = [[((.bin .eq (.var 104) idE), true)], [((.bin .eq (.var 104) idE), false), ((.bin .eq (.var 103) idE), true)], [((.bin .eq (.var 104) idE), false), ((.bin .eq (.var 103) idE), false), ((.bin .eq (.var 102) idE), true)], [((.bin .eq (.var 104) idE), false), ((.bin .eq (.var 103) idE), false), ((.bin .eq (.var 102) idE), false), ((.bin .eq (.var 101) idE), true)], [((.bin .eq (.var 104) idE), false), ((.bin .eq (.var 103) idE), false), ((.bin .eq (.var 102) idE), false), ((.bin .eq (.var 101) idE), false)]] := by kernel_rfl
theorem good_l1_44 : GoodT ⟨(TI.of Try.prog), (fnOf Try.prog), ⟨[], ctOf [ct_awake]⟩, 400, Try.f6, none⟩ (flat (loopBody (flat (bodyOf Try.f6)) 8)) (F131 ++ lem_l1_44) T131.toS (some ⟨T000, F000, [(110, some 41)], fam⟩) [(0, ⟨TE, FE, [], []⟩)] (.node (.bin .eq (.var 104) idE) .leaf (.node (.bin .eq (.var 103) idE) .leaf (.node (.bin .eq (.var 102) idE) .leaf (.node (.bin .eq (.var 101) idE) .leaf .leaf)))) := by
  unfold GoodT
  rw [good_l1_44paths]
  simp only [List.forall_mem_cons]
  exact ⟨good_l1_44_0, good_l1_44_1, good_l1_44_2, good_l1_44_3, good_l1_44_4, fun _ h => absurd h List.not_mem_nil⟩
theorem good_l1_45paths : DT.paths (.node (.bin .eq (.var 105) idE) .leaf (.node (.bin .eq (.var 104) idE) .leaf (.node (.bin .eq (.var 103) idE) .leaf (.node (.bin .eq (.var 102) idE) .leaf (.node (.bin .eq (.var 101) idE) .leaf .leaf))))) = [[((.bin .eq (.var 105) idE), true)], [((.bin .eq (.var 105) idE), false), ((.bin .eq (.var 104) idE), true)], [((.bin .eq (.var 105) idE), false), ((.bin .eq (.var 104) idE), false), ((.bin .eq (.var 103) idE), true)], [((.bin .eq (.var 105) idE), false), ((.bin .eq (.var 104) idE), false), ((.bin .eq (.var 103) idE), false), ((.bin .eq (.var 102) idE), true)], [((.bin .eq (.var 105) idE), false), ((.bin .eq (.var 104) idE), false), ((.bin .eq (.var 103) idE), false), ((.bin .eq (.var 102) idE), false), ((.bin .eq (.var 101) idE), true)], [((.bin .eq (.var 105) idE), false), ((.bin .eq (.var 104) idE), false), ((.bin .eq (.var 103) idE), false), ((.bin .eq (.var 102) idE), false), ((.bin .eq (.var 101) idE), false)]] := by kernel_rfl
theorem good_l1_45 : GoodT ⟨(TI.of Try.prog), (fnOf Try.prog), ⟨[], ctOf [ct_awake]⟩, 400, Try.f6, none⟩ (flat (loopBody (flat (bodyOf Try.f6)) 8)) (F132 ++ lem_l1_45) T132.toS (some ⟨T000, F000, [(110, some 41)], fam⟩) [(0, ⟨TE, FE, [], []⟩)] (.node (.bin .eq (.var 105) idE) .leaf (.node (.bin .eq (.var 104) idE) .leaf (.node (.bin .eq (.var 103) idE) .leaf (.node (.bin .eq (.var 102) idE) .leaf (.node (.bin .eq (.var 101) idE) .leaf .leaf))))) := by
  unfold GoodT
  rw [good_l1_45paths]
  simp only [List.forall_mem_cons]
  exact ⟨good_l1_45_0, good_l1_45_1, good_l1_45_2, good_l1_45_3, good_l1_45_4, good_l1_45_5, fun _ h => absurd h List.not_mem_nil⟩
theorem good_l1_46paths : DT.paths (.node (.bin .eq (.var 106) idE) .leaf (.node (.bin .eq (.var 105) idE) .leaf (.node (.bin .eq (.var 104) idE) .leaf (.node (.bin .eq (.var 103) idE) .leaf (.node (.bin .eq (.var 102) idE) .leaf (.node (.bin .eq (.var 101) idE) .leaf .leaf)))))) = [[((.bin .eq (.var 106) idE), true)], [((.bin .eq (.var 106) idE), false), ((.bin .eq (.var 105) idE), true)], [((.bin .eq (.var 106) idE), false), ((.bin .eq (.var 105) idE), false), ((.bin .eq (.var 104) idE), true)], [((.bin .eq (.var 106) idE), false), ((.bin .eq (.var 105) idE), false), ((.bin .eq (.var 104) idE), false), ((.bin .eq (.var 103) idE), true)], [((.bin .eq (.var 106) idE), false), ((.bin .eq (.var 105) idE), false), ((.bin .eq (.var 104) idE), false), ((.bin .eq (.var 103) idE), false), ((.bin .eq (.var 102) idE), true)], [((.bin .eq (.var 106) idE), false), ((.bin .eq (.var 105) idE), false), ((.bin .eq (.var 104) idE), false), ((.bin .eq (.var 103) idE), false), ((.bin .eq (.var 102) idE), false), ((.bin .eq (.var 101) idE), true)], [((.bin .eq (.var 106) idE), false), ((.bin .eq (.var 105) idE), false), ((.bin .eq (.var 104) idE), false), ((.bin .eq (.var 103) idE), false), ((.bin .eq (.var 102) idE), false), ((.bin .eq (.var 101) idE), false)]] := by kernel_rfl
theorem good_l1_46 : GoodT ⟨(TI.of Try.prog), (fnOf Try.prog), ⟨[], ctOf [ct_awake]⟩, 400, Try.f6, none⟩ (flat (loopBody (flat (bodyOf Try.f6)) 8)) (F133 ++ lem_l1_46) T133.toS (some ⟨T000, F000, [(110, some 41)], fam⟩) [(0, ⟨TE, FE, [], []⟩)] (.node (.bin .eq (.var 106) idE) .leaf (.node (.bin .eq (.var 105) idE) .leaf (.node (.bin .eq (.var 104) idE) .leaf (.node (.bin .eq (.var 103) idE) .leaf (.node (.bin .eq (.var 102) idE) .leaf (.node (.bin .eq (.var 101) idE) .leaf .leaf)))))) := by
  unfold GoodT
  rw [good_l1_46paths]
  simp only [List.forall_mem_cons]
  exact ⟨good_l1_46_0, good_l1_46_1, good_l1_46_2, good_l1_46_3, good_l1_46_4, good_l1_46_5, good_l1_46_6, fun _ h => absurd h List.not_mem_nil⟩
theorem good_l1_47paths : DT.paths .leaf = [[]] := by kernel_rfl
theorem good_l1_47 : GoodT ⟨(TI.of Try.prog), (fnOf Try.prog), ⟨[], ctOf [ct_awake]⟩, 400, Try.f6, none⟩ (flat (loopBody (flat (bodyOf Try.f6)) 8)) (F134 ++ lem_l1_47) T134.toS (some ⟨T000, F000, [(110, some 41)], fam⟩) [(0, ⟨TE, FE, [], []⟩)] .leaf := by
  unfold GoodT
  rw [good_l1_47paths]
  simp only [List.forall_mem_cons]
  exact ⟨good_l1_47_0, fun _ h => absurd h List.not_mem_nil⟩
theorem good_l1_48paths : DT.paths (.node (.bin .eq (.var 104) idE) .leaf (.node (.bin .eq (.var 103) idE) .leaf (.node (.bin .eq (.var 102) idE) .leaf (.node (.bin .eq (.var 101) idE) .leaf .leaf)))) = [[((.bin .eq (.var 104) idE), true)], [((.bin .eq (.var 104) idE), false), ((.bin .eq (.var 103) idE), true)], [((.bin .eq (.var 104) idE), false), ((.bin .eq (.var 103) idE), false), ((.bin .eq (.var 102) idE), true)], [((.bin .eq (.var 104) idE), false), ((.bin .eq (.var 103) idE), false), ((.bin .eq (.var 102) idE), false), ((.bin .eq (.var 101) idE), true)], [((.bin .eq (.var 104) idE), false), ((.bin .eq (.var 103) idE), false), ((.bin .eq (.var 102) idE), false), ((.bin .eq (.var 101) idE), false)]] := by kernel_rfl
theorem good_l1_48 : GoodT ⟨(TI.of Try.prog), (fnOf Try.prog), ⟨[], ctOf [ct_awake]⟩, 400, Try.f6, none⟩ (flat (loopBody (flat (bodyOf Try.f6)) 8)) (F140 ++ lem_l1_48) T140.toS (some ⟨T000, F000, [(110, some 41)], fam⟩) [(0, ⟨TE, FE, [], []⟩)] (.node (.bin .eq (.var 104) idE) .leaf (.node (.bin .eq (.var 103) idE) .leaf (.node (.bin .eq (.var 102) idE) .leaf (.node (.bin .eq (.var 101) idE) .leaf .leaf)))) := by
  unfold GoodT
  rw [good_l1_48paths]
  simp only [List.forall_mem_cons]
  exact ⟨good_l1_48_0, good_l1_48_1, good_l1_48_2, good_l1_48_3, good_l1_48_4, fun _ h => absurd h List.not_mem_nil⟩
theorem good_l1_49paths : DT.paths (.node (.bin .eq (.var 105) idE) .leaf (.node (.bin .eq (.var 104) idE) .leaf (.node (.bin .eq (.var 103) idE) .leaf (.node (.bin .eq (.var 102) idE) .leaf (.node (.bin .eq (.var 101) idE) .leaf .leaf))))) = [[((.bin .eq (.var 105) idE), true)], [((.bin .eq (.var 105) idE), false), ((.bin .eq (.var 104) idE), true)], [((.bin .eq (.var 105) idE), false), ((.bin .eq (.var 104) idE), false), ((.bin .eq (.var 103) idE), true)], [((.bin .eq (.var 105) idE), false), ((.bin .eq (.var 104) idE), false), ((.bin .eq (.var 103) idE), false), ((.bin .eq (.var 102) idE), true)], [((.bin .eq (.var 105) idE), false), ((.bin .eq (.var 104) idE), false), ((.bin .eq (.var 103) idE), false), ((.bin .eq (.var 102) idE), false), ((.bin .eq (.var 101) idE), true)], [((.bin .eq (.var 105) idE), false), ((.bin .eq (.var 104) idE), false), ((.bin .eq (.var 103) idE), false), ((.bin .eq (.var 102) idE), false), ((.bin .eq (.var 101) idE), false)]] := by kernel_rfl
theorem good_l1_49 : GoodT ⟨(TI.of Try.prog), (fnOf Try.prog), ⟨[], ctOf [ct_awake]⟩, 400, Try.f6, none⟩ (flat (loopBody (flat (bodyOf Try.f6)) 8)) (F141 ++ lem_l1_49) T141.toS (some ⟨T000, F000, [(110, some 41)], fam⟩) [(0, ⟨TE, FE, [], []⟩)] (.node (.bin .eq (.var 105) idE) .leaf (.node (.bin .eq (.var 104) idE) .leaf (.node (.bin .eq (.var 103) idE) .leaf (.node (.bin .eq (.var 102) idE) .leaf (.node (.bin .eq (.var 101) idE) .leaf .leaf))))) := by
  unfold GoodT
  rw [good_l1_49paths]
  simp only [List.forall_mem_cons]
  exact ⟨good_l1_49_0, good_l1_49_1, good_l1_49_2, good_l1_49_3, good_l1_49_4, good_l1_49_5, fun _ h => absurd h List.not_mem_nil⟩
theorem good_l1_50paths : DT.paths (.node (.bin .eq (.var 106) idE) .leaf (.node (.bin .eq (.var 105) idE) .leaf (.node (.bin .eq (.var 104) idE) .leaf (.node (.bin .eq (.var 103) idE) .leaf (.node (.bin .eq (.var 102) idE) .leaf (.node (.bin .eq (.var 101) idE) .leaf .leaf)))))) = [[((.bin .eq (.var 106) idE), true)], [((.bin .eq (.var 106) idE), false), ((.bin .eq (.var 105) idE), true)], [((.bin .eq (.var 106) idE), false), ((.bin .eq (.var 105) idE), false), ((.bin .eq (.var 104) idE), true)], [((.bin .eq (.var 106) idE), false), ((.bin .eq (.var 105) idE), false), ((.bin .eq (.var 104) idE), false), ((.bin .eq (.var 103) idE), true)], [((.bin .eq (.var 106) idE), false), ((.bin .eq (.var 105) idE), false), ((.bin .eq (.var 104) idE), false), ((.bin .eq (.var 103) idE), false), ((.bin .eq (.var 102) idE), true)], [((.bin .eq (.var 106) idE), false), ((.bin .eq (.var 105) idE), false), ((.bin .eq (.var 104) idE), false), ((.bin .eq (.var 103) idE), false), ((.bin .eq (.var 102) idE), false), ((.bin .eq (.var 101) idE), true)], [((.bin .eq (.var 106) idE), false), ((.bin .eq (.var 105) idE), false), ((.bin .eq (.var 104) idE), false), ((.bin .eq (.var 103) idE), false), ((.bin .eq (.var 102) idE), false), ((.bin .eq (.var 101) idE), false)]] := by kernel_rfl
theorem good_l1_50 : GoodT ⟨(TI.of Try.prog), (fnOf Try.prog), ⟨[], ctOf [ct_awake]⟩, 400, Try.f6, none⟩ (flat (loopBody (flat (bodyOf Try.f6)) 8)) (F142 ++ lem_l1_50) T142.toS (some ⟨T000, F000, [(110, some 41)], fam⟩) [(0, ⟨TE, FE, [], []⟩)] (.node (.bin .eq (.var 106) idE) .leaf (.node (.bin .eq (.var 105) idE) .leaf (.node (.bin .eq (.var 104) idE) .leaf (.node (.bin .eq (.var 103) idE) .leaf (.node (.bin .eq (.var 102) idE) .leaf (.node (.bin .eq (.var 101) idE) .leaf .leaf)))))) := by
  unfold GoodT
  rw [good_l1_50paths]
  simp only [List.forall_mem_cons]
  exact ⟨good_l1_50_0, good_l1_50_1, good_l1_50_2, good_l1_50_3, good_l1_50_4, good_l1_50_5, good_l1_50_6, fun _ h => absurd h List.not_mem_nil⟩
theorem good_l1_51paths : DT.paths (.node (.bin .eq (.var 107) idE) .leaf (.node (.bin .eq (.var 106) idE) .leaf (.node (.bin .eq (.var 105) idE) .leaf (.node (.bin .eq (.var 104) idE) .leaf (.node (.bin .eq (.var 103) idE) .leaf (.node (.bin .eq (.var 102) idE) .leaf (.node (.bin .eq (.var 101) idE) .leaf .leaf))))))) = [[((.bin .eq (.var 107) idE), true)], [((.bin .eq (.var 107) idE), false), ((.bin .eq (.var 106) idE), true)], [((.bin .eq (.var 107) idE), false), ((.bin .eq (.var 106) idE), false), ((.bin .eq (.var 105) idE), true)], [((.bin .eq (.var 107) idE), false), ((.bin .eq (.var 106) idE), false), ((.bin .eq (.var 105) idE), false), ((.bin .eq (.var 104) idE), true)], [((.bin .eq (.var 107) idE), false), ((.bin .eq (.var 106) idE), false), ((.bin .eq (.var 105) idE), false), ((.bin .eq (.var 104) idE), false), ((.bin .eq (.var 103) idE), true)], [((.bin .eq (.var 107) idE), false), ((.bin .eq (.var 106) idE), false), ((.bin .eq (.var 105) idE), false), ((.bin .eq (.var 104) idE), false), ((.bin .eq (.var 103) idE), false), ((.bin .eq (.var 102) idE), true)], [((.bin .eq (.var 107) idE), false), ((.bin .eq (.var 106) idE), false), ((.bin .eq (.var 105) idE), false), ((.bin .eq (.var 104) idE), false), ((.bin .eq (.var 103) idE), false), ((.bin .eq (.var 102) idE), false), ((.bin .eq (.var 101) idE), true)], [((.bin .eq (.var 107) idE), false), ((.bin .eq (.var 106) idE), false), ((.bin .eq (.var 105) idE), false), ((.bin .eq (.var 104) idE), false), ((.bin .eq (.var 103) idE), false), ((.bin .eq (.var 102) idE), false), ((.bin .eq (.var 101) idE), false)]] := by kernel_rfl
theorem good_l1_51 : GoodT ⟨(TI.of Try.prog), (fnOf Try.prog), ⟨[], ctOf [ct_awake]⟩, 400, Try.f6, none⟩ (flat (loopBody (flat (bodyOf Try.f6)) 8)) (F143 ++ lem_l1_51) T143.toS (some ⟨T000, F000, [(110, some 41)], fam⟩) [(0, ⟨TE, FE, [], []⟩)] (.node (.bin .eq (.var 107) idE) .leaf (.node (.bin .eq (.var 106) idE) .leaf (.node (.bin .eq (.var 105) idE) .leaf (.node (.bin .eq (.var 104) idE) .leaf (.node (.bin .eq (.var 103) idE) .leaf (.node (.bin .eq (.var 102) idE) .leaf (.node (.bin .eq (.var 101) idE) .leaf .leaf))))))) := by
  unfold GoodT
  rw [good_l1_51paths]
  simp only [List.forall_mem_cons]
  exact ⟨good_l1_51_0, good_l1_51_1, good_l1_51_2, good_l1_51_3, good_l1_51_4, good_l1_51_5, good_l1_51_6, good_l1_51_7, fun _ h => absurd h List.not_mem_nil⟩
theorem good_l1_52paths : DT.paths .leaf = [[]] := by kernel_rfl
theorem good_l1_52 : GoodT ⟨(TI.of Try.prog), (fnOf Try.prog), ⟨[], ctOf [ct_awake]⟩, 400, Try.f6, none⟩ (flat (loopBody (flat (bodyOf Try.f6)) 8)) (F144 ++ lem_l1_52) T144.toS (some ⟨T000, F000, [(110, some 41)], fam⟩) [(0, ⟨TE, FE, [], []⟩)] .leaf := by
  unfold GoodT
  rw [good_l1_52paths]
  simp only [List.forall_mem_cons]
  exact ⟨good_l1_52_0, fun _ h => absurd h List.not_mem_nil⟩
theorem good_l1_53paths : DT.paths .leaf = [[]] := by kernel_rfl
theorem good_l1_53 : GoodT ⟨(TI.of Try.prog), (fnOf Try.prog), ⟨[], ctOf [ct_awake]⟩, 400, Try.f6, none⟩ (flat (loopBody (flat (bodyOf Try.f6)) 8)) (F200 ++ lem_l1_53) T200.toS (some ⟨T000, F000, [(110, some 41)], fam⟩) [(0, ⟨TE, FE, [], []⟩)] .leaf := by
  unfold GoodT
  rw [good_l1_53paths]
  simp only [List.forall_mem_cons]
  exact ⟨good_l1_53_0, fun _ h => absurd h List.not_mem_nil⟩
theorem good_l1_54paths : DT.paths (.node (.bin .eq (.var 101) idE) .leaf .leaf) = [[((.bin .eq (.var 101) idE), true)], [((.bin .eq (.var 101) idE), false)]] := by kernel_rfl
theorem good_l1_54 : GoodT ⟨(TI.of Try.prog), (fnOf Try.prog), ⟨[], ctOf [ct_awake]⟩, 400, Try.f6, none⟩ (flat (loopBody (flat (bodyOf Try.f6)) 8)) (F201 ++ lem_l1_54) T201.toS (some ⟨T000, F000, [(110, some 41)], fam⟩) [(0, ⟨TE, FE, [], []⟩)] (.node (.bin .eq (.var 101) idE) .leaf .leaf) := by
  unfold GoodT
  rw [good_l1_54paths]
  simp only [List.forall_mem_cons]
  exact ⟨good_l1_54_0, good_l1_54_1, fun _ h => absurd h List.not_mem_nil⟩
theorem good_l1_55paths : DT.paths (.node (.bin .eq (.var 102) idE) .leaf (.node (.bin .eq (.var 101) idE) .leaf .leaf)) = [[((.bin .eq (.var 102) idE), true)], [((.bin .eq (.var 102) idE), false), ((.bin .eq (.var 101) idE), true)], [((.bin .eq (.var 102) idE), false), ((.bin .eq (.var 101) idE), false)]] := by kernel_rfl
theorem good_l1_55 : GoodT ⟨(TI.of Try.prog), (fnOf Try.prog), ⟨[], ctOf [ct_awake]⟩, 400, Try.f6, none⟩ (flat (loopBody (flat (bodyOf Try.f6)) 8)) (F202 ++ lem_l1_55) T202.toS (some ⟨T000, F000, [(110, some 41)], fam⟩) [(0, ⟨TE, FE, [], []⟩)] (.node (.bin .eq (.var 102) idE) .leaf (.node (.bin .eq (.var 101) idE) .leaf .leaf)) := by
  unfold GoodT
  rw [good_l1_55paths]
  simp only [List.forall_mem_cons]
  exact ⟨good_l1_55_0, good_l1_55_1, good_l1_55_2, fun _ h => absurd h List.not_mem_nil⟩
theorem good_l1_56paths : DT.paths (.node (.bin .eq (.var 103) idE) .leaf (.node (.bin .eq (.var 102) idE) .leaf (.node (.bin .eq (.var 101) idE) .leaf .leaf))) = [[((.bin .eq (.var 103) idE), true)], [((.bin .eq (.var 103) idE), false), ((.bin .eq (.var 102) idE), true)], [((.bin .eq (.var 103) idE), false), ((.bin .eq (.var 102) idE), false), ((.bin .eq (.var 101) idE), true)], [((.bin .eq (.var 103) idE), false), ((.bin .eq (.var 102) idE), false), ((.bin .eq (.var 101) idE), false)]] := by kernel_rfl
theorem good_l1_56 : GoodT ⟨(TI.of Try.prog), (fnOf Try.prog), ⟨[], ctOf [ct_awake]⟩, 400, Try.f6, none⟩ (flat (loopBody (flat (bodyOf Try.f6)) 8)) (F203 ++ lem_l1_56) T203.toS (some ⟨T000, F000, [(110, some 41)], fam⟩) [(0, ⟨TE, FE, [], []⟩)] (.node (.bin .eq (.var 103) idE) .leaf (.node (.bin .eq (.var 102) idE) .leaf (.node (.bin .eq (.var 101) idE) .leaf .leaf))) := by
  unfold GoodT
  rw [good_l1_56paths]
  simp only [List.forall_mem_cons]
  exact ⟨good_l1_56_0, good_l1_56_1, good_l1_56_2, good_l1_56_3, fun _ h => absurd h List.not_mem_nil⟩
theorem good_l1_57paths : DT.paths .leaf = [[]] := by kernel_rfl
theorem good_l1_57 : GoodT ⟨(TI.of Try.prog), (fnOf Try.prog), ⟨[], ctOf [ct_awake]⟩, 400, Try.f6, none⟩ (flat (loopBody (flat (bodyOf Try.f6)) 8)) (F204 ++ lem_l1_57) T204.toS (some ⟨T000, F000, [(110, some 41)], fam⟩) [(0, ⟨TE, FE, [], []⟩)] .leaf := by
  unfold GoodT
  rw [good_l1_57paths]
  simp only [List.forall_mem_cons]
  exact ⟨good_l1_57_0, fun _ h => absurd h List.not_mem_nil⟩
theorem good_l1_58paths : DT.paths (.node (.bin .eq (.var 101) idE) .leaf .leaf) = [[((.bin .eq (.var 101) idE), true)], [((.bin .eq (.var 101) idE), false)]] := by kernel_rfl
theorem good_l1_58 : GoodT ⟨(TI.of Try.prog), (fnOf Try.prog), ⟨[], ctOf [ct_awake]⟩, 400, Try.f6, none⟩ (flat (loopBody (flat (bodyOf Try.f6)) 8)) (F210 ++ lem_l1_58) T210.toS (some ⟨T000, F000, [(110, some 41)], fam⟩) [(0, ⟨TE, FE, [], []⟩)] (.node (.bin .eq (.var 101) idE) .leaf .leaf) := by
  unfold GoodT
  rw [good_l1_58paths]
  simp only [List.forall_mem_cons]
  exact ⟨good_l1_58_0, good_l1_58_1, fun _ h => absurd h List.not_mem_nil⟩
theorem good_l1_59paths : DT.paths (.node (.bin .eq (.var 102) idE) .leaf (.node (.bin .eq (.var 101) idE) .leaf .leaf)) = [[((.bin .eq (.var 102) idE), true)], [((.bin .eq (.var 102) idE), false), ((.bin .eq (.var 101) idE), true)], [((.bin .eq (.var 102) idE), false), ((.bin .eq (.var 101) idE), false)]] := by kernel_rfl
theorem good_l1_59 : GoodT ⟨(TI.of Try.prog), (fnOf Try.prog), ⟨[], ctOf [ct_awake]⟩, 400, Try.f6, none⟩ (flat (loopBody (flat (bodyOf Try.f6)) 8)) (F211 ++ lem_l1_59) T211.toS (some ⟨T000, F000, [(110, some 41)], fam⟩) [(0, ⟨TE, FE, [], []⟩)] (.node (.bin .eq (.var 102) idE) .leaf (.node (.bin .eq (.var 101) idE) .leaf .leaf)) := by
  unfold GoodT
  rw [good_l1_59paths]
  simp only [List.forall_mem_cons]
  exact ⟨good_l1_59_0, good_l1_59_1, good_l1_59_2, fun _ h => absurd h List.not_mem_nil⟩
theorem good_l1_60paths : DT.paths (.node (.bin .eq (.var 103) idE) .leaf (.node (.bin .eq (.var 102) idE) .leaf (.node (.bin .eq (.var 101) idE) .leaf .leaf))) = [[((.bin .eq (.var 103) idE), true)], [((.bin .eq (.var 103) idE), false), ((.bin .eq (.var 102) idE), true)], [((.bin .eq (.var 103) idE), false), ((.bin .eq (.var 102) idE), false), ((.bin .eq (.var 101) idE), true)], [((.bin .eq (.var 103) idE), false), ((.bin .eq (.var 102) idE), false), ((.bin .eq (.var 101) idE), false)]] := by kernel_rfl
theorem good_l1_60 : GoodT ⟨(TI.of Try.prog), (fnOf Try.prog), ⟨[], ctOf [ct_awake]⟩, 400, Try.f6, none⟩ (flat (loopBody (flat (bodyOf Try.f6)) 8)) (F212 ++ lem_l1_60) T212.toS (some ⟨T000, F000, [(110, some 41)], fam⟩) [(0, ⟨TE, FE, [], []⟩)] (.node (.bin .eq (.var 103) idE) .leaf (.node (.bin .eq (.var 102) idE) .leaf (.node (.bin .eq (.var 101) idE) .leaf .leaf))) := by
  unfold GoodT
  rw [good_l1_60paths]
  simp only [List.forall_mem_cons]
  exact ⟨good_l1_60_0, good_l1_60_1, good_l1_60_2, good_l1_60_3, fun _ h => absurd h List.not_mem_nil⟩
theorem good_l1_61paths : DT.paths (.node (.bin .eq (.var 104) idE) .leaf (.node (.bin .eq (.var 103) idE) .leaf (.node (.bin .eq (.var 102) idE) .leaf (.node (.bin .eq (.var 101) idE) .leaf .leaf)))) = [[((.bin .eq (.var 104) idE), true)], [((.bin .eq (.var 104) idE), false), ((.bin .eq (.var 103) idE), true)], [((.bin .eq (.var 104) idE), false), ((.bin .eq (.var 103) idE), false), ((.bin .eq (.var 102) idE), true)], [((.bin .eq (.var 104) idE), false), ((.bin .eq (.var 103) idE), false), ((.bin .eq (.var 102) idE), false), ((.bin .eq (.var 101) idE), true)], [((.bin .eq (.var 104) idE), false), ((.bin .eq (.var 103) idE), false), ((.bin .eq (.var 102) idE), false), ((.bin .eq (.var 101) idE), false)]] := by kernel_rfl
theorem good_l1_61 : GoodT ⟨(TI.of Try.prog), (fnOf Try.prog), ⟨[], ctOf [ct_awake]⟩, 400, Try.f6, none⟩ (flat (loopBody (flat (bodyOf Try.f6)) 8)) (F213 ++ lem_l1_61) T213.toS (some ⟨T000, F000, [(110, some 41)], fam⟩) [(0, ⟨TE, FE, [], []⟩)] (.node (.bin .eq (.var 104) idE) .leaf (.node (.bin .eq (.var 103) idE) .leaf (.node (.bin .eq (.var 102) idE) .leaf (.node (.bin .eq (.var 101) idE) .leaf .leaf)))) := by
  unfold GoodT
  rw [good_l1_61paths]
  simp only [List.forall_mem_cons]
  exact ⟨good_l1_61_0, good_l1_61_1, good_l1_61_2, good_l1_61_3, good_l1_61_4, fun _ h => absurd h List.not_mem_nil⟩
theorem good_l1_62paths : DT.paths .leaf = [[]] := by kernel_rfl
theorem good_l1_62 : GoodT ⟨(TI.of Try.prog), (fnOf Try.prog), ⟨[], ctOf [ct_awake]⟩, 400, Try.f6, none⟩ (flat (loopBody (flat (bodyOf Try.f6)) 8)) (F214 ++ lem_l1_62) T214.toS (some ⟨T000, F000, [(110, some 41)], fam⟩) [(0, ⟨TE, FE, [], []⟩)] .leaf := by
  unfold GoodT
  rw [good_l1_62paths]
  simp only [List.forall_mem_cons]
  exact ⟨good_l1_62_0, fun _ h => absurd h List.not_mem_nil⟩
theorem good_l1_63paths : DT.paths (.node (.bin .eq (.var 102) idE) .leaf (.node (.bin .eq (.var 101) idE) .leaf .leaf)) = [[((.bin .eq (.var 102) idE), true)], [((.bin .eq (.var 102) idE), false), ((.bin .eq (.var 101) idE), true)], [((.bin .eq (.var 102) idE), false), ((.bin .eq (.var 101) idE), false)]] := by kernel_rfl
theorem good_l1_63 : GoodT ⟨(TI.of Try.prog), (fnOf Try.prog), ⟨[], ctOf [ct_awake]⟩, 400, Try.f6, none⟩ (flat (loopBody (flat (bodyOf Try.f6)) 8)) (F220 ++ lem_l1_63) T220.toS (some ⟨T000, F000, [(110, some 41)], fam⟩) [(0, ⟨TE, FE, [], []⟩)] (.node (.bin .eq (.var 102) idE) .leaf (.node (.bin .eq (.var 101) idE) .leaf .leaf)) := by
  unfold GoodT
  rw [good_l1_63paths]
  simp only [List.forall_mem_cons]
  exact ⟨good_l1_63_0, good_l1_63_1, good_l1_63_2, fun _ h => absurd h List.not_mem_nil⟩
theorem good_l1_64paths : DT.paths (.node (.bin .eq (.var 103) idE) .leaf (.node (.bin .eq (.var 102) idE) .leaf (.node (.bin .eq (.var 101) idE) .leaf .leaf))) = [[((.bin .eq (.var 103) idE), true)], [((.bin .eq (.var 103) idE), false), ((.bin .eq (.var 102) idE), true)], [((.bin .eq (.var 103) idE), false), ((.bin .eq (.var 102) idE), false), ((.bin .eq (.var 101) idE), true)], [((.bin .eq (.var 103) idE), false), ((.bin .eq (.var 102) idE), false), ((.bin .eq (.var 101) idE), false)]] := by kernel_rfl
theorem good_l1_64 : GoodT ⟨(TI.of Try.prog), (fnOf Try.prog), ⟨[], ctOf [ct_awake]⟩, 400, Try.f6, none⟩ (flat (loopBody (flat (bodyOf Try.f6)) 8)) (F221 ++ lem_l1_64) T221.toS (some ⟨T000, F000, [(110, some 41)], fam⟩) [(0, ⟨TE, FE, [], []⟩)] (.node (.bin .eq (.var 103) idE) .leaf (.node (.bin .eq (.var 102) idE) .leaf (.node (.bin .eq (.var 101) idE) .leaf .leaf))) := by
  unfold GoodT
  rw [good_l1_64paths]
  simp only [List.forall_mem_cons]
  exact ⟨good_l1_64_0, good_l1_64_1, good_l1_64_2, good_l1_64_3, fun _ h => absurd h List.not_mem_nil⟩
theorem good_l1_65paths : DT.paths (.node (.bin .eq (.var 104) idE) .leaf (.node (.bin .eq (.var 103) idE) .leaf (.node (.bin .eq (.var 102) idE) .leaf (.node (.bin .eq (.var 101) idE) .leaf .leaf)))) = [[((.bin .eq (.var 104) idE), true)], [((.bin .eq (.var 104) idE), false), ((.bin .eq (.var 103) idE), true)], [((.bin .eq (.var 104) idE), false), ((.bin .eq (.var 103) idE), false), ((.bin .eq (.var 102) idE), true)], [((.bin .eq (.var 104) idE), false), ((.bin .eq (.var 103) idE), false), ((.bin .eq (.var 102) idE), false), ((.bin .eq (.var 101) idE), true)], [((.bin .eq (.var 104) idE), false), ((.bin .eq (.var 103) idE), false), ((.bin .eq (.var 102) idE), false), ((.bin .eq (.var 101) idE), false)]] := by kernel_rfl
theorem good_l1_65 : GoodT ⟨(TI.of Try.prog), (fnOf Try.prog), ⟨[], ctOf [ct_awake]⟩, 400, Try.f6, none⟩ (flat (loopBody (flat (bodyOf Try.f6)) 8)) (F222 ++ lem_l1_65) T222.toS (some ⟨T000, F000, [(110, some 41)], fam⟩) [(0, ⟨TE, FE, [], []⟩)] (.node (.bin .eq (.var 104) idE) .leaf (.node (.bin .eq (.var 103) idE) .leaf (.node (.bin .eq (.var 102) idE) .leaf (.node (.bin .eq (.var 101) idE) .leaf .leaf)))) := by
  unfold GoodT
  rw [good_l1_65paths]
  simp only [List.forall_mem_cons]
  exact ⟨good_l1_65_0, good_l1_65_1, good_l1_65_2, good_l1_65_3, good_l1_65_4, fun _ h => absurd h List.not_mem_nil⟩
theorem good_l1_66paths : DT.paths (.node (.bin .eq (.var 105) idE) .leaf (.node (.bin .eq (.var 104) idE) .leaf (.node (.bin .eq (.var 103) idE) .leaf (.node (.bin .eq (.var 102) idE) .leaf (.node (.bin .eq (.var 101) idE) .leaf .leaf))))) = [[((.bin .eq (.var 105) idE), true)], [((.bin .eq (.var 105) idE), false), ((.bin .eq (.var 104) idE), true)], [((.bin .eq (.var 105) idE), false), ((.bin .eq (.var 104) idE), false), ((.bin .eq (.var 103) idE), true)], [((.bin .eq (.var 105) idE), false), ((.bin .eq (.var 104) idE), false), ((.bin .eq (.var 103) idE), false), ((.bin .eq (.var 102) idE), true)], [((.bin .eq (.var 105) idE), false), ((.bin .eq (.var 104) idE), false), ((.bin .eq (.var 103) idE), false), ((.bin .eq (.var 102) idE), false), ((.bin .eq (.var 101) idE), true)], [((.bin .eq (.var 105) idE), false), ((.bin .eq (.var 104) idE), false), ((.bin .eq (.var 103) idE), false), ((.bin .eq (.var 102) idE), false), ((.bin .eq (.var 101) idE), false)]] := by kernel_rfl
theorem good_l1_66 : GoodT ⟨(TI.of Try.prog), (fnOf Try.prog), ⟨[], ctOf [ct_awake]⟩, 400, Try.f6, none⟩ (flat (loopBody (flat (bodyOf Try.f6)) 8)) (F223 ++ lem_l1_66) T223.toS (some ⟨T000, F000, [(110, some 41)], fam⟩) [(0, ⟨TE, FE, [], []⟩)] (.node (.bin .eq (.var 105) idE) .leaf (.node (.bin .eq (.var 104) idE) .leaf (.node (.bin .eq (.var 103) idE) .leaf (.node (.bin .eq (.var 102) idE) .leaf (.node (.bin .eq (.var 101) idE) .leaf .leaf))))) := by
  unfold GoodT
  rw [good_l1_66paths]
  simp only [List.forall_mem_cons]
  exact ⟨good_l1_66_0, good_l1_66_1, good_l1_66_2, good_l1_66_3, good_l1_66_4, good_l1_66_5, fun _ h => absurd h List.not_mem_nil⟩
theorem good_l1_67paths : DT.paths .leaf = [[]] := by kernel_rfl
theorem good_l1_67 : GoodT ⟨(TI.of Try.prog), (fnOf Try.prog), ⟨[], ctOf [ct_awake]⟩, 400, Try.f6, none⟩ (flat (loopBody (flat (bodyOf Try.f6)) 8)) (F224 ++ lem_l1_67) T224.toS (some ⟨T000, F000, [(110, some 41)], fam⟩) [(0, ⟨TE, FE, [], []⟩)] .leaf := by
  unfold GoodT
  rw [good_l1_67paths]
  simp only [List.forall_mem_cons]
  exact ⟨good_l1_67_0, fun _ h => absurd h List.not_mem_nil⟩
theorem good_l1_68paths : DT.paths (.node (.bin .eq (.var 103) idE) .leaf (.node (.bin .eq (.var 102) idE) .leaf (.node (.bin .eq (.var 101) idE) .leaf .leaf))) = [[((.bin .eq (.var 103) idE), true)], [((.bin .eq (.var 103) idE), false), ((.bin .eq (.var 102) idE), true)], [((.bin .eq (.var 103) idE), false), ((.bin .eq (.var 102) idE), false), ((.bin .eq (.var 101) idE), true)], [((.bin .eq (.var 103) idE), false), ((.bin .eq (.var 102) idE), false), ((.bin .eq (.var 101) idE), false)]] := by kernel_rfl
theorem good_l1_68 : GoodT ⟨(TI.of Try.prog), (fnOf Try.prog), ⟨[], ctOf [ct_awake]⟩, 400, Try.f6, none⟩ (flat (loopBody (flat (bodyOf Try.f6)) 8)) (F230 ++ lem_l1_68) T230.toS (some ⟨T000, F000, [(110, some 41)], fam⟩) [(0, ⟨TE, FE, [], []⟩)] (.node (.bin .eq (.var 103) idE) .leaf (.node (.bin .eq (.var 102) idE) .leaf (.node (.bin .eq (.var 101) idE) .leaf .leaf))) := by
  unfold GoodT
  rw [good_l1_68paths]
  simp only [List.forall_mem_cons]
  exact ⟨good_l1_68_0, good_l1_68_1, good_l1_68_2, good_l1_68_3, fun _ h => absurd h List.not_mem_nil⟩
theorem good_l1_69paths : DT.paths (.node (.bin .eq (.var 104) idE) .leaf (.node (.bin .eq (.var 103) idE) .leaf (.node (.bin .eq (.var 102) idE) .leaf (.node (.bin .eq (.var 101) idE) .leaf .leaf)))) = [[((.bin .eq (.var 104) idE), true)], [((.bin .eq (.var 104) idE), false), ((.bin .eq (.var 103) idE), true)], [((.bin .eq (.var 104) idE), false), ((.bin .eq (.var 103) idE), false), ((.bin .eq (.var 102) idE), true)], [((.bin .eq (.var 104) idE), false), ((.bin .eq (.var 103) idE), false), ((.bin .eq (.var 102) idE), false), ((.bin .eq (.var 101) idE), true)], [((.bin .eq (.var 104) idE), false), ((.bin .eq (.var 103) idE), false), ((.bin .eq (.var 102) idE), false), ((.bin .eq (.var 101) idE), false)]] := by kernel_rfl
theorem good_l1_69 : GoodT ⟨(TI.of Try.prog), (fnOf Try.prog), ⟨[], ctOf [ct_awake]⟩, 400, Try.f6, none⟩ (flat (loopBody (flat (bodyOf Try.f6)) 8)) (F231 ++ lem_l1_69) T231.toS (some ⟨T000, F000, [(110, some 41)], fam⟩) [(0, ⟨TE, FE, [], []⟩)] (.node (.bin .eq (.var 104) idE) .leaf (.node (.bin .eq (.var 103) idE) .leaf (.node (.bin .eq (.var 102) idE) .leaf (.node (.bin .eq (.var 101) idE) .leaf .leaf)))) := by
  unfold GoodT
  rw [good_l1_69paths]
  simp only [List.forall_mem_cons]
  exact ⟨good_l1_69_0, good_l1_69_1, good_l1_69_2, good_l1_69_3, good_l1_69_4, fun _ h => absurd h List.not_mem_nil⟩
theorem good_l1_70paths : DT.paths (.node (.bin .eq (.var 105) idE) .leaf (.node (.bin .eq (.var 104) idE) .leaf (.node (.bin .eq (.var 103) idE) .leaf (.node (.bin .eq (.var 102) idE) .leaf (.node (.bin .eq (.var 101) idE) .leaf .leaf))))) = [[((.bin .eq (.var 105) idE), true)], [((.bin .eq (.var 105) idE), false), ((.bin .eq (.var 104) idE), true)], [((.bin .eq (.var 105) idE), false), ((.bin .eq (.var 104) idE), false), ((.bin .eq (.var 103) idE), true)], [((.bin .eq (.var 105) idE), false), ((.bin .eq (.var 104) idE), false), ((.bin .eq (.var 103) idE), false), ((.bin .eq (.var 102) idE), true)], [((.bin .eq (.var 105) idE), false), ((.bin .eq (.var 104) idE), false), ((.bin .eq (.var 103) idE), false), ((.bin .eq (.var 102) idE), false), ((.bin .eq (.var 101) idE), true)], [((.bin .eq (.var 105) idE), false), ((.bin .eq (.var 104) idE), false), ((.bin .eq (.var 103) idE), false), ((.bin .eq (.var 102) idE), false), ((.bin .eq (.var 101) idE), false)]] := by kernel_rfl
theorem good_l1_70 : GoodT ⟨(TI.of Try.prog), (fnOf Try.prog), ⟨[], ctOf [ct_awake]⟩, 400, Try.f6, none⟩ (flat (loopBody (flat (bodyOf Try.f6)) 8)) (F232 ++ lem_l1_70) T232.toS (some ⟨T000, F000, [(110, some 41)], fam⟩) [(0, ⟨TE, FE, [], []⟩)] (.node (.bin .eq (.var 105) idE) .leaf (.node (.bin .eq (.var 104) idE) .leaf (.node (.bin .eq (.var 103) idE) .leaf (.node (.bin .eq (.var 102) idE) .leaf (.node (.bin .eq (.var 101) idE) .leaf .leaf))))) := by
  unfold GoodT
  rw [good_l1_70paths]
  simp only [List.forall_mem_cons]
  exact ⟨good_l1_70_0, good_l1_70_1, good_l1_70_2, good_l1_70_3, good_l1_70_4, good_l1_70_5, fun _ h => absurd h List.not_mem_nil⟩
theorem good_l1_71paths : DT.paths (.node (.bin .eq (.var 106) idE) .leaf (.node (.bin .eq (.var 105) idE) .leaf (.node (.bin .eq (.var 104) idE) .leaf (.node (.bin .eq (.var 103) idE) .leaf (.node (.bin .eq (.var 102) idE) .leaf (.node (.bin .eq (.var 101) idE) .leaf .leaf)))))) = [[((.bin .eq (.var 106) idE), true)], [((.bin .eq (.var 106) idE), false), ((.bin .eq (.var 105) idE), true)], [((.bin .eq (.var 106) idE), false), ((.bin .eq (.var 105) idE), false), ((.bin .eq (.var 104) idE), true)], [((.bin .eq (.var 106) idE), false), ((.bin .eq (.var 105) idE), false), ((.bin .eq (.var 104) idE), false), ((.bin .eq (.var 103) idE), true)], [((.bin .eq (.var 106) idE), false), ((.bin .eq (.var 105) idE), false), ((.bin .eq (.var 104) idE), false), ((.bin .eq (.var 103) idE), false), ((.bin .eq (.var 102) idE), true)], [((.bin .eq (.var 106) idE), false), ((.bin .eq (.var 105) idE), false), ((.bin .eq (.var 104) idE), false), ((.bin .eq (.var 103) idE), false), ((.bin .eq (.var 102) idE), false), ((.bin .eq (.var 101) idE), true)], [((.bin .eq (.var 106) idE), false), ((.bin .eq (.var 105) idE), false), ((.bin .eq (.var 104) idE), false), ((.bin .eq (.var 103) idE), false), ((.bin .eq (.var 102) idE), false), ((.bin .eq (.var 101) idE), false)]] := by kernel_rfl
theorem good_l1_71 : GoodT ⟨(TI.of Try.prog), (fnOf Try.prog), ⟨[], ctOf [ct_awake]⟩, 400, Try.f6, none⟩ (flat (loopBody (flat (bodyOf Try.f6)) 8)) (F233 ++ lem_l1_71) T233.toS (some ⟨T000, F000, [(110, some 41)], fam⟩) [(0, ⟨TE, FE, [], []⟩)] (.node (.bin .eq (.var 106) idE) .leaf (.node (.bin .eq (.var 105) idE) .leaf (.node (.bin .eq (.var 104) idE) .leaf (.node (.bin .eq (.var 103) idE) .leaf (.node (.bin .eq (.var 102) idE) .leaf (.node (.bin .eq (.var 101) idE) .leaf .leaf)))))) := by
  unfold GoodT
  rw [good_l1_71paths]
  simp only [List.forall_mem_cons]
  exact ⟨good_l1_71_0, good_l1_71_1, good_l1_71_2, good_l1_71_3, good_l1_71_4, good_l1_71_5, good_l1_71_6, fun _ h => absurd h List.not_mem_nil⟩
theorem good_l1_72paths : DT.paths .leaf = [[]] := by kernel_rfl
theorem good_l1_72 : GoodT ⟨(TI.of Try.prog), (fnOf Try.prog), ⟨[], ctOf [ct_awake]⟩, 400, Try.f6, none⟩ (flat (loopBody (flat (bodyOf Try.f6)) 8)) (F234 ++ lem_l1_72) T234.toS (some ⟨T000, F000, [(110, some 41)], fam⟩) [(0, ⟨TE, FE, [], []⟩)] .leaf := by
  unfold GoodT
  rw [good_l1_72paths]
  simp only [List.forall_mem_cons]
  exact ⟨good_l1_72_0, fun _ h => absurd h List.not_mem_nil⟩
theorem good_l1_73paths : DT.paths (.node (.bin .eq (.var 104) idE) .leaf (.node (.bin .eq (.var 103) idE) .leaf (.node (.bin .eq (.var 102) idE) .leaf (.node (.bin .eq (.var 101) idE) .leaf .leaf)))) = [[((.bin .eq (.var 104) idE), true)], [((.bin .eq (.var 104) idE), false), ((.bin .eq (.var 103) idE), true)], [((.bin .eq (.var 104) idE), false), ((.bin .eq (.var 103) idE), false), ((.bin .eq (.var 102) idE), true)], [((.bin .eq (.var 104) idE), false), ((.bin .eq (.var 103) idE), false), ((.bin .eq (.var 102) idE), false), ((.bin .eq (.var 101) idE), true)], [((.bin .eq (.var 104) idE), false), ((.bin .eq (.var 103) idE), false), ((.bin .eq (.var 102) idE), false), ((.bin .eq (.var 101) idE), false)]] := by kernel_rfl
theorem good_l1_73 : GoodT ⟨(TI.of Try.prog), (fnOf Try.prog), ⟨[], ctOf [ct_awake]⟩, 400, Try.f6, none⟩ (flat (loopBody (flat (bodyOf Try.f6)) 8)) (F240 ++ lem_l1_73) T240.toS (some ⟨T000, F000, [(110, some 41)], fam⟩) [(0, ⟨TE, FE, [], []⟩)] (.node (.bin .eq (.var 104) idE) .leaf (.node (.bin .eq (.var 103) idE) .leaf (.node (.bin .eq (.var 102) idE) .leaf (.node (.bin .eq (.var 101) idE) .leaf .leaf)))) := by
  unfold GoodT
  rw [good_l1_73paths]
  simp only [List.forall_mem_cons]
  exact ⟨good_l1_73_0, good_l1_73_1, good_l1_73_2, good_l1_73_3, good_l1_73_4, fun _ h => absurd h List.not_mem_nil⟩
theorem good_l1_74paths : DT.paths (.node (.bin .eq (.var 105) idE) .leaf (.node (.bin .eq (.var 104) idE) .leaf (.node (.bin .eq (.var 103) idE) .leaf (.node (.bin .eq (.var 102) idE) .leaf (.node (.bin .eq (.var 101) idE) .leaf .leaf))))) = [[((.bin .eq (.var 105) idE), true)], [((.bin .eq (.var 105) idE), false), ((.bin .eq (.var 104) idE), true)], [((.bin .eq (.var 105) idE), false), ((.bin .eq (.var 104) idE), false), ((.bin .eq (.var 103) idE), true)], [((.bin .eq (.var 105) idE), false), ((.bin .eq (.var 104) idE), false), ((.bin .eq (.var 103) idE), false), ((.bin .eq (.var 102) idE), true)], [((.bin .eq (.var 105) idE), false), ((.bin .eq (.var 104) idE), false), ((.bin .eq (.var 103) idE), false), ((.bin .eq (.var 102) idE), false), ((.bin .eq (.var 101) idE), true)], [((.bin .eq (.var 105) idE), false), ((.bin .eq (.var 104) idE), false), ((.bin .eq (.var 103) idE), false), ((.bin .eq (.var 102) idE), false), ((.bin .eq (.var 101) idE), false)]] := by kernel_rfl
theorem good_l1_74 : GoodT ⟨(TI.of Try.prog), (fnOf Try.prog), ⟨[], ctOf [ct_awake]⟩, 400, Try.f6, none⟩ (flat (loopBody (flat (bodyOf Try.f6)) 8)) (F241 ++ lem_l1_74) T241.toS (some ⟨T000, F000, [(110, some 41)], fam⟩) [(0, ⟨TE, FE, [], []⟩)] (.node (.bin .eq (.var 105) idE) .leaf (.node (.bin .eq (.var 104) idE) .leaf (.node (.bin .eq (.var 103) idE) .leaf (.node (.bin .eq (.var 102) idE) .leaf (.node (.bin .eq (.var 101) idE) .leaf .leaf))))) := by
  unfold GoodT
  rw [good_l1_74paths]
  simp only [List.forall_mem_cons]
  exact ⟨good_l1_74_0, good_l1_74_1, good_l1_74_2, good_l1_74_3, good_l1_74_4, good_l1_74_5, fun _ h => absurd h List.not_mem_nil⟩
theorem good_l1_75paths : DT.paths (.node (.bin .eq (.var 106) idE) .leaf (.node (.bin .eq (.var 105) idE) .leaf (.node (.bin .eq (.var 104) idE) .leaf (.node (.bin .eq (.var 103) idE) .leaf (.node (.bin .eq (.var 102) idE) .leaf (.node (.bin .eq (.var 101) idE) .leaf .leaf)))))) = [[((.bin .eq (.var 106) idE), true)], [((.bin .eq (.var 106) idE), false), ((.bin .eq (.var 105) idE), true)], [((.bin .eq (.var 106) idE), false), ((.bin .eq (.var 105) idE), false), ((.bin .eq (.var 104) idE), true)], [((.bin .eq (.var 106) idE), false), ((.bin .eq (.var 105) idE), false), ((.bin .eq (.var 104) idE), false), ((.bin .eq (.var 103) idE), true)], [((.bin .eq (.var 106) idE), false), ((.bin .eq (.var 105) idE), false), ((.bin .eq (.var 104) idE), false), ((.bin .eq (.var 103) idE), false), ((.bin .eq (.var 102) idE), true)], [((.bin .eq (.var 106) idE), false), ((.bin .eq (.var 105) idE), false), ((.bin .eq (.var 104) idE), false), ((.bin .eq (.var 103) idE), false), ((.bin .eq (.var 102) idE), false), ((.bin .eq (.var 101) idE), true)], [((.bin .eq (.var 106) idE), false), ((.bin .eq (.var 105) idE), false), ((.bin .eq (.var 104) idE), false), ((.bin .eq (.var 103) idE), false), ((.bin .eq (.var 102) idE), false), ((.bin .eq (.var 101) idE), false)]] := by kernel_rfl
theorem good_l1_75 : GoodT ⟨(TI.of Try.prog), (fnOf Try.prog), ⟨[], ctOf [ct_awake]⟩, 400, Try.f6, none⟩ (flat (loopBody (flat (bodyOf Try.f6)) 8)) (F242 ++ lem_l1_75) T242.toS (some ⟨T000, F000, [(110, some 41)], fam⟩) [(0, ⟨TE, FE, [], []⟩)] (.node (.bin .eq (.var 106) idE) .leaf (.node (.bin .eq (.var 105) idE) .leaf (.node (.bin .eq (.var 104) idE) .leaf (.node (.bin .eq (.var 103) idE) .leaf (.node (.bin .eq (.var 102) idE) .leaf (.node (.bin .eq (.var 101) idE) .leaf .leaf)))))) := by
  unfold GoodT
  rw [good_l1_75paths]
  simp only [List.forall_mem_cons]
  exact ⟨good_l1_75_0, good_l1_75_1, good_l1_75_2, good_l1_75_3, good_l1_75_4, good_l1_75_5, good_l1_75_6, fun _ h => absurd h List.not_mem_nil⟩
theorem good_l1_76paths : DT.paths (.node (.bin .eq (.var 107) idE) .leaf (.node (.bin .eq (.var 106) idE) .leaf (.node (.bin .eq (.var 105) idE) .leaf (.node (.bin .eq (.var 104) idE) .leaf (.node (.bin .eq (.var 103) idE) .leaf (.node (.bin .eq (.var 102) idE) .leaf (.node (.bin .eq (.var 101) idE) .leaf .leaf))))))) = [[((.bin .eq (.var 107) idE), true)], [((.bin .eq (.var 107) idE), false), ((.bin .eq (.var 106) idE), true)], [((.bin .eq (.var 107) idE), false), ((.bin .eq (.var 106) idE), false), ((.bin .eq (.var 105) idE), true)], [((.bin .eq (.var 107) idE), false), ((.bin .eq (.var 106) idE), false), ((.bin .eq (.var 105) idE), false), ((.bin .eq (.var 104) idE), true)], [((.bin .eq (.var 107) idE), false), ((.bin .eq (.var 106) idE), false), ((.bin .eq (.var 105) idE), false), ((.bin .eq (.var 104) idE), false), ((.bin .eq (.var 103) idE), true)], [((.bin .eq (.var 107) idE), false), ((.bin .eq (.var 106) idE), false), ((.bin .eq (.var 105) idE), false), ((.bin .eq (.var 104) idE), false), ((.bin .eq (.var 103) idE), false), ((.bin .eq (.var 102) idE), true)], [((.bin .eq (.var 107) idE), false), ((.bin .eq (.var 106) idE), false), ((.bin .eq (.var 105) idE), false), ((.bin .eq (.var 104) idE), false), ((.bin .eq (.var 103) idE), false), ((.bin .eq (.var 102) idE), false), ((.bin .eq (.var 101) idE), true)], [((.bin .eq (.var 107) idE), false), ((.bin .eq (.var 106) idE), false), ((.bin .eq (.var 105) idE), false), ((.bin .eq (.var 104) idE), false), ((.bin .eq (.var 103) idE), false), ((.bin .eq (.var 102) idE), false), ((.bin .eq (.var 101) idE), false)]] := by kernel_rfl
theorem good_l1_76 : GoodT ⟨(TI.of Try.prog), (fnOf Try.prog), ⟨[], ctOf [ct_awake]⟩, 400, Try.f6, none⟩ (flat (loopBody (flat (bodyOf Try.f6)) 8)) (F243 ++ lem_l1_76) T243.toS (some ⟨T000, F000, [(110, some 41)], fam⟩) [(0, ⟨TE, FE, [], []⟩)] (.node (.bin .eq (.var 107) idE) .leaf (.node (.bin .eq (.var 106) idE) .leaf (.node (.bin .eq (.var 105) idE) .leaf (.node (.bin .eq (.var 104) idE) .leaf (.node (.bin .eq (.var 103) idE) .leaf (.node (.bin .eq (.var 102) idE) .leaf (.node (.bin .eq (.var 101) idE) .leaf .leaf))))))) := by
  unfold GoodT
  rw [good_l1_76paths]
  simp only [List.forall_mem_cons]
  exact ⟨good_l1_76_0, good_l1_76_1, good_l1_76_2, good_l1_76_3, good_l1_76_4, good_l1_76_5, good_l1_76_6, good_l1_76_7, fun _ h => absurd h List.not_mem_nil⟩
theorem good_l1_77paths : DT.paths .leaf = [[]] := by kernel_rfl
theorem good_l1_77 : GoodT ⟨(TI.of Try.prog), (fnOf Try.prog), ⟨[], ctOf [ct_awake]⟩, 400, Try.f6, none⟩ (flat (loopBody (flat (bodyOf Try.f6)) 8)) (F244 ++ lem_l1_77) T244.toS (some ⟨T000, F000, [(110, some 41)], fam⟩) [(0, ⟨TE, FE, [], []⟩)] .leaf := by
  unfold GoodT
  rw [good_l1_77paths]
  simp only [List.forall_mem_cons]
  exact ⟨good_l1_77_0, fun _ h => absurd h List.not_mem_nil⟩
theorem good_l1_78paths : DT.paths .leaf = [[]] := by kernel_rfl
theorem good_l1_78 : GoodT ⟨(TI.of Try.prog), (fnOf Try.prog), ⟨[], ctOf [ct_awake]⟩, 400, Try.f6, none⟩ ((flat (bodyOf Try.f6)).drop 9) (FE ++ lem_l1_78) TE.toS none [] .leaf := by
  unfold GoodT
  rw [good_l1_78paths]
  simp only [List.forall_mem_cons]
  exact ⟨good_l1_78_0, fun _ h => absurd h List.not_mem_nil⟩
theorem hl0 : (flat (bodyOf Try.f6))[8]? = some (.block 0 (.loop (loopBody (flat (bodyOf Try.f6)) 8))) := by kernel_rfl
theorem hC_c_awake_0 {C : Ctx} (h : C.n0 = ct_awake.nx) : LabsOk C (some ct_awake.R) none [] := by
  refine ⟨fun g hg => ?_, fun i g hg => ?_, ?_⟩
  · first | cases hg; done | (cases hg; rw [h]; intro p hp; rcases List.mem_cons.1 hp with rfl | hp; decide; cases hp)
  · simp only [tgtOf] at hg; first | (cases hg; done) | (repeat' split at hg <;> first | (cases hg; done) | (cases hg; rw [h]; intro p hp; rcases List.mem_cons.1 hp with rfl | hp; decide; cases hp))
  · show C.n0 ≤ _; rw [h]; decide
theorem hC_l0_1 {C : Ctx} (h : C.n0 = 0) : LabsOk C none none [] := labsOk_zero h _ _ _
theorem hC_l1_2 {C : Ctx} (h : C.n0 = 0) : LabsOk C none (some ⟨T000, F000, [], fam⟩) [] := labsOk_zero h _ _ _
theorem hC_l1_3 {C : Ctx} (h : C.n0 = 0) : LabsOk C none (some ⟨T000, F000, [(110, some 41)], fam⟩) [(0, ⟨TE, FE, [], []⟩)] := labsOk_zero h _ _ _
theorem hC_l1_4 {C : Ctx} (h : C.n0 = 0) : LabsOk C none (some ⟨T000, F000, [(110, some 41)], fam⟩) [(0, ⟨TE, FE, [], []⟩)] := labsOk_zero h _ _ _
theorem hC_l1_5 {C : Ctx} (h : C.n0 = 0) : LabsOk C none (some ⟨T000, F000, [(110, some 41)], fam⟩) [(0, ⟨TE, FE, [], []⟩)] := labsOk_zero h _ _ _
theorem hC_l1_6 {C : Ctx} (h : C.n0 = 0) : LabsOk C none (some ⟨T000, F000, [(110, some 41)], fam⟩) [(0, ⟨TE, FE, [], []⟩)] := labsOk_zero h _ _ _
theorem hC_l1_7 {C : Ctx} (h : C.n0 = 0) : LabsOk C none (some ⟨T000, F000, [(110, some 41)], fam⟩) [(0, ⟨TE, FE, [], []⟩)] := labsOk_zero h _ _ _
theorem hC_l1_8 {C : Ctx} (h : C.n0 = 0) : LabsOk C none (some ⟨T000, F000, [(110, some 41)], fam⟩) [(0, ⟨TE, FE, [], []⟩)] := labsOk_zero h _ _ _
theorem hC_l1_9 {C : Ctx} (h : C.n0 = 0) : LabsOk C none (some ⟨T000, F000, [(110, some 41)], fam⟩) [(0, ⟨TE, FE, [], []⟩)] := labsOk_zero h _ _ _
theorem hC_l1_10 {C : Ctx} (h : C.n0 = 0) : LabsOk C none (some ⟨T000, F000, [(110, some 41)], fam⟩) [(0, ⟨TE, FE, [], []⟩)] := labsOk_zero h _ _ _
theorem hC_l1_11 {C : Ctx} (h : C.n0 = 0) : LabsOk C none (some ⟨T000, F000, [(110, some 41)], fam⟩) [(0, ⟨TE, FE, [], []⟩)] := labsOk_zero h _ _ _
theorem hC_l1_12 {C : Ctx} (h : C.n0 = 0) : LabsOk C none (some ⟨T000, F000, [(110, some 41)], fam⟩) [(0, ⟨TE, FE, [], []⟩)] := labsOk_zero h _ _ _
theorem hC_l1_13 {C : Ctx} (h : C.n0 = 0) : LabsOk C none (some ⟨T000, F000, [(110, some 41)], fam⟩) [(0, ⟨TE, FE, [], []⟩)] := labsOk_zero h _ _ _
theorem hC_l1_14 {C : Ctx} (h : C.n0 = 0) : LabsOk C none (some ⟨T000, F000, [(110, some 41)], fam⟩) [(0, ⟨TE, FE, [], []⟩)] := labsOk_zero h _ _ _
theorem hC_l1_15 {C : Ctx} (h : C.n0 = 0) : LabsOk C none (some ⟨T000, F000, [(110, some 41)], fam⟩) [(0, ⟨TE, FE, [], []⟩)] := labsOk_zero h _ _ _
theorem hC_l1_16 {C : Ctx} (h : C.n0 = 0) : LabsOk C none (some ⟨T000, F000, [(110, some 41)], fam⟩) [(0, ⟨TE, FE, [], []⟩)] := labsOk_zero h _ _ _
theorem hC_l1_17 {C : Ctx} (h : C.n0 = 0) : LabsOk C none (some ⟨T000, F000, [(110, some 41)], fam⟩) [(0, ⟨TE, FE, [], []⟩)] := labsOk_zero h _ _ _
theorem hC_l1_18 {C : Ctx} (h : C.n0 = 0) : LabsOk C none (some ⟨T000, F000, [(110, some 41)], fam⟩) [(0, ⟨TE, FE, [], []⟩)] := labsOk_zero h _ _ _
theorem hC_l1_19 {C : Ctx} (h : C.n0 = 0) : LabsOk C none (some ⟨T000, F000, [(110, some 41)], fam⟩) [(0, ⟨TE, FE, [], []⟩)] := labsOk_zero h _ _ _
theorem hC_l1_20 {C : Ctx} (h : C.n0 = 0) : LabsOk C none (some ⟨T000, F000, [(110, some 41)], fam⟩) [(0, ⟨TE, FE, [], []⟩)] := labsOk_zero h _ _ _
theorem hC_l1_21 {C : Ctx} (h : C.n0 = 0) : LabsOk C none (some ⟨T000, F000, [(110, some 41)], fam⟩) [(0, ⟨TE, FE, [], []⟩)] := labsOk_zero h _ _ _
theorem hC_l1_22 {C : Ctx} (h : C.n0 = 0) : LabsOk C none (some ⟨T000, F000, [(110, some 41)], fam⟩) [(0, ⟨TE, FE, [], []⟩)] := labsOk_zero h _ _ _
theorem hC_l1_23 {C : Ctx} (h : C.n0 = 0) : LabsOk C none (some ⟨T000, F000, [(110, some 41)], fam⟩) [(0, ⟨TE, FE, [], []⟩)] := labsOk_zero h _ _ _
theorem hC_l1_24 {C : Ctx} (h : C.n0 = 0) : LabsOk C none (some ⟨T000, F000, [(110, some 41)], fam⟩) [(0, ⟨TE, FE, [], []⟩)] := labsOk_zero h _ _ _
theorem hC_l1_25 {C : Ctx} (h : C.n0 = 0) : LabsOk C none (some ⟨T000, F000, [(110, some 41)], fam⟩) [(0, ⟨TE, FE, [], []⟩)] := labsOk_zero h _ _ _
theorem hC_l1_26 {C : Ctx} (h : C.n0 = 0) : LabsOk C none (some ⟨T000, F000, [(110, some 41)], fam⟩) [(0, ⟨TE, FE, [], []⟩)] := labsOk_zero h _ _ _
theorem hC_l1_27 {C : Ctx} (h : C.n0 = 0) : LabsOk C none (some ⟨T000, F000, [(110, some 41)], fam⟩) [(0, ⟨TE, FE, [], []⟩)] := labsOk_zero h _ _ _
theorem hC_l1_28 {C : Ctx} (h : C.n0 = 0) : LabsOk C none (some ⟨T000, F000, [(110, some 41)], fam⟩) [(0, ⟨TE, FE, [], []⟩)] := labsOk_zero h _ _ _
theorem hC_l1_29 {C : Ctx} (h : C.n0 = 0) : LabsOk C none (some ⟨T000, F000, [(110, some 41)], fam⟩) [(0, ⟨TE, FE, [], []⟩)] := labsOk_zero h _ _ _
theorem hC_l1_30 {C : Ctx} (h : C.n0 = 0) : LabsOk C none (some ⟨T000, F000, [(110, some 41)], fam⟩) [(0, ⟨TE, FE, [], []⟩)] := labsOk_zero h _ _ _
theorem hC_l1_31 {C : Ctx} (h : C.n0 = 0) : LabsOk C none (some ⟨T000, F000, [(110, some 41)], fam⟩) [(0, ⟨TE, FE, [], []⟩)] := labsOk_zero h _ _ _
theorem hC_l1_32 {C : Ctx} (h : C.n0 = 0) : LabsOk C none (some ⟨T000, F000, [(110, some 41)], fam⟩) [(0, ⟨TE, FE, [], []⟩)] := labsOk_zero h _ _ _
theorem hC_l1_33 {C : Ctx} (h : C.n0 = 0) : LabsOk C none (some ⟨T000, F000, [(110, some 41)], fam⟩) [(0, ⟨TE, FE, [], []⟩)] := labsOk_zero h _ _ _
theorem hC_l1_34 {C : Ctx} (h : C.n0 = 0) : LabsOk C none (some ⟨T000, F000, [(110, some 41)], fam⟩) [(0, ⟨TE, FE, [], []⟩)] := labsOk_zero h _ _ _
theorem hC_l1_35 {C : Ctx} (h : C.n0 = 0) : LabsOk C none (some ⟨T000, F000, [(110, some 41)], fam⟩) [(0, ⟨TE, FE, [], []⟩)] := labsOk_zero h _ _ _
theorem hC_l1_36 {C : Ctx} (h : C.n0 = 0) : LabsOk C none (some ⟨T000, F000, [(110, some 41)], fam⟩) [(0, ⟨TE, FE, [], []⟩)] := labsOk_zero h _ _ _
theorem hC_l1_37 {C : Ctx} (h : C.n0 = 0) : LabsOk C none (some ⟨T000, F000, [(110, some 41)], fam⟩) [(0, ⟨TE, FE, [], []⟩)] := labsOk_zero h _ _ _
theorem hC_l1_38 {C : Ctx} (h : C.n0 = 0) : LabsOk C none (some ⟨T000, F000, [(110, some 41)], fam⟩) [(0, ⟨TE, FE, [], []⟩)] := labsOk_zero h _ _ _
theorem hC_l1_39 {C : Ctx} (h : C.n0 = 0) : LabsOk C none (some ⟨T000, F000, [(110, some 41)], fam⟩) [(0, ⟨TE, FE, [], []⟩)] := labsOk_zero h _ _ _
theorem hC_l1_40 {C : Ctx} (h : C.n0 = 0) : LabsOk C none (some ⟨T000, F000, [(110, some 41)], fam⟩) [(0, ⟨TE, FE, [], []⟩)] := labsOk_zero h _ _ _
theorem hC_l1_41 {C : Ctx} (h : C.n0 = 0) : LabsOk C none (some ⟨T000, F000, [(110, some 41)], fam⟩) [(0, ⟨TE, FE, [], []⟩)] := labsOk_zero h _ _ _
theorem hC_l1_42 {C : Ctx} (h : C.n0 = 0) : LabsOk C none (some ⟨T000, F000, [(110, some 41)], fam⟩) [(0, ⟨TE, FE, [], []⟩)] := labsOk_zero h _ _ _
theorem hC_l1_43 {C : Ctx} (h : C.n0 = 0) : LabsOk C none (some ⟨T000, F000, [(110, some 41)], fam⟩) [(0, ⟨TE, FE, [], []⟩)] := labsOk_zero h _ _ _
theorem hC_l1_44 {C : Ctx} (h : C.n0 = 0) : LabsOk C none (some ⟨T000, F000, [(110, some 41)], fam⟩) [(0, ⟨TE, FE, [], []⟩)] := labsOk_zero h _ _ _
theorem hC_l1_45 {C : Ctx} (h : C.n0 = 0) : LabsOk C none (some ⟨T000, F000, [(110, some 41)], fam⟩) [(0, ⟨TE, FE, [], []⟩)] := labsOk_zero h _ _ _
theorem hC_l1_46 {C : Ctx} (h : C.n0 = 0) : LabsOk C none (some ⟨T000, F000, [(110, some 41)], fam⟩) [(0, ⟨TE, FE, [], []⟩)] := labsOk_zero h _ _ _
theorem hC_l1_47 {C : Ctx} (h : C.n0 = 0) : LabsOk C none (some ⟨T000, F000, [(110, some 41)], fam⟩) [(0, ⟨TE, FE, [], []⟩)] := labsOk_zero h _ _ _
theorem hC_l1_48 {C : Ctx} (h : C.n0 = 0) : LabsOk C none (some ⟨T000, F000, [(110, some 41)], fam⟩) [(0, ⟨TE, FE, [], []⟩)] := labsOk_zero h _ _ _
theorem hC_l1_49 {C : Ctx} (h : C.n0 = 0) : LabsOk C none (some ⟨T000, F000, [(110, some 41)], fam⟩) [(0, ⟨TE, FE, [], []⟩)] := labsOk_zero h _ _ _
theorem hC_l1_50 {C : Ctx} (h : C.n0 = 0) : LabsOk C none (some ⟨T000, F000, [(110, some 41)], fam⟩) [(0, ⟨TE, FE, [], []⟩)] := labsOk_zero h _ _ _
theorem hC_l1_51 {C : Ctx} (h : C.n0 = 0) : LabsOk C none (some ⟨T000, F000, [(110, some 41)], fam⟩) [(0, ⟨TE, FE, [], []⟩)] := labsOk_zero h _ _ _
theorem hC_l1_52 {C : Ctx} (h : C.n0 = 0) : LabsOk C none (some ⟨T000, F000, [(110, some 41)], fam⟩) [(0, ⟨TE, FE, [], []⟩)] := labsOk_zero h _ _ _
theorem hC_l1_53 {C : Ctx} (h : C.n0 = 0) : LabsOk C none (some ⟨T000, F000, [(110, some 41)], fam⟩) [(0, ⟨TE, FE, [], []⟩)] := labsOk_zero h _ _ _
theorem hC_l1_54 {C : Ctx} (h : C.n0 = 0) : LabsOk C none (some ⟨T000, F000, [(110, some 41)], fam⟩) [(0, ⟨TE, FE, [], []⟩)] := labsOk_zero h _ _ _
theorem hC_l1_55 {C : Ctx} (h : C.n0 = 0) : LabsOk C none (some ⟨T000, F000, [(110, some 41)], fam⟩) [(0, ⟨TE, FE, [], []⟩)] := labsOk_zero h _ _ _
theorem hC_l1_56 {C : Ctx} (h : C.n0 = 0) : LabsOk C none (some ⟨T000, F000, [(110, some 41)], fam⟩) [(0, ⟨TE, FE, [], []⟩)] := labsOk_zero h _ _ _
theorem hC_l1_57 {C : Ctx} (h : C.n0 = 0) : LabsOk C none (some ⟨T000, F000, [(110, some 41)], fam⟩) [(0, ⟨TE, FE, [], []⟩)] := labsOk_zero h _ _ _
theorem hC_l1_58 {C : Ctx} (h : C.n0 = 0) : LabsOk C none (some ⟨T000, F000, [(110, some 41)], fam⟩) [(0, ⟨TE, FE, [], []⟩)] := labsOk_zero h _ _ _
theorem hC_l1_59 {C : Ctx} (h : C.n0 = 0) : LabsOk C none (some ⟨T000, F000, [(110, some 41)], fam⟩) [(0, ⟨TE, FE, [], []⟩)] := labsOk_zero h _ _ _
theorem hC_l1_60 {C : Ctx} (h : C.n0 = 0) : LabsOk C none (some ⟨T000, F000, [(110, some 41)], fam⟩) [(0, ⟨TE, FE, [], []⟩)] := labsOk_zero h _ _ _
theorem hC_l1_61 {C : Ctx} (h : C.n0 = 0) : LabsOk C none (some ⟨T000, F000, [(110, some 41)], fam⟩) [(0, ⟨TE, FE, [], []⟩)] := labsOk_zero h _ _ _
theorem hC_l1_62 {C : Ctx} (h : C.n0 = 0) : LabsOk C none (some ⟨T000, F000, [(110, some 41)], fam⟩) [(0, ⟨TE, FE, [], []⟩)] := labsOk_zero h _ _ _
theorem hC_l1_63 {C : Ctx} (h : C.n0 = 0) : LabsOk C none (some ⟨T000, F000, [(110, some 41)], fam⟩) [(0, ⟨TE, FE, [], []⟩)] := labsOk_zero h _ _ _
theorem hC_l1_64 {C : Ctx} (h : C.n0 = 0) : LabsOk C none (some ⟨T000, F000, [(110, some 41)], fam⟩) [(0, ⟨TE, FE, [], []⟩)] := labsOk_zero h _ _ _
theorem hC_l1_65 {C : Ctx} (h : C.n0 = 0) : LabsOk C none (some ⟨T000, F000, [(110, some 41)], fam⟩) [(0, ⟨TE, FE, [], []⟩)] := labsOk_zero h _ _ _
theorem hC_l1_66 {C : Ctx} (h : C.n0 = 0) : LabsOk C none (some ⟨T000, F000, [(110, some 41)], fam⟩) [(0, ⟨TE, FE, [], []⟩)] := labsOk_zero h _ _ _
theorem hC_l1_67 {C : Ctx} (h : C.n0 = 0) : LabsOk C none (some ⟨T000, F000, [(110, some 41)], fam⟩) [(0, ⟨TE, FE, [], []⟩)] := labsOk_zero h _ _ _
theorem hC_l1_68 {C : Ctx} (h : C.n0 = 0) : LabsOk C none (some ⟨T000, F000, [(110, some 41)], fam⟩) [(0, ⟨TE, FE, [], []⟩)] := labsOk_zero h _ _ _
theorem hC_l1_69 {C : Ctx} (h : C.n0 = 0) : LabsOk C none (some ⟨T000, F000, [(110, some 41)], fam⟩) [(0, ⟨TE, FE, [], []⟩)] := labsOk_zero h _ _ _
theorem hC_l1_70 {C : Ctx} (h : C.n0 = 0) : LabsOk C none (some ⟨T000, F000, [(110, some 41)], fam⟩) [(0, ⟨TE, FE, [], []⟩)] := labsOk_zero h _ _ _
theorem hC_l1_71 {C : Ctx} (h : C.n0 = 0) : LabsOk C none (some ⟨T000, F000, [(110, some 41)], fam⟩) [(0, ⟨TE, FE, [], []⟩)] := labsOk_zero h _ _ _
theorem hC_l1_72 {C : Ctx} (h : C.n0 = 0) : LabsOk C none (some ⟨T000, F000, [(110, some 41)], fam⟩) [(0, ⟨TE, FE, [], []⟩)] := labsOk_zero h _ _ _
theorem hC_l1_73 {C : Ctx} (h : C.n0 = 0) : LabsOk C none (some ⟨T000, F000, [(110, some 41)], fam⟩) [(0, ⟨TE, FE, [], []⟩)] := labsOk_zero h _ _ _
theorem hC_l1_74 {C : Ctx} (h : C.n0 = 0) : LabsOk C none (some ⟨T000, F000, [(110, some 41)], fam⟩) [(0, ⟨TE, FE, [], []⟩)] := labsOk_zero h _ _ _
theorem hC_l1_75 {C : Ctx} (h : C.n0 = 0) : LabsOk C none (some ⟨T000, F000, [(110, some 41)], fam⟩) [(0, ⟨TE, FE, [], []⟩)] := labsOk_zero h _ _ _
theorem hC_l1_76 {C : Ctx} (h : C.n0 = 0) : LabsOk C none (some ⟨T000, F000, [(110, some 41)], fam⟩) [(0, ⟨TE, FE, [], []⟩)] := labsOk_zero h _ _ _
theorem hC_l1_77 {C : Ctx} (h : C.n0 = 0) : LabsOk C none (some ⟨T000, F000, [(110, some 41)], fam⟩) [(0, ⟨TE, FE, [], []⟩)] := labsOk_zero h _ _ _
theorem hC_l1_78 {C : Ctx} (h : C.n0 = 0) : LabsOk C none none [] := labsOk_zero h _ _ _
theorem fit_awake : ct_awake.fit = true := by kernel_rfl
theorem c_awake_ct : ∀ ρ, CallOk Try.prog ρ (ctOf []) := ctOf_ok (fun _ h => absurd h List.not_mem_nil)
theorem ok_awake : ct_awake.ok Try.prog :=
  Ctr.ok_of (x := ⟨(TI.of Try.prog), (fnOf Try.prog), ⟨[], ctOf []⟩, 400, Try.f11, (some ct_awake.R)⟩) (body := bodyOf Try.f11) (by kernel_rfl) (by kernel_rfl) rfl (by kernel_rfl) (fun C hC => (From.run mixed (tysOf _) fnOk c_awake_ct (hC_c_awake_0 hC) good_c_awake_0 lem_c_awake_0_ok))
theorem l0_ct : ∀ ρ, CallOk Try.prog ρ (ctOf [ct_awake]) := ctOf_ok (by
  simp only [List.forall_mem_cons]
  exact ⟨⟨fit_awake, ok_awake⟩, fun _ h => absurd h List.not_mem_nil⟩)
theorem hsym0 : symArgsT Try.prog Try.f6.params.toList 0 0 [true, false] = some (xs0, hs0, facts0, 3, 1) := by kernel_rfl
theorem run0 {C : Ctx} (hC : C.n0 = 0) : From Try.prog ⟨(TI.of Try.prog), (fnOf Try.prog), ⟨[], ctOf [ct_awake]⟩, 400, Try.f6, none⟩ C st0 facts0 (flat (bodyOf Try.f6)) none [] :=
  (From.run mixed (tysOf _) fnOk l0_ct (hC_l0_1 hC) good_l0_1 lem_l0_1_ok)
theorem l1_ct : ∀ ρ, CallOk Try.prog ρ (ctOf [ct_awake]) := ctOf_ok (by
  simp only [List.forall_mem_cons]
  exact ⟨⟨fit_awake, ok_awake⟩, fun _ h => absurd h List.not_mem_nil⟩)
theorem hsym1 : symArgsT Try.prog Try.f6.params.toList 0 0 [false, false] = some (xs1, hs1, facts1, 3, 1) := by kernel_rfl
theorem run1 {C : Ctx} (hC : C.n0 = 0) : From Try.prog ⟨(TI.of Try.prog), (fnOf Try.prog), ⟨[], ctOf [ct_awake]⟩, 400, Try.f6, none⟩ C st1 facts1 (flat (bodyOf Try.f6)) none [] :=
  (From.cut (i := 8) hl0 (From.run mixed (tysOf _) fnOk l1_ct (hC_l1_2 hC) good_l1_2 lem_l1_2_ok) (From.loop (c := 110) (B := 41) (cs := []) (g := ⟨T000, F000, [(110, some 41)], fam⟩) (g0 := ⟨T000, F000, [], fam⟩) rfl rfl (AllF.cons (From.run mixed (tysOf _) fnOk l1_ct (hC_l1_3 hC) good_l1_3 lem_l1_3_ok) (AllF.cons (From.run mixed (tysOf _) fnOk l1_ct (hC_l1_4 hC) good_l1_4 lem_l1_4_ok) (AllF.cons (From.run mixed (tysOf _) fnOk l1_ct (hC_l1_5 hC) good_l1_5 lem_l1_5_ok) (AllF.cons (From.run mixed (tysOf _) fnOk l1_ct (hC_l1_6 hC) good_l1_6 lem_l1_6_ok) (AllF.cons (From.run mixed (tysOf _) fnOk l1_ct (hC_l1_7 hC) good_l1_7 lem_l1_7_ok) (AllF.cons (From.run mixed (tysOf _) fnOk l1_ct (hC_l1_8 hC) good_l1_8 lem_l1_8_ok) (AllF.cons (From.run mixed (tysOf _) fnOk l1_ct (hC_l1_9 hC) good_l1_9 lem_l1_9_ok) (AllF.cons (From.run mixed (tysOf _) fnOk l1_ct (hC_l1_10 hC) good_l1_10 lem_l1_10_ok) (AllF.cons (From.run mixed (tysOf _) fnOk l1_ct (hC_l1_11 hC) good_l1_11 lem_l1_11_ok) (AllF.cons (From.run mixed (tysOf _) fnOk l1_ct (hC_l1_12 hC) good_l1_12 lem_l1_12_ok) (AllF.cons (From.run mixed (tysOf _) fnOk l1_ct (hC_l1_13 hC) good_l1_13 lem_l1_13_ok) (AllF.cons (From.run mixed (tysOf _) fnOk l1_ct (hC_l1_14 hC) good_l1_14 lem_l1_14_ok) (AllF.cons (From.run mixed (tysOf _) fnOk l1_ct (hC_l1_15 hC) good_l1_15 lem_l1_15_ok) (AllF.cons (From.run mixed (tysOf _) fnOk l1_ct (hC_l1_16 hC) good_l1_16 lem_l1_16_ok) (AllF.cons (From.run mixed (tysOf _) fnOk l1_ct (hC_l1_17 hC) good_l1_17 lem_l1_17_ok) (AllF.cons (From.run mixed (tysOf _) fnOk l1_ct (hC_l1_18 hC) good_l1_18 lem_l1_18_ok) (AllF.cons (From.run mixed (tysOf _) fnOk l1_ct (hC_l1_19 hC) good_l1_19 lem_l1_19_ok) (AllF.cons (From.run mixed (tysOf _) fnOk l1_ct (hC_l1_20 hC) good_l1_20 lem_l1_20_ok) (AllF.cons (From.run mixed (tysOf _) fnOk l1_ct (hC_l1_21 hC) good_l1_21 lem_l1_21_ok) (AllF.cons (From.run mixed (tysOf _) fnOk l1_ct (hC_l1_22 hC) good_l1_22 lem_l1_22_ok) (AllF.cons (From.run mixed (tysOf _) fnOk l1_ct (hC_l1_23 hC) good_l1_23 lem_l1_23_ok) (AllF.cons (From.run mixed (tysOf _) fnOk l1_ct (hC_l1_24 hC) good_l1_24 lem_l1_24_ok) (AllF.cons (From.run mixed (tysOf _) fnOk l1_ct (hC_l1_25 hC) good_l1_25 lem_l1_25_ok) (AllF.cons (From.run mixed (tysOf _) fnOk l1_ct (hC_l1_26 hC) good_l1_26 lem_l1_26_ok) (AllF.cons (From.run mixed (tysOf _) fnOk l1_ct (hC_l1_27 hC) good_l1_27 lem_l1_27_ok) (AllF.cons (From.run mixed (tysOf _) fnOk l1_ct (hC_l1_28 hC) good_l1_28 lem_l1_28_ok) (AllF.cons (From.run mixed (tysOf _) fnOk l1_ct (hC_l1_29 hC) good_l1_29 lem_l1_29_ok) (AllF.cons (From.run mixed (tysOf _) fnOk l1_ct (hC_l1_30 hC) good_l1_30 lem_l1_30_ok) (AllF.cons (From.run mixed (tysOf _) fnOk l1_ct (hC_l1_31 hC) good_l1_31 lem_l1_31_ok) (AllF.cons (From.run mixed (tysOf _) fnOk l1_ct (hC_l1_32 hC) good_l1_32 lem_l1_32_ok) (AllF.cons (From.run mixed (tysOf _) fnOk l1_ct (hC_l1_33 hC) good_l1_33 lem_l1_33_ok) (AllF.cons (From.run mixed (tysOf _) fnOk l1_ct (hC_l1_34 hC) good_l1_34 lem_l1_34_ok) (AllF.cons (From.run mixed (tysOf _) fnOk l1_ct (hC_l1_35 hC) good_l1_35 lem_l1_35_ok) (AllF.cons (From.run mixed (tysOf _) fnOk l1_ct (hC_l1_36 hC) good_l1_36 lem_l1_36_ok) (AllF.cons (From.run mixed (tysOf _) fnOk l1_ct (hC_l1_37 hC) good_l1_37 lem_l1_37_ok) (AllF.cons (From.run mixed (tysOf _) fnOk l1_ct (hC_l1_38 hC) good_l1_38 lem_l1_38_ok) (AllF.cons (From.run mixed (tysOf _) fnOk l1_ct (hC_l1_39 hC) good_l1_39 lem_l1_39_ok) (AllF.cons (From.run mixed (tysOf _) fnOk l1_ct (hC_l1_40 hC) good_l1_40 lem_l1_40_ok) (AllF.cons (From.run mixed (tysOf _) fnOk l1_ct (hC_l1_41 hC) good_l1_41 lem_l1_41_ok) (AllF.cons (From.run mixed (tysOf _) fnOk l1_ct (hC_l1_42 hC) good_l1_42 lem_l1_42_ok) (AllF.cons (From.run mixed (tysOf _) fnOk l1_ct (hC_l1_43 hC) good_l1_43 lem_l1_43_ok) (AllF.cons (From.run mixed (tysOf _) fnOk l1_ct (hC_l1_44 hC) good_l1_44 lem_l1_44_ok) (AllF.cons (From.run mixed (tysOf _) fnOk l1_ct (hC_l1_45 hC) good_l1_45 lem_l1_45_ok) (AllF.cons (From.run mixed (tysOf _) fnOk l1_ct (hC_l1_46 hC) good_l1_46 lem_l1_46_ok) (AllF.cons (From.run mixed (tysOf _) fnOk l1_ct (hC_l1_47 hC) good_l1_47 lem_l1_47_ok) (AllF.cons (From.run mixed (tysOf _) fnOk l1_ct (hC_l1_48 hC) good_l1_48 lem_l1_48_ok) (AllF.cons (From.run mixed (tysOf _) fnOk l1_ct (hC_l1_49 hC) good_l1_49 lem_l1_49_ok) (AllF.cons (From.run mixed (tysOf _) fnOk l1_ct (hC_l1_50 hC) good_l1_50 lem_l1_50_ok) (AllF.cons (From.run mixed (tysOf _) fnOk l1_ct (hC_l1_51 hC) good_l1_51 lem_l1_51_ok) (AllF.cons (From.run mixed (tysOf _) fnOk l1_ct (hC_l1_52 hC) good_l1_52 lem_l1_52_ok) (AllF.cons (From.run mixed (tysOf _) fnOk l1_ct (hC_l1_53 hC) good_l1_53 lem_l1_53_ok) (AllF.cons (From.run mixed (tysOf _) fnOk l1_ct (hC_l1_54 hC) good_l1_54 lem_l1_54_ok) (AllF.cons (From.run mixed (tysOf _) fnOk l1_ct (hC_l1_55 hC) good_l1_55 lem_l1_55_ok) (AllF.cons (From.run mixed (tysOf _) fnOk l1_ct (hC_l1_56 hC) good_l1_56 lem_l1_56_ok) (AllF.cons (From.run mixed (tysOf _) fnOk l1_ct (hC_l1_57 hC) good_l1_57 lem_l1_57_ok) (AllF.cons (From.run mixed (tysOf _) fnOk l1_ct (hC_l1_58 hC) good_l1_58 lem_l1_58_ok) (AllF.cons (From.run mixed (tysOf _) fnOk l1_ct (hC_l1_59 hC) good_l1_59 lem_l1_59_ok) (AllF.cons (From.run mixed (tysOf _) fnOk l1_ct (hC_l1_60 hC) good_l1_60 lem_l1_60_ok) (AllF.cons (From.run mixed (tysOf _) fnOk l1_ct (hC_l1_61 hC) good_l1_61 lem_l1_61_ok) (AllF.cons (From.run mixed (tysOf _) fnOk l1_ct (hC_l1_62 hC) good_l1_62 lem_l1_62_ok) (AllF.cons (From.run mixed (tysOf _) fnOk l1_ct (hC_l1_63 hC) good_l1_63 lem_l1_63_ok) (AllF.cons (From.run mixed (tysOf _) fnOk l1_ct (hC_l1_64 hC) good_l1_64 lem_l1_64_ok) (AllF.cons (From.run mixed (tysOf _) fnOk l1_ct (hC_l1_65 hC) good_l1_65 lem_l1_65_ok) (AllF.cons (From.run mixed (tysOf _) fnOk l1_ct (hC_l1_66 hC) good_l1_66 lem_l1_66_ok) (AllF.cons (From.run mixed (tysOf _) fnOk l1_ct (hC_l1_67 hC) good_l1_67 lem_l1_67_ok) (AllF.cons (From.run mixed (tysOf _) fnOk l1_ct (hC_l1_68 hC) good_l1_68 lem_l1_68_ok) (AllF.cons (From.run mixed (tysOf _) fnOk l1_ct (hC_l1_69 hC) good_l1_69 lem_l1_69_ok) (AllF.cons (From.run mixed (tysOf _) fnOk l1_ct (hC_l1_70 hC) good_l1_70 lem_l1_70_ok) (AllF.cons (From.run mixed (tysOf _) fnOk l1_ct (hC_l1_71 hC) good_l1_71 lem_l1_71_ok) (AllF.cons (From.run mixed (tysOf _) fnOk l1_ct (hC_l1_72 hC) good_l1_72 lem_l1_72_ok) (AllF.cons (From.run mixed (tysOf _) fnOk l1_ct (hC_l1_73 hC) good_l1_73 lem_l1_73_ok) (AllF.cons (From.run mixed (tysOf _) fnOk l1_ct (hC_l1_74 hC) good_l1_74 lem_l1_74_ok) (AllF.cons (From.run mixed (tysOf _) fnOk l1_ct (hC_l1_75 hC) good_l1_75 lem_l1_75_ok) (AllF.cons (From.run mixed (tysOf _) fnOk l1_ct (hC_l1_76 hC) good_l1_76 lem_l1_76_ok) (AllF.one (From.run mixed (tysOf _) fnOk l1_ct (hC_l1_77 hC) good_l1_77 lem_l1_77_ok)))))))))))))))))))))))))))))))))))))))))))))))))))))))))))))))))))))))))))) (by simp) (by simp [tgtOf])) (AllF.one (From.run mixed (tysOf _) fnOk l1_ct (hC_l1_78 hC) good_l1_78 lem_l1_78_ok)) (c := []) rfl rfl (by simp) (by simp [tgtOf]))

theorem post_end {C : Ctx} {ρ : Env} {e : Exit} {a : Act} {w : World} (h : Post Try.prog ⟨(TI.of Try.prog), (fnOf Try.prog), ⟨[], ctOf [ct_awake]⟩, 400, Try.f6, none⟩ C ρ none [] e a w) : EndAt Try.prog Try.f6 C none e a w := by
  cases e with
  | normal => exact h
  | ret => exact h
  | exit b => exact h.elim
  | panic ch => exact h.elim
  | outgrown => exact h.elim
  | goto l => exact h.elim
theorem walk : ∀ fl ∈ flagsAll Try.prog Try.f6.params.toList, ∃ xs hs k m q, symArgsT Try.prog Try.f6.params.toList 0 0 fl = some (xs, hs, k, m, q) ∧ ∀ ρ : Env, (∀ g ∈ k, Fact.holds ρ g) →
    ∀ (β : Lab) (W : World) (a : Act), TS (Ctx.law W β ρ) ρ β Try.f6.ntmps ⟨argSlots xs 0 .nil, putSets .leaf hs, q, []⟩ a W → WPs Try.prog (Sx.flat (bodyOf Try.f6)) (EndAt Try.prog Try.f6 (Ctx.law W β ρ) none) a W := by
  intro fl hfl
  rw [hfls] at hfl
  simp only [List.mem_cons, List.not_mem_nil, or_false] at hfl
  rcases hfl with rfl | rfl
  · exact ⟨xs0, hs0, facts0, 3, 1, hsym0, fun ρ hk β W a hs => (run0 (C := Ctx.law W β ρ) rfl ρ β a W hk hs).mono fun e a w he => post_end he⟩
  · exact ⟨xs1, hs1, facts1, 3, 1, hsym1, fun ρ hk β W a hs => (run1 (C := Ctx.law W β ρ) rfl ρ β a W hk hs).mono fun e a w he => post_end he⟩
theorem lifted (os : Os) (started : os.Started) (H : Type) (enc : TypeId × Value → H) :
    ReturnsInHanded {} Try.checked os 6 .any (Rows.busFullSpec.pre6 enc Try.prog Try.f6 Rows.busFullRow.domain false) (Rows.busFullSpec.post enc Try.prog Try.f6 false true false false) := by
  refine returnsInHanded_of_change_sized (C := Try.checked) own started (by kernel_rfl) Try.func6
    (ChangeSpec.witness6 (enc := enc) (C := Try.checked) false ⟨#[], zeros Try.prog Try.f6.params.toList, []⟩ 16 (by kernel_rfl) (by kernel_rfl) (by kernel_rfl) (by kernel_rfl)) ?_
  intro W base args ds gs before hval0 hW hcnd hwt0 _
  have hval : ∀ (j : Nat) t v, Try.f6.params[j]? = some t → args[j]? = some v → Value.okWide Try.prog W .any base t v := hval0
  have hW' := hW
  have hlt := hW.lt
  obtain ⟨p, q, hA0, hV, rfl, hfz, hnd⟩ := hW
  have hA : DataW.TrodAll enc Try.prog W 0 (fun _ => true) true Try.f6.params.toList args.toList ds p := hA0
  obtain ⟨rfl, rfl⟩ := trodVars_none hV
  have hwt1 : (DataW.weightsEach Try.prog (Try.f6.params.toList ++ Rows.busFullSpec.plain.varTypes Try.prog) (ds ++ [])).all (· ≤ reachBytes) = true := hwt0
  have hvt : Rows.busFullSpec.plain.varTypes Try.prog = [] := by kernel_rfl
  rw [hvt, List.append_nil, List.append_nil] at hwt1
  have hwt : ∀ x ∈ DataW.weightsEach Try.prog Try.f6.params.toList ds, x ≤ reachBytes := fun x hx => by simpa using List.all_eq_true.1 hwt1 x hx
  have hlen := trodAll_length hA
  have hsz : args.size = Try.f6.params.toList.length := by simpa using hlen.1
  have hd : ds.length = 2 := hlen.2.trans (by kernel_rfl)
  refine (law_TST hfunc hbody walk hsz (fun j t v ht hv => hval j t v (by simpa using ht) hv) hA hwt).mono fun e W' ⟨he, hk⟩ => ?_
  obtain ⟨d0, d1, rfl⟩ : ∃ d0 d1, ds = [d0, d1] := by
    match ds, hd with
    | [d0, d1], _ => exact ⟨d0, d1, rfl⟩
  subst he
  have hb : Value.okWide Try.prog W' .any 0 4 (.bool true) := okWide_bool_mk bool_ _
  refine ⟨_, rfl, post_of_same (pa := p) (pv := []) hW' (fun _ _ _ => ?_) (fun sp hsp => args_again kids full (of_decide_eq_true (by kernel_rfl)) hA hk.old (fun x hx => hlt x (by simpa using hx)) sp (fun x hx => hsp x (by simpa using hx))) (fun _ _ => rfl) rfl
    (hk.grown.frame _) hk.grown.2.1 (ok_one rets rfl hb)⟩
  rw [rets]
  exact trodAll_cons_mk (shut_bool bool_ _) trodAll_mk0

theorem over : Rows.busFullRow.holds Try.pinned (OpenSpec.ofChange Rows.busFullSpec) :=
  OpenClaim.holds_of_wide 6 Try.f6 rfl rfl rfl rfl rfl rfl rfl ⟨rfl, rfl, rfl, rfl, rfl⟩ rfl rfl rfl rfl rfl (by kernel_rfl) Try.func6 (by kernel_rfl)
    (of_decide_eq_true (by kernel_rfl)) (by unfold Func.isWrapper; first | (rw [if_pos (by decide +kernel)]; kernel_rfl) | (rw [if_neg (by decide +kernel)]; exact ⟨rfl, rfl⟩))
    (fun os started H enc _ => lifted os started H enc)

/-- THE STATEMENT -/
theorem proved : Rows.BusFullSaid :=
  over
#print axioms proved
end Go.Proofs.Ytiocpbfbhbgfaaa.busFull
