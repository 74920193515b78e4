/-
  'BufferPlays' ('tappet/tappetlaw19.BufferPlays'): the executor's runs (Sx) of the parts, checked by the kernel, put together by the rules of loops and by contracts of what is called, are the walk. Printed by program.
-/
import Derived.Test.YtdicippbniglpaaBufferPlaysR0
import Derived.Test.YtdicippbniglpaaBufferPlaysR1
import Derived.Test.YtdicippbniglpaaBufferPlaysR2
import Derived.Test.YtdicippbniglpaaBufferPlaysR3
import Derived.Test.YtdicippbniglpaaBufferPlaysR4
import Derived.Test.YtdicippbniglpaaBufferPlaysR5
import Derived.Test.YtdicippbniglpaaBufferPlaysR6
import Derived.Test.YtdicippbniglpaaBufferPlaysR7
import Derived.Test.YtdicippbniglpaaBufferPlaysR8
import Derived.Test.YtdicippbniglpaaBufferPlaysR9
import Derived.Test.YtdicippbniglpaaBufferPlaysR10
import Derived.Test.YtdicippbniglpaaBufferPlaysR11
import Derived.Test.YtdicippbniglpaaBufferPlaysR12
import Derived.Test.YtdicippbniglpaaBufferPlaysR13
import Derived.Test.YtdicippbniglpaaBufferPlaysR14
import Derived.Test.YtdicippbniglpaaBufferPlaysR15
import Derived.Test.YtdicippbniglpaaBufferPlaysR16
import Derived.Test.YtdicippbniglpaaBufferPlaysR17
import Derived.Test.YtdicippbniglpaaBufferPlaysR18
import Derived.Test.YtdicippbniglpaaBufferPlaysR19
import Derived.Test.YtdicippbniglpaaBufferPlaysR20
import Derived.Test.YtdicippbniglpaaBufferPlaysR21
import Derived.Test.YtdicippbniglpaaBufferPlaysR22
import Derived.Test.YtdicippbniglpaaBufferPlaysR23
import Derived.Test.YtdicippbniglpaaBufferPlaysR24
import Derived.Test.YtdicippbniglpaaBufferPlaysR25
import Derived.Test.YtdicippbniglpaaBufferPlaysR26
import Derived.Test.YtdicippbniglpaaBufferPlaysR27
import Derived.Test.YtdicippbniglpaaBufferPlaysR28
import Derived.Test.YtdicippbniglpaaBufferPlaysR29
import Derived.Test.YtdicippbniglpaaBufferPlaysR30
import Derived.Test.YtdicippbniglpaaBufferPlaysR31
import Derived.Test.YtdicippbniglpaaBufferPlaysR32
import Derived.Test.YtdicippbniglpaaBufferPlaysR33
import Derived.Test.YtdicippbniglpaaBufferPlaysR34
import Derived.Test.YtdicippbniglpaaBufferPlaysR35
import Derived.Test.YtdicippbniglpaaBufferPlaysR36
import Derived.Test.YtdicippbniglpaaBufferPlaysR37
import Derived.Test.YtdicippbniglpaaBufferPlaysR38
import Derived.Test.YtdicippbniglpaaBufferPlaysR39
import Derived.Test.YtdicippbniglpaaBufferPlaysR40
import Derived.Test.YtdicippbniglpaaBufferPlaysR41
import Derived.Test.YtdicippbniglpaaBufferPlaysR42
namespace Go.Proofs.Ytdicippbniglpaa.bufferPlays
open Go.ChangeShapes Go.WideShapes Go.ChangeAt Go.RowKit Go.Sx
set_option linter.unusedVariables false
set_option linter.unusedSimpArgs false
theorem hbody : Try.f5.body = some (bodyOf Try.f5) := by kernel_rfl
theorem hfunc : Try.prog.funcs[5]? = some Try.f5 := by kernel_rfl
theorem hfls : flagsAll Try.prog Try.f5.params.toList = [[false, true], [false, false]] := by kernel_rfl
set_option maxRecDepth 100000
theorem own : ownKnob Try.prog.godebug = none := by kernel_rfl
theorem kids : Kids Try.prog (· < Try.prog.types.size) := kids_rows (by kernel_rfl) (by kernel_rfl)
theorem full : ∀ t e, t < Try.prog.types.size → Try.prog.underlying t = some (.slice e) → 0 < Try.prog.cellsOf e := slices_full_of Try.prog (by kernel_rfl)
theorem fnOk : FnOk Try.prog (fnOf Try.prog) := fnOf_ok (by kernel_rfl)
theorem mixed : Try.prog.follows .mixedOrders = true := by kernel_rfl
theorem rets : Try.f5.resultTypes = #[4] := by kernel_rfl
theorem bool_ : Try.prog.underlying 4 = some .bool := by kernel_rfl
theorem good_c_told1_151paths : DT.paths (.node (tq 10) .leaf .leaf) = [[((tq 10), true)], [((tq 10), false)]] := by kernel_rfl
theorem good_c_told1_151 : GoodT rn_told1 (fb23.take 17) (ct_told1.facts ++ nl) ct_told1.s0 (some ⟨tM1, tF1, [], []⟩) [] (.node (tq 10) .leaf .leaf) := by
  unfold GoodT
  rw [good_c_told1_151paths]
  simp only [List.forall_mem_cons]
  exact ⟨good_c_told1_151_0, good_c_told1_151_1, fun _ h => absurd h List.not_mem_nil⟩
theorem good_c_told2_154paths : DT.paths (.node (tq 11) .leaf (.node (tq 10) .leaf .leaf)) = [[((tq 11), true)], [((tq 11), false), ((tq 10), true)], [((tq 11), false), ((tq 10), false)]] := by kernel_rfl
theorem good_c_told2_154 : GoodT rn_told2 (fb23.take 17) (ct_told2.facts ++ nl) ct_told2.s0 (some ⟨tM2, tF2, [], []⟩) [] (.node (tq 11) .leaf (.node (tq 10) .leaf .leaf)) := by
  unfold GoodT
  rw [good_c_told2_154paths]
  simp only [List.forall_mem_cons]
  exact ⟨good_c_told2_154_0, good_c_told2_154_1, good_c_told2_154_2, fun _ h => absurd h List.not_mem_nil⟩
theorem good_c_told3_157paths : DT.paths (.node (tq 12) .leaf (.node (tq 11) .leaf (.node (tq 10) .leaf .leaf))) = [[((tq 12), true)], [((tq 12), false), ((tq 11), true)], [((tq 12), false), ((tq 11), false), ((tq 10), true)], [((tq 12), false), ((tq 11), false), ((tq 10), false)]] := by kernel_rfl
theorem good_c_told3_157 : GoodT rn_told3 (fb23.take 17) (ct_told3.facts ++ nl) ct_told3.s0 (some ⟨tM3, tF3, [], []⟩) [] (.node (tq 12) .leaf (.node (tq 11) .leaf (.node (tq 10) .leaf .leaf))) := by
  unfold GoodT
  rw [good_c_told3_157paths]
  simp only [List.forall_mem_cons]
  exact ⟨good_c_told3_157_0, good_c_told3_157_1, good_c_told3_157_2, good_c_told3_157_3, fun _ h => absurd h List.not_mem_nil⟩
theorem good_c_told4_160paths : DT.paths (.node (tq 13) .leaf (.node (tq 12) .leaf (.node (tq 11) .leaf (.node (tq 10) .leaf .leaf)))) = [[((tq 13), true)], [((tq 13), false), ((tq 12), true)], [((tq 13), false), ((tq 12), false), ((tq 11), true)], [((tq 13), false), ((tq 12), false), ((tq 11), false), ((tq 10), true)], [((tq 13), false), ((tq 12), false), ((tq 11), false), ((tq 10), false)]] := by kernel_rfl
theorem good_c_told4_160 : GoodT rn_told4 (fb23.take 17) (ct_told4.facts ++ nl) ct_told4.s0 (some ⟨tM4, tF4, [], []⟩) [] (.node (tq 13) .leaf (.node (tq 12) .leaf (.node (tq 11) .leaf (.node (tq 10) .leaf .leaf)))) := by
  unfold GoodT
  rw [good_c_told4_160paths]
  simp only [List.forall_mem_cons]
  exact ⟨good_c_told4_160_0, good_c_told4_160_1, good_c_told4_160_2, good_c_told4_160_3, good_c_told4_160_4, fun _ h => absurd h List.not_mem_nil⟩
theorem good_c_told5_163paths : DT.paths (.node (tq 14) .leaf (.node (tq 13) .leaf (.node (tq 12) .leaf (.node (tq 11) .leaf (.node (tq 10) .leaf .leaf))))) = [[((tq 14), true)], [((tq 14), false), ((tq 13), true)], [((tq 14), false), ((tq 13), false), ((tq 12), true)], [((tq 14), false), ((tq 13), false), ((tq 12), false), ((tq 11), true)], [((tq 14), false), ((tq 13), false), ((tq 12), false), ((tq 11), false), ((tq 10), true)], [((tq 14), false), ((tq 13), false), ((tq 12), false), ((tq 11), false), ((tq 10), false)]] := by kernel_rfl
theorem good_c_told5_163 : GoodT rn_told5 (fb23.take 17) (ct_told5.facts ++ nl) ct_told5.s0 (some ⟨tM5, tF5, [], []⟩) [] (.node (tq 14) .leaf (.node (tq 13) .leaf (.node (tq 12) .leaf (.node (tq 11) .leaf (.node (tq 10) .leaf .leaf))))) := by
  unfold GoodT
  rw [good_c_told5_163paths]
  simp only [List.forall_mem_cons]
  exact ⟨good_c_told5_163_0, good_c_told5_163_1, good_c_told5_163_2, good_c_told5_163_3, good_c_told5_163_4, good_c_told5_163_5, fun _ h => absurd h List.not_mem_nil⟩
theorem good_c_told6_166paths : DT.paths (.node (tq 15) .leaf (.node (tq 14) .leaf (.node (tq 13) .leaf (.node (tq 12) .leaf (.node (tq 11) .leaf (.node (tq 10) .leaf .leaf)))))) = [[((tq 15), true)], [((tq 15), false), ((tq 14), true)], [((tq 15), false), ((tq 14), false), ((tq 13), true)], [((tq 15), false), ((tq 14), false), ((tq 13), false), ((tq 12), true)], [((tq 15), false), ((tq 14), false), ((tq 13), false), ((tq 12), false), ((tq 11), true)], [((tq 15), false), ((tq 14), false), ((tq 13), false), ((tq 12), false), ((tq 11), false), ((tq 10), true)], [((tq 15), false), ((tq 14), false), ((tq 13), false), ((tq 12), false), ((tq 11), false), ((tq 10), false)]] := by kernel_rfl
theorem good_c_told6_166 : GoodT rn_told6 (fb23.take 17) (ct_told6.facts ++ nl) ct_told6.s0 (some ⟨tM6, tF6, [], []⟩) [] (.node (tq 15) .leaf (.node (tq 14) .leaf (.node (tq 13) .leaf (.node (tq 12) .leaf (.node (tq 11) .leaf (.node (tq 10) .leaf .leaf)))))) := by
  unfold GoodT
  rw [good_c_told6_166paths]
  simp only [List.forall_mem_cons]
  exact ⟨good_c_told6_166_0, good_c_told6_166_1, good_c_told6_166_2, good_c_told6_166_3, good_c_told6_166_4, good_c_told6_166_5, good_c_told6_166_6, fun _ h => absurd h List.not_mem_nil⟩
theorem good_c_told7_169paths : DT.paths (.node (tq 16) .leaf (.node (tq 15) .leaf (.node (tq 14) .leaf (.node (tq 13) .leaf (.node (tq 12) .leaf (.node (tq 11) .leaf (.node (tq 10) .leaf .leaf))))))) = [[((tq 16), true)], [((tq 16), false), ((tq 15), true)], [((tq 16), false), ((tq 15), false), ((tq 14), true)], [((tq 16), false), ((tq 15), false), ((tq 14), false), ((tq 13), true)], [((tq 16), false), ((tq 15), false), ((tq 14), false), ((tq 13), false), ((tq 12), true)], [((tq 16), false), ((tq 15), false), ((tq 14), false), ((tq 13), false), ((tq 12), false), ((tq 11), true)], [((tq 16), false), ((tq 15), false), ((tq 14), false), ((tq 13), false), ((tq 12), false), ((tq 11), false), ((tq 10), true)], [((tq 16), false), ((tq 15), false), ((tq 14), false), ((tq 13), false), ((tq 12), false), ((tq 11), false), ((tq 10), false)]] := by kernel_rfl
theorem good_c_told7_169 : GoodT rn_told7 (fb23.take 17) (ct_told7.facts ++ nl) ct_told7.s0 (some ⟨tM7, tF7, [], []⟩) [] (.node (tq 16) .leaf (.node (tq 15) .leaf (.node (tq 14) .leaf (.node (tq 13) .leaf (.node (tq 12) .leaf (.node (tq 11) .leaf (.node (tq 10) .leaf .leaf))))))) := by
  unfold GoodT
  rw [good_c_told7_169paths]
  simp only [List.forall_mem_cons]
  exact ⟨good_c_told7_169_0, good_c_told7_169_1, good_c_told7_169_2, good_c_told7_169_3, good_c_told7_169_4, good_c_told7_169_5, good_c_told7_169_6, good_c_told7_169_7, fun _ h => absurd h List.not_mem_nil⟩
theorem good_c_told8_172paths : DT.paths (.node (tq 17) .leaf (.node (tq 16) .leaf (.node (tq 15) .leaf (.node (tq 14) .leaf (.node (tq 13) .leaf (.node (tq 12) .leaf (.node (tq 11) .leaf (.node (tq 10) .leaf .leaf)))))))) = [[((tq 17), true)], [((tq 17), false), ((tq 16), true)], [((tq 17), false), ((tq 16), false), ((tq 15), true)], [((tq 17), false), ((tq 16), false), ((tq 15), false), ((tq 14), true)], [((tq 17), false), ((tq 16), false), ((tq 15), false), ((tq 14), false), ((tq 13), true)], [((tq 17), false), ((tq 16), false), ((tq 15), false), ((tq 14), false), ((tq 13), false), ((tq 12), true)], [((tq 17), false), ((tq 16), false), ((tq 15), false), ((tq 14), false), ((tq 13), false), ((tq 12), false), ((tq 11), true)], [((tq 17), false), ((tq 16), false), ((tq 15), false), ((tq 14), false), ((tq 13), false), ((tq 12), false), ((tq 11), false), ((tq 10), true)], [((tq 17), false), ((tq 16), false), ((tq 15), false), ((tq 14), false), ((tq 13), false), ((tq 12), false), ((tq 11), false), ((tq 10), false)]] := by kernel_rfl
theorem good_c_told8_172 : GoodT rn_told8 (fb23.take 17) (ct_told8.facts ++ nl) ct_told8.s0 (some ⟨tM8, tF8, [], []⟩) [] (.node (tq 17) .leaf (.node (tq 16) .leaf (.node (tq 15) .leaf (.node (tq 14) .leaf (.node (tq 13) .leaf (.node (tq 12) .leaf (.node (tq 11) .leaf (.node (tq 10) .leaf .leaf)))))))) := by
  unfold GoodT
  rw [good_c_told8_172paths]
  simp only [List.forall_mem_cons]
  exact ⟨good_c_told8_172_0, good_c_told8_172_1, good_c_told8_172_2, good_c_told8_172_3, good_c_told8_172_4, good_c_told8_172_5, good_c_told8_172_6, good_c_told8_172_7, good_c_told8_172_8, fun _ h => absurd h List.not_mem_nil⟩
theorem good_l1_177paths : DT.paths (.node (.get (.tv 0) (.var 101) 0) .leaf (.node (.get (.tv 0) (.var 101) 3) .leaf (.node (.bin .eq (.var 0) (.lit (.ofNat 0))) .leaf .leaf))) = [[((.get (.tv 0) (.var 101) 0), true)], [((.get (.tv 0) (.var 101) 0), false), ((.get (.tv 0) (.var 101) 3), true)], [((.get (.tv 0) (.var 101) 0), false), ((.get (.tv 0) (.var 101) 3), false), ((.bin .eq (.var 0) (.lit (.ofNat 0))), true)], [((.get (.tv 0) (.var 101) 0), false), ((.get (.tv 0) (.var 101) 3), false), ((.bin .eq (.var 0) (.lit (.ofNat 0))), false)]] := by kernel_rfl
theorem good_l1_177 : GoodT rnL (flat (loopBody fb5 8)) (F0 ++ nl) T0.toS (some ⟨T0, F0, [(101, some 201)], fam⟩) [(0, ⟨TE, FE, [], []⟩)] (.node (.get (.tv 0) (.var 101) 0) .leaf (.node (.get (.tv 0) (.var 101) 3) .leaf (.node (.bin .eq (.var 0) (.lit (.ofNat 0))) .leaf .leaf))) := by
  unfold GoodT
  rw [good_l1_177paths]
  simp only [List.forall_mem_cons]
  exact ⟨good_l1_177_0, good_l1_177_1, good_l1_177_2, good_l1_177_3, fun _ h => absurd h List.not_mem_nil⟩
theorem good_l1_178paths : DT.paths (.node (.get (.tv 0) (.var 101) 0) .leaf (.node (.get (.tv 0) (.var 101) 3) .leaf (.node (.bin .eq (.var 0) (.lit (.ofNat 1))) .leaf .leaf))) = [[((.get (.tv 0) (.var 101) 0), true)], [((.get (.tv 0) (.var 101) 0), false), ((.get (.tv 0) (.var 101) 3), true)], [((.get (.tv 0) (.var 101) 0), false), ((.get (.tv 0) (.var 101) 3), false), ((.bin .eq (.var 0) (.lit (.ofNat 1))), true)], [((.get (.tv 0) (.var 101) 0), false), ((.get (.tv 0) (.var 101) 3), false), ((.bin .eq (.var 0) (.lit (.ofNat 1))), false)]] := by kernel_rfl
theorem good_l1_178 : GoodT rnL (flat (loopBody fb5 8)) (F1 ++ nl) T1.toS (some ⟨T0, F0, [(101, some 201)], fam⟩) [(0, ⟨TE, FE, [], []⟩)] (.node (.get (.tv 0) (.var 101) 0) .leaf (.node (.get (.tv 0) (.var 101) 3) .leaf (.node (.bin .eq (.var 0) (.lit (.ofNat 1))) .leaf .leaf))) := by
  unfold GoodT
  rw [good_l1_178paths]
  simp only [List.forall_mem_cons]
  exact ⟨good_l1_178_0, good_l1_178_1, good_l1_178_2, good_l1_178_3, fun _ h => absurd h List.not_mem_nil⟩
theorem good_l1_179paths : DT.paths (.node (.get (.tv 0) (.var 101) 0) .leaf (.node (.get (.tv 0) (.var 101) 3) .leaf (.node (.bin .eq (.var 0) (.lit (.ofNat 2))) .leaf .leaf))) = [[((.get (.tv 0) (.var 101) 0), true)], [((.get (.tv 0) (.var 101) 0), false), ((.get (.tv 0) (.var 101) 3), true)], [((.get (.tv 0) (.var 101) 0), false), ((.get (.tv 0) (.var 101) 3), false), ((.bin .eq (.var 0) (.lit (.ofNat 2))), true)], [((.get (.tv 0) (.var 101) 0), false), ((.get (.tv 0) (.var 101) 3), false), ((.bin .eq (.var 0) (.lit (.ofNat 2))), false)]] := by kernel_rfl
theorem good_l1_179 : GoodT rnL (flat (loopBody fb5 8)) (F2 ++ nl) T2.toS (some ⟨T0, F0, [(101, some 201)], fam⟩) [(0, ⟨TE, FE, [], []⟩)] (.node (.get (.tv 0) (.var 101) 0) .leaf (.node (.get (.tv 0) (.var 101) 3) .leaf (.node (.bin .eq (.var 0) (.lit (.ofNat 2))) .leaf .leaf))) := by
  unfold GoodT
  rw [good_l1_179paths]
  simp only [List.forall_mem_cons]
  exact ⟨good_l1_179_0, good_l1_179_1, good_l1_179_2, good_l1_179_3, fun _ h => absurd h List.not_mem_nil⟩
theorem good_l1_180paths : DT.paths (.node (.get (.tv 0) (.var 101) 0) .leaf (.node (.get (.tv 0) (.var 101) 3) .leaf (.node (.bin .eq (.var 0) (.lit (.ofNat 3))) .leaf .leaf))) = [[((.get (.tv 0) (.var 101) 0), true)], [((.get (.tv 0) (.var 101) 0), false), ((.get (.tv 0) (.var 101) 3), true)], [((.get (.tv 0) (.var 101) 0), false), ((.get (.tv 0) (.var 101) 3), false), ((.bin .eq (.var 0) (.lit (.ofNat 3))), true)], [((.get (.tv 0) (.var 101) 0), false), ((.get (.tv 0) (.var 101) 3), false), ((.bin .eq (.var 0) (.lit (.ofNat 3))), false)]] := by kernel_rfl
theorem good_l1_180 : GoodT rnL (flat (loopBody fb5 8)) (F3 ++ nl) T3.toS (some ⟨T0, F0, [(101, some 201)], fam⟩) [(0, ⟨TE, FE, [], []⟩)] (.node (.get (.tv 0) (.var 101) 0) .leaf (.node (.get (.tv 0) (.var 101) 3) .leaf (.node (.bin .eq (.var 0) (.lit (.ofNat 3))) .leaf .leaf))) := by
  unfold GoodT
  rw [good_l1_180paths]
  simp only [List.forall_mem_cons]
  exact ⟨good_l1_180_0, good_l1_180_1, good_l1_180_2, good_l1_180_3, fun _ h => absurd h List.not_mem_nil⟩
theorem good_l1_181paths : DT.paths (.node (.get (.tv 0) (.var 101) 0) .leaf (.node (.get (.tv 0) (.var 101) 3) .leaf (.node (.bin .eq (.var 0) (.lit (.ofNat 4))) .leaf .leaf))) = [[((.get (.tv 0) (.var 101) 0), true)], [((.get (.tv 0) (.var 101) 0), false), ((.get (.tv 0) (.var 101) 3), true)], [((.get (.tv 0) (.var 101) 0), false), ((.get (.tv 0) (.var 101) 3), false), ((.bin .eq (.var 0) (.lit (.ofNat 4))), true)], [((.get (.tv 0) (.var 101) 0), false), ((.get (.tv 0) (.var 101) 3), false), ((.bin .eq (.var 0) (.lit (.ofNat 4))), false)]] := by kernel_rfl
theorem good_l1_181 : GoodT rnL (flat (loopBody fb5 8)) (F4 ++ nl) T4.toS (some ⟨T0, F0, [(101, some 201)], fam⟩) [(0, ⟨TE, FE, [], []⟩)] (.node (.get (.tv 0) (.var 101) 0) .leaf (.node (.get (.tv 0) (.var 101) 3) .leaf (.node (.bin .eq (.var 0) (.lit (.ofNat 4))) .leaf .leaf))) := by
  unfold GoodT
  rw [good_l1_181paths]
  simp only [List.forall_mem_cons]
  exact ⟨good_l1_181_0, good_l1_181_1, good_l1_181_2, good_l1_181_3, fun _ h => absurd h List.not_mem_nil⟩
theorem good_l1_182paths : DT.paths (.node (.get (.tv 0) (.var 101) 0) .leaf (.node (.get (.tv 0) (.var 101) 3) .leaf (.node (.bin .eq (.var 0) (.lit (.ofNat 5))) .leaf .leaf))) = [[((.get (.tv 0) (.var 101) 0), true)], [((.get (.tv 0) (.var 101) 0), false), ((.get (.tv 0) (.var 101) 3), true)], [((.get (.tv 0) (.var 101) 0), false), ((.get (.tv 0) (.var 101) 3), false), ((.bin .eq (.var 0) (.lit (.ofNat 5))), true)], [((.get (.tv 0) (.var 101) 0), false), ((.get (.tv 0) (.var 101) 3), false), ((.bin .eq (.var 0) (.lit (.ofNat 5))), false)]] := by kernel_rfl
theorem good_l1_182 : GoodT rnL (flat (loopBody fb5 8)) (F5 ++ nl) T5.toS (some ⟨T0, F0, [(101, some 201)], fam⟩) [(0, ⟨TE, FE, [], []⟩)] (.node (.get (.tv 0) (.var 101) 0) .leaf (.node (.get (.tv 0) (.var 101) 3) .leaf (.node (.bin .eq (.var 0) (.lit (.ofNat 5))) .leaf .leaf))) := by
  unfold GoodT
  rw [good_l1_182paths]
  simp only [List.forall_mem_cons]
  exact ⟨good_l1_182_0, good_l1_182_1, good_l1_182_2, good_l1_182_3, fun _ h => absurd h List.not_mem_nil⟩
theorem good_l1_183paths : DT.paths (.node (.get (.tv 0) (.var 101) 0) .leaf (.node (.get (.tv 0) (.var 101) 3) .leaf (.node (.bin .eq (.var 0) (.lit (.ofNat 6))) .leaf .leaf))) = [[((.get (.tv 0) (.var 101) 0), true)], [((.get (.tv 0) (.var 101) 0), false), ((.get (.tv 0) (.var 101) 3), true)], [((.get (.tv 0) (.var 101) 0), false), ((.get (.tv 0) (.var 101) 3), false), ((.bin .eq (.var 0) (.lit (.ofNat 6))), true)], [((.get (.tv 0) (.var 101) 0), false), ((.get (.tv 0) (.var 101) 3), false), ((.bin .eq (.var 0) (.lit (.ofNat 6))), false)]] := by kernel_rfl
theorem good_l1_183 : GoodT rnL (flat (loopBody fb5 8)) (F6 ++ nl) T6.toS (some ⟨T0, F0, [(101, some 201)], fam⟩) [(0, ⟨TE, FE, [], []⟩)] (.node (.get (.tv 0) (.var 101) 0) .leaf (.node (.get (.tv 0) (.var 101) 3) .leaf (.node (.bin .eq (.var 0) (.lit (.ofNat 6))) .leaf .leaf))) := by
  unfold GoodT
  rw [good_l1_183paths]
  simp only [List.forall_mem_cons]
  exact ⟨good_l1_183_0, good_l1_183_1, good_l1_183_2, good_l1_183_3, fun _ h => absurd h List.not_mem_nil⟩
theorem good_l1_184paths : DT.paths (.node (.get (.tv 0) (.var 101) 0) .leaf (.node (.get (.tv 0) (.var 101) 3) .leaf (.node (.bin .eq (.var 0) (.lit (.ofNat 7))) .leaf .leaf))) = [[((.get (.tv 0) (.var 101) 0), true)], [((.get (.tv 0) (.var 101) 0), false), ((.get (.tv 0) (.var 101) 3), true)], [((.get (.tv 0) (.var 101) 0), false), ((.get (.tv 0) (.var 101) 3), false), ((.bin .eq (.var 0) (.lit (.ofNat 7))), true)], [((.get (.tv 0) (.var 101) 0), false), ((.get (.tv 0) (.var 101) 3), false), ((.bin .eq (.var 0) (.lit (.ofNat 7))), false)]] := by kernel_rfl
theorem good_l1_184 : GoodT rnL (flat (loopBody fb5 8)) (F7 ++ nl) T7.toS (some ⟨T0, F0, [(101, some 201)], fam⟩) [(0, ⟨TE, FE, [], []⟩)] (.node (.get (.tv 0) (.var 101) 0) .leaf (.node (.get (.tv 0) (.var 101) 3) .leaf (.node (.bin .eq (.var 0) (.lit (.ofNat 7))) .leaf .leaf))) := by
  unfold GoodT
  rw [good_l1_184paths]
  simp only [List.forall_mem_cons]
  exact ⟨good_l1_184_0, good_l1_184_1, good_l1_184_2, good_l1_184_3, fun _ h => absurd h List.not_mem_nil⟩
theorem good_l1_185paths : DT.paths (.node (.get (.tv 0) (.var 101) 0) .leaf (.node (.get (.tv 0) (.var 101) 3) .leaf (.node (.bin .eq (.var 0) (.lit (.ofNat 8))) .leaf .leaf))) = [[((.get (.tv 0) (.var 101) 0), true)], [((.get (.tv 0) (.var 101) 0), false), ((.get (.tv 0) (.var 101) 3), true)], [((.get (.tv 0) (.var 101) 0), false), ((.get (.tv 0) (.var 101) 3), false), ((.bin .eq (.var 0) (.lit (.ofNat 8))), true)], [((.get (.tv 0) (.var 101) 0), false), ((.get (.tv 0) (.var 101) 3), false), ((.bin .eq (.var 0) (.lit (.ofNat 8))), false)]] := by kernel_rfl
theorem good_l1_185 : GoodT rnL (flat (loopBody fb5 8)) (F8 ++ nl) T8.toS (some ⟨T0, F0, [(101, some 201)], fam⟩) [(0, ⟨TE, FE, [], []⟩)] (.node (.get (.tv 0) (.var 101) 0) .leaf (.node (.get (.tv 0) (.var 101) 3) .leaf (.node (.bin .eq (.var 0) (.lit (.ofNat 8))) .leaf .leaf))) := by
  unfold GoodT
  rw [good_l1_185paths]
  simp only [List.forall_mem_cons]
  exact ⟨good_l1_185_0, good_l1_185_1, good_l1_185_2, good_l1_185_3, fun _ h => absurd h List.not_mem_nil⟩
theorem hl0 : fb22[1]? = some (.block 0 (.loop (loopBody fb22 1))) := by kernel_rfl
theorem hl1 : fb22[1]? = some (.block 0 (.loop (loopBody fb22 1))) := by kernel_rfl
theorem hl2 : fb5[8]? = some (.block 0 (.loop (loopBody fb5 8))) := by kernel_rfl
theorem fit_lineG : ct_lineG.fit = true := by kernel_rfl
theorem c_lineG_ct : ∀ ρ, CallOk Try.prog ρ (ctOf []) := ctOf_ok (fun _ h => absurd h List.not_mem_nil)
theorem ok_lineG : ct_lineG.ok Try.prog :=
  Ctr.ok_of (x := rn_lineG) (body := bodyOf Try.f19) (by kernel_rfl) (by kernel_rfl) rfl (by kernel_rfl) (fun C hC => (From.run mixed (tysOf _) fnOk c_lineG_ct (labsOkB hC (by kernel_rfl)) (goodL good_c_lineG_0_0) nl_ok))
theorem fit_lineB : ct_lineB.fit = true := by kernel_rfl
theorem c_lineB_ct : ∀ ρ, CallOk Try.prog ρ (ctOf []) := ctOf_ok (fun _ h => absurd h List.not_mem_nil)
theorem ok_lineB : ct_lineB.ok Try.prog :=
  Ctr.ok_of (x := rn_lineB) (body := bodyOf Try.f19) (by kernel_rfl) (by kernel_rfl) rfl (by kernel_rfl) (fun C hC => (From.run mixed (tysOf _) fnOk c_lineB_ct (labsOkB hC (by kernel_rfl)) (goodL good_c_lineB_1_0) nl_ok))
theorem fit_own64 : ct_own64.fit = true := by kernel_rfl
theorem c_own64_ct : ∀ ρ, CallOk Try.prog ρ (ctOf []) := ctOf_ok (fun _ h => absurd h List.not_mem_nil)
theorem ok_own64 : ct_own64.ok Try.prog :=
  Ctr.ok_of (x := rn_own64) (body := bodyOf Try.f18) (by kernel_rfl) (by kernel_rfl) rfl (by kernel_rfl) (fun C hC => (From.run mixed (tysOf _) fnOk c_own64_ct (labsOkB hC (by kernel_rfl)) (goodL good_c_own64_2_0) nl_ok))
theorem fit_own63 : ct_own63.fit = true := by kernel_rfl
theorem c_own63_ct : ∀ ρ, CallOk Try.prog ρ (ctOf []) := ctOf_ok (fun _ h => absurd h List.not_mem_nil)
theorem ok_own63 : ct_own63.ok Try.prog :=
  Ctr.ok_of (x := rn_own63) (body := bodyOf Try.f18) (by kernel_rfl) (by kernel_rfl) rfl (by kernel_rfl) (fun C hC => (From.run mixed (tysOf _) fnOk c_own63_ct (labsOkB hC (by kernel_rfl)) (goodL good_c_own63_3_0) nl_ok))
theorem fit_kept64 : ct_kept64.fit = true := by kernel_rfl
theorem c_kept64_ct : ∀ ρ, CallOk Try.prog ρ (ctOf []) := ctOf_ok (fun _ h => absurd h List.not_mem_nil)
theorem ok_kept64 : ct_kept64.ok Try.prog :=
  Ctr.ok_of (x := rn_kept64) (body := bodyOf Try.f21) (by kernel_rfl) (by kernel_rfl) rfl (by kernel_rfl) (fun C hC => (From.run mixed (tysOf _) fnOk c_kept64_ct (labsOkB hC (by kernel_rfl)) (goodL good_c_kept64_4_0) nl_ok))
theorem fit_kept63 : ct_kept63.fit = true := by kernel_rfl
theorem c_kept63_ct : ∀ ρ, CallOk Try.prog ρ (ctOf []) := ctOf_ok (fun _ h => absurd h List.not_mem_nil)
theorem ok_kept63 : ct_kept63.ok Try.prog :=
  Ctr.ok_of (x := rn_kept63) (body := bodyOf Try.f21) (by kernel_rfl) (by kernel_rfl) rfl (by kernel_rfl) (fun C hC => (From.run mixed (tysOf _) fnOk c_kept63_ct (labsOkB hC (by kernel_rfl)) (goodL good_c_kept63_5_0) nl_ok))
theorem fit_awake : ct_awake.fit = true := by kernel_rfl
theorem c_awake_ct : ∀ ρ, CallOk Try.prog ρ (ctOf [ct_lineG]) := ctOf_ok (by
  simp only [List.forall_mem_cons]
  exact ⟨⟨fit_lineG, ok_lineG⟩, fun _ h => absurd h List.not_mem_nil⟩)
theorem ok_awake : ct_awake.ok Try.prog :=
  Ctr.ok_of (x := rn_awake) (body := bodyOf Try.f8) (by kernel_rfl) (by kernel_rfl) rfl (by kernel_rfl) (fun C hC => (From.run mixed (tysOf _) fnOk c_awake_ct (labsOkB hC (by kernel_rfl)) (goodL good_c_awake_6_0) nl_ok))
theorem fit_spoil : ct_spoil.fit = true := by kernel_rfl
theorem c_spoil_ct : ∀ ρ, CallOk Try.prog ρ (ctOf []) := ctOf_ok (fun _ h => absurd h List.not_mem_nil)
theorem ok_spoil : ct_spoil.ok Try.prog :=
  Ctr.ok_of (x := rn_spoil) (body := bodyOf Try.f22) (by kernel_rfl) (by kernel_rfl) rfl (by kernel_rfl) (fun C hC => (From.cut (i := 1) hl0 (From.run mixed (tysOf _) fnOk c_spoil_ct (labsOkB hC (by kernel_rfl)) (goodL good_c_spoil_7_0) nl_ok) (From.loop (c := 101) (B := 140737488355329) (cs := []) (g := ⟨sT, sF, [(101, some 140737488355329)], []⟩) (g0 := ⟨sT, sF, [], []⟩) rfl rfl (AllF.one (From.run mixed (tysOf _) fnOk c_spoil_ct (labsOkB hC (by kernel_rfl)) (goodL good_c_spoil_8_0) nl_ok)) (by simp) (by simp [tgtOf])) (AllF.one (From.run mixed (tysOf _) fnOk c_spoil_ct (labsOkB hC (by kernel_rfl)) (goodL good_c_spoil_9_0) nl_ok)) (c := []) rfl rfl (by simp) (by simp [tgtOf])))
theorem fit_spoilU : ct_spoilU.fit = true := by kernel_rfl
theorem c_spoilU_ct : ∀ ρ, CallOk Try.prog ρ (ctOf []) := ctOf_ok (fun _ h => absurd h List.not_mem_nil)
theorem ok_spoilU : ct_spoilU.ok Try.prog :=
  Ctr.ok_of (x := rn_spoilU) (body := bodyOf Try.f22) (by kernel_rfl) (by kernel_rfl) rfl (by kernel_rfl) (fun C hC => (From.cut (i := 1) hl1 (From.run mixed (tysOf _) fnOk c_spoilU_ct (labsOkB hC (by kernel_rfl)) (goodL good_c_spoilU_10_0) nl_ok) (From.loop (c := 101) (B := 140737488355329) (cs := []) (g := ⟨uT, uF, [(101, some 140737488355329)], []⟩) (g0 := ⟨uT, uF, [], []⟩) rfl rfl (AllF.one (From.run mixed (tysOf _) fnOk c_spoilU_ct (labsOkB hC (by kernel_rfl)) (goodL good_c_spoilU_11_0) nl_ok)) (by simp) (by simp [tgtOf])) (AllF.one (From.run mixed (tysOf _) fnOk c_spoilU_ct (labsOkB hC (by kernel_rfl)) (goodL good_c_spoilU_12_0) nl_ok)) (c := []) rfl rfl (by simp) (by simp [tgtOf])))
theorem fit_find0_0 : ct_find0_0.fit = true := by kernel_rfl
theorem c_find0_0_ct : ∀ ρ, CallOk Try.prog ρ (ctOf []) := ctOf_ok (fun _ h => absurd h List.not_mem_nil)
theorem nvr_find0_0 : fb24[3]? = some (.block 0 (.rangeFunc (.tmp 10) (rngPs fb24 3) (rngAs fb24 3) (rngBd fb24 3))) := by kernel_rfl
theorem ok_find0_0 : ct_find0_0.ok Try.prog :=
  Ctr.ok_never (x := rn_find0_0) (body := bodyOf Try.f24) (by kernel_rfl) (by kernel_rfl) (by kernel_rfl) fun ρ β w hk a ht => by
    show WPs none Try.prog fb24 _ a w
    rw [cut_at nvr_find0_0]
    have hC : (ct_find0_0.ctx ρ β w).n0 = ct_find0_0.nx := rfl
    exact range_wps (x := rn_find0_0) mixed (tysOf _) fnOk c_find0_0_ct (From.run mixed (tysOf _) fnOk c_find0_0_ct (labsOkB hC (by kernel_rfl)) (goodL good_c_find0_0_13_0) nl_ok) (goodRgL good_c_find0_0_14_0) nl_ok (labsOkB hC (by kernel_rfl)) (fun C' hC' => AllF.one (have hC : C'.n0 = ct_find0_0.nx := hC'.trans hC; (From.run mixed (tysOf _) fnOk c_find0_0_ct (labsOkB hC (by kernel_rfl)) (goodL good_c_find0_0_15_0) nl_ok))) rfl (by kernel_rfl) rfl ρ β a w hk ht
theorem fit_find1_0 : ct_find1_0.fit = true := by kernel_rfl
theorem c_find1_0_ct : ∀ ρ, CallOk Try.prog ρ (ctOf []) := ctOf_ok (fun _ h => absurd h List.not_mem_nil)
theorem nvr_find1_0 : fb24[3]? = some (.block 0 (.rangeFunc (.tmp 10) (rngPs fb24 3) (rngAs fb24 3) (rngBd fb24 3))) := by kernel_rfl
theorem ok_find1_0 : ct_find1_0.ok Try.prog :=
  Ctr.ok_never (x := rn_find1_0) (body := bodyOf Try.f24) (by kernel_rfl) (by kernel_rfl) (by kernel_rfl) fun ρ β w hk a ht => by
    show WPs none Try.prog fb24 _ a w
    rw [cut_at nvr_find1_0]
    have hC : (ct_find1_0.ctx ρ β w).n0 = ct_find1_0.nx := rfl
    exact range_wps (x := rn_find1_0) mixed (tysOf _) fnOk c_find1_0_ct (From.run mixed (tysOf _) fnOk c_find1_0_ct (labsOkB hC (by kernel_rfl)) (goodL good_c_find1_0_16_0) nl_ok) (goodRgL good_c_find1_0_17_0) nl_ok (labsOkB hC (by kernel_rfl)) (fun C' hC' => AllF.one (have hC : C'.n0 = ct_find1_0.nx := hC'.trans hC; (From.run mixed (tysOf _) fnOk c_find1_0_ct (labsOkB hC (by kernel_rfl)) (goodL good_c_find1_0_18_0) nl_ok))) rfl (by kernel_rfl) rfl ρ β a w hk ht
theorem fit_find1_1 : ct_find1_1.fit = true := by kernel_rfl
theorem c_find1_1_ct : ∀ ρ, CallOk Try.prog ρ (ctOf []) := ctOf_ok (fun _ h => absurd h List.not_mem_nil)
theorem nvr_find1_1 : fb24[3]? = some (.block 0 (.rangeFunc (.tmp 10) (rngPs fb24 3) (rngAs fb24 3) (rngBd fb24 3))) := by kernel_rfl
theorem ok_find1_1 : ct_find1_1.ok Try.prog :=
  Ctr.ok_never (x := rn_find1_1) (body := bodyOf Try.f24) (by kernel_rfl) (by kernel_rfl) (by kernel_rfl) fun ρ β w hk a ht => by
    show WPs none Try.prog fb24 _ a w
    rw [cut_at nvr_find1_1]
    have hC : (ct_find1_1.ctx ρ β w).n0 = ct_find1_1.nx := rfl
    exact range_wps (x := rn_find1_1) mixed (tysOf _) fnOk c_find1_1_ct (From.run mixed (tysOf _) fnOk c_find1_1_ct (labsOkB hC (by kernel_rfl)) (goodL good_c_find1_1_19_0) nl_ok) (goodRgL good_c_find1_1_20_0) nl_ok (labsOkB hC (by kernel_rfl)) (fun C' hC' => AllF.one (have hC : C'.n0 = ct_find1_1.nx := hC'.trans hC; (From.run mixed (tysOf _) fnOk c_find1_1_ct (labsOkB hC (by kernel_rfl)) (goodL good_c_find1_1_21_0) nl_ok))) rfl (by kernel_rfl) rfl ρ β a w hk ht
theorem fit_find2_0 : ct_find2_0.fit = true := by kernel_rfl
theorem c_find2_0_ct : ∀ ρ, CallOk Try.prog ρ (ctOf []) := ctOf_ok (fun _ h => absurd h List.not_mem_nil)
theorem nvr_find2_0 : fb24[3]? = some (.block 0 (.rangeFunc (.tmp 10) (rngPs fb24 3) (rngAs fb24 3) (rngBd fb24 3))) := by kernel_rfl
theorem ok_find2_0 : ct_find2_0.ok Try.prog :=
  Ctr.ok_never (x := rn_find2_0) (body := bodyOf Try.f24) (by kernel_rfl) (by kernel_rfl) (by kernel_rfl) fun ρ β w hk a ht => by
    show WPs none Try.prog fb24 _ a w
    rw [cut_at nvr_find2_0]
    have hC : (ct_find2_0.ctx ρ β w).n0 = ct_find2_0.nx := rfl
    exact range_wps (x := rn_find2_0) mixed (tysOf _) fnOk c_find2_0_ct (From.run mixed (tysOf _) fnOk c_find2_0_ct (labsOkB hC (by kernel_rfl)) (goodL good_c_find2_0_22_0) nl_ok) (goodRgL good_c_find2_0_23_0) nl_ok (labsOkB hC (by kernel_rfl)) (fun C' hC' => AllF.one (have hC : C'.n0 = ct_find2_0.nx := hC'.trans hC; (From.run mixed (tysOf _) fnOk c_find2_0_ct (labsOkB hC (by kernel_rfl)) (goodL good_c_find2_0_24_0) nl_ok))) rfl (by kernel_rfl) rfl ρ β a w hk ht
theorem fit_find2_1 : ct_find2_1.fit = true := by kernel_rfl
theorem c_find2_1_ct : ∀ ρ, CallOk Try.prog ρ (ctOf []) := ctOf_ok (fun _ h => absurd h List.not_mem_nil)
theorem nvr_find2_1 : fb24[3]? = some (.block 0 (.rangeFunc (.tmp 10) (rngPs fb24 3) (rngAs fb24 3) (rngBd fb24 3))) := by kernel_rfl
theorem ok_find2_1 : ct_find2_1.ok Try.prog :=
  Ctr.ok_never (x := rn_find2_1) (body := bodyOf Try.f24) (by kernel_rfl) (by kernel_rfl) (by kernel_rfl) fun ρ β w hk a ht => by
    show WPs none Try.prog fb24 _ a w
    rw [cut_at nvr_find2_1]
    have hC : (ct_find2_1.ctx ρ β w).n0 = ct_find2_1.nx := rfl
    exact range_wps (x := rn_find2_1) mixed (tysOf _) fnOk c_find2_1_ct (From.run mixed (tysOf _) fnOk c_find2_1_ct (labsOkB hC (by kernel_rfl)) (goodL good_c_find2_1_25_0) nl_ok) (goodRgL good_c_find2_1_26_0) nl_ok (labsOkB hC (by kernel_rfl)) (fun C' hC' => AllF.one (have hC : C'.n0 = ct_find2_1.nx := hC'.trans hC; (From.run mixed (tysOf _) fnOk c_find2_1_ct (labsOkB hC (by kernel_rfl)) (goodL good_c_find2_1_27_0) nl_ok))) rfl (by kernel_rfl) rfl ρ β a w hk ht
theorem fit_find2_2 : ct_find2_2.fit = true := by kernel_rfl
theorem c_find2_2_ct : ∀ ρ, CallOk Try.prog ρ (ctOf []) := ctOf_ok (fun _ h => absurd h List.not_mem_nil)
theorem nvr_find2_2 : fb24[3]? = some (.block 0 (.rangeFunc (.tmp 10) (rngPs fb24 3) (rngAs fb24 3) (rngBd fb24 3))) := by kernel_rfl
theorem ok_find2_2 : ct_find2_2.ok Try.prog :=
  Ctr.ok_never (x := rn_find2_2) (body := bodyOf Try.f24) (by kernel_rfl) (by kernel_rfl) (by kernel_rfl) fun ρ β w hk a ht => by
    show WPs none Try.prog fb24 _ a w
    rw [cut_at nvr_find2_2]
    have hC : (ct_find2_2.ctx ρ β w).n0 = ct_find2_2.nx := rfl
    exact range_wps (x := rn_find2_2) mixed (tysOf _) fnOk c_find2_2_ct (From.run mixed (tysOf _) fnOk c_find2_2_ct (labsOkB hC (by kernel_rfl)) (goodL good_c_find2_2_28_0) nl_ok) (goodRgL good_c_find2_2_29_0) nl_ok (labsOkB hC (by kernel_rfl)) (fun C' hC' => AllF.one (have hC : C'.n0 = ct_find2_2.nx := hC'.trans hC; (From.run mixed (tysOf _) fnOk c_find2_2_ct (labsOkB hC (by kernel_rfl)) (goodL good_c_find2_2_30_0) nl_ok))) rfl (by kernel_rfl) rfl ρ β a w hk ht
theorem fit_find3_0 : ct_find3_0.fit = true := by kernel_rfl
theorem c_find3_0_ct : ∀ ρ, CallOk Try.prog ρ (ctOf []) := ctOf_ok (fun _ h => absurd h List.not_mem_nil)
theorem nvr_find3_0 : fb24[3]? = some (.block 0 (.rangeFunc (.tmp 10) (rngPs fb24 3) (rngAs fb24 3) (rngBd fb24 3))) := by kernel_rfl
theorem ok_find3_0 : ct_find3_0.ok Try.prog :=
  Ctr.ok_never (x := rn_find3_0) (body := bodyOf Try.f24) (by kernel_rfl) (by kernel_rfl) (by kernel_rfl) fun ρ β w hk a ht => by
    show WPs none Try.prog fb24 _ a w
    rw [cut_at nvr_find3_0]
    have hC : (ct_find3_0.ctx ρ β w).n0 = ct_find3_0.nx := rfl
    exact range_wps (x := rn_find3_0) mixed (tysOf _) fnOk c_find3_0_ct (From.run mixed (tysOf _) fnOk c_find3_0_ct (labsOkB hC (by kernel_rfl)) (goodL good_c_find3_0_31_0) nl_ok) (goodRgL good_c_find3_0_32_0) nl_ok (labsOkB hC (by kernel_rfl)) (fun C' hC' => AllF.one (have hC : C'.n0 = ct_find3_0.nx := hC'.trans hC; (From.run mixed (tysOf _) fnOk c_find3_0_ct (labsOkB hC (by kernel_rfl)) (goodL good_c_find3_0_33_0) nl_ok))) rfl (by kernel_rfl) rfl ρ β a w hk ht
theorem fit_find3_1 : ct_find3_1.fit = true := by kernel_rfl
theorem c_find3_1_ct : ∀ ρ, CallOk Try.prog ρ (ctOf []) := ctOf_ok (fun _ h => absurd h List.not_mem_nil)
theorem nvr_find3_1 : fb24[3]? = some (.block 0 (.rangeFunc (.tmp 10) (rngPs fb24 3) (rngAs fb24 3) (rngBd fb24 3))) := by kernel_rfl
theorem ok_find3_1 : ct_find3_1.ok Try.prog :=
  Ctr.ok_never (x := rn_find3_1) (body := bodyOf Try.f24) (by kernel_rfl) (by kernel_rfl) (by kernel_rfl) fun ρ β w hk a ht => by
    show WPs none Try.prog fb24 _ a w
    rw [cut_at nvr_find3_1]
    have hC : (ct_find3_1.ctx ρ β w).n0 = ct_find3_1.nx := rfl
    exact range_wps (x := rn_find3_1) mixed (tysOf _) fnOk c_find3_1_ct (From.run mixed (tysOf _) fnOk c_find3_1_ct (labsOkB hC (by kernel_rfl)) (goodL good_c_find3_1_34_0) nl_ok) (goodRgL good_c_find3_1_35_0) nl_ok (labsOkB hC (by kernel_rfl)) (fun C' hC' => AllF.one (have hC : C'.n0 = ct_find3_1.nx := hC'.trans hC; (From.run mixed (tysOf _) fnOk c_find3_1_ct (labsOkB hC (by kernel_rfl)) (goodL good_c_find3_1_36_0) nl_ok))) rfl (by kernel_rfl) rfl ρ β a w hk ht
theorem fit_find3_2 : ct_find3_2.fit = true := by kernel_rfl
theorem c_find3_2_ct : ∀ ρ, CallOk Try.prog ρ (ctOf []) := ctOf_ok (fun _ h => absurd h List.not_mem_nil)
theorem nvr_find3_2 : fb24[3]? = some (.block 0 (.rangeFunc (.tmp 10) (rngPs fb24 3) (rngAs fb24 3) (rngBd fb24 3))) := by kernel_rfl
theorem ok_find3_2 : ct_find3_2.ok Try.prog :=
  Ctr.ok_never (x := rn_find3_2) (body := bodyOf Try.f24) (by kernel_rfl) (by kernel_rfl) (by kernel_rfl) fun ρ β w hk a ht => by
    show WPs none Try.prog fb24 _ a w
    rw [cut_at nvr_find3_2]
    have hC : (ct_find3_2.ctx ρ β w).n0 = ct_find3_2.nx := rfl
    exact range_wps (x := rn_find3_2) mixed (tysOf _) fnOk c_find3_2_ct (From.run mixed (tysOf _) fnOk c_find3_2_ct (labsOkB hC (by kernel_rfl)) (goodL good_c_find3_2_37_0) nl_ok) (goodRgL good_c_find3_2_38_0) nl_ok (labsOkB hC (by kernel_rfl)) (fun C' hC' => AllF.one (have hC : C'.n0 = ct_find3_2.nx := hC'.trans hC; (From.run mixed (tysOf _) fnOk c_find3_2_ct (labsOkB hC (by kernel_rfl)) (goodL good_c_find3_2_39_0) nl_ok))) rfl (by kernel_rfl) rfl ρ β a w hk ht
theorem fit_find3_3 : ct_find3_3.fit = true := by kernel_rfl
theorem c_find3_3_ct : ∀ ρ, CallOk Try.prog ρ (ctOf []) := ctOf_ok (fun _ h => absurd h List.not_mem_nil)
theorem nvr_find3_3 : fb24[3]? = some (.block 0 (.rangeFunc (.tmp 10) (rngPs fb24 3) (rngAs fb24 3) (rngBd fb24 3))) := by kernel_rfl
theorem ok_find3_3 : ct_find3_3.ok Try.prog :=
  Ctr.ok_never (x := rn_find3_3) (body := bodyOf Try.f24) (by kernel_rfl) (by kernel_rfl) (by kernel_rfl) fun ρ β w hk a ht => by
    show WPs none Try.prog fb24 _ a w
    rw [cut_at nvr_find3_3]
    have hC : (ct_find3_3.ctx ρ β w).n0 = ct_find3_3.nx := rfl
    exact range_wps (x := rn_find3_3) mixed (tysOf _) fnOk c_find3_3_ct (From.run mixed (tysOf _) fnOk c_find3_3_ct (labsOkB hC (by kernel_rfl)) (goodL good_c_find3_3_40_0) nl_ok) (goodRgL good_c_find3_3_41_0) nl_ok (labsOkB hC (by kernel_rfl)) (fun C' hC' => AllF.one (have hC : C'.n0 = ct_find3_3.nx := hC'.trans hC; (From.run mixed (tysOf _) fnOk c_find3_3_ct (labsOkB hC (by kernel_rfl)) (goodL good_c_find3_3_42_0) nl_ok))) rfl (by kernel_rfl) rfl ρ β a w hk ht
theorem fit_find4_0 : ct_find4_0.fit = true := by kernel_rfl
theorem c_find4_0_ct : ∀ ρ, CallOk Try.prog ρ (ctOf []) := ctOf_ok (fun _ h => absurd h List.not_mem_nil)
theorem nvr_find4_0 : fb24[3]? = some (.block 0 (.rangeFunc (.tmp 10) (rngPs fb24 3) (rngAs fb24 3) (rngBd fb24 3))) := by kernel_rfl
theorem ok_find4_0 : ct_find4_0.ok Try.prog :=
  Ctr.ok_never (x := rn_find4_0) (body := bodyOf Try.f24) (by kernel_rfl) (by kernel_rfl) (by kernel_rfl) fun ρ β w hk a ht => by
    show WPs none Try.prog fb24 _ a w
    rw [cut_at nvr_find4_0]
    have hC : (ct_find4_0.ctx ρ β w).n0 = ct_find4_0.nx := rfl
    exact range_wps (x := rn_find4_0) mixed (tysOf _) fnOk c_find4_0_ct (From.run mixed (tysOf _) fnOk c_find4_0_ct (labsOkB hC (by kernel_rfl)) (goodL good_c_find4_0_43_0) nl_ok) (goodRgL good_c_find4_0_44_0) nl_ok (labsOkB hC (by kernel_rfl)) (fun C' hC' => AllF.one (have hC : C'.n0 = ct_find4_0.nx := hC'.trans hC; (From.run mixed (tysOf _) fnOk c_find4_0_ct (labsOkB hC (by kernel_rfl)) (goodL good_c_find4_0_45_0) nl_ok))) rfl (by kernel_rfl) rfl ρ β a w hk ht
theorem fit_find4_1 : ct_find4_1.fit = true := by kernel_rfl
theorem c_find4_1_ct : ∀ ρ, CallOk Try.prog ρ (ctOf []) := ctOf_ok (fun _ h => absurd h List.not_mem_nil)
theorem nvr_find4_1 : fb24[3]? = some (.block 0 (.rangeFunc (.tmp 10) (rngPs fb24 3) (rngAs fb24 3) (rngBd fb24 3))) := by kernel_rfl
theorem ok_find4_1 : ct_find4_1.ok Try.prog :=
  Ctr.ok_never (x := rn_find4_1) (body := bodyOf Try.f24) (by kernel_rfl) (by kernel_rfl) (by kernel_rfl) fun ρ β w hk a ht => by
    show WPs none Try.prog fb24 _ a w
    rw [cut_at nvr_find4_1]
    have hC : (ct_find4_1.ctx ρ β w).n0 = ct_find4_1.nx := rfl
    exact range_wps (x := rn_find4_1) mixed (tysOf _) fnOk c_find4_1_ct (From.run mixed (tysOf _) fnOk c_find4_1_ct (labsOkB hC (by kernel_rfl)) (goodL good_c_find4_1_46_0) nl_ok) (goodRgL good_c_find4_1_47_0) nl_ok (labsOkB hC (by kernel_rfl)) (fun C' hC' => AllF.one (have hC : C'.n0 = ct_find4_1.nx := hC'.trans hC; (From.run mixed (tysOf _) fnOk c_find4_1_ct (labsOkB hC (by kernel_rfl)) (goodL good_c_find4_1_48_0) nl_ok))) rfl (by kernel_rfl) rfl ρ β a w hk ht
theorem fit_find4_2 : ct_find4_2.fit = true := by kernel_rfl
theorem c_find4_2_ct : ∀ ρ, CallOk Try.prog ρ (ctOf []) := ctOf_ok (fun _ h => absurd h List.not_mem_nil)
theorem nvr_find4_2 : fb24[3]? = some (.block 0 (.rangeFunc (.tmp 10) (rngPs fb24 3) (rngAs fb24 3) (rngBd fb24 3))) := by kernel_rfl
theorem ok_find4_2 : ct_find4_2.ok Try.prog :=
  Ctr.ok_never (x := rn_find4_2) (body := bodyOf Try.f24) (by kernel_rfl) (by kernel_rfl) (by kernel_rfl) fun ρ β w hk a ht => by
    show WPs none Try.prog fb24 _ a w
    rw [cut_at nvr_find4_2]
    have hC : (ct_find4_2.ctx ρ β w).n0 = ct_find4_2.nx := rfl
    exact range_wps (x := rn_find4_2) mixed (tysOf _) fnOk c_find4_2_ct (From.run mixed (tysOf _) fnOk c_find4_2_ct (labsOkB hC (by kernel_rfl)) (goodL good_c_find4_2_49_0) nl_ok) (goodRgL good_c_find4_2_50_0) nl_ok (labsOkB hC (by kernel_rfl)) (fun C' hC' => AllF.one (have hC : C'.n0 = ct_find4_2.nx := hC'.trans hC; (From.run mixed (tysOf _) fnOk c_find4_2_ct (labsOkB hC (by kernel_rfl)) (goodL good_c_find4_2_51_0) nl_ok))) rfl (by kernel_rfl) rfl ρ β a w hk ht
theorem fit_find4_3 : ct_find4_3.fit = true := by kernel_rfl
theorem c_find4_3_ct : ∀ ρ, CallOk Try.prog ρ (ctOf []) := ctOf_ok (fun _ h => absurd h List.not_mem_nil)
theorem nvr_find4_3 : fb24[3]? = some (.block 0 (.rangeFunc (.tmp 10) (rngPs fb24 3) (rngAs fb24 3) (rngBd fb24 3))) := by kernel_rfl
theorem ok_find4_3 : ct_find4_3.ok Try.prog :=
  Ctr.ok_never (x := rn_find4_3) (body := bodyOf Try.f24) (by kernel_rfl) (by kernel_rfl) (by kernel_rfl) fun ρ β w hk a ht => by
    show WPs none Try.prog fb24 _ a w
    rw [cut_at nvr_find4_3]
    have hC : (ct_find4_3.ctx ρ β w).n0 = ct_find4_3.nx := rfl
    exact range_wps (x := rn_find4_3) mixed (tysOf _) fnOk c_find4_3_ct (From.run mixed (tysOf _) fnOk c_find4_3_ct (labsOkB hC (by kernel_rfl)) (goodL good_c_find4_3_52_0) nl_ok) (goodRgL good_c_find4_3_53_0) nl_ok (labsOkB hC (by kernel_rfl)) (fun C' hC' => AllF.one (have hC : C'.n0 = ct_find4_3.nx := hC'.trans hC; (From.run mixed (tysOf _) fnOk c_find4_3_ct (labsOkB hC (by kernel_rfl)) (goodL good_c_find4_3_54_0) nl_ok))) rfl (by kernel_rfl) rfl ρ β a w hk ht
theorem fit_find4_4 : ct_find4_4.fit = true := by kernel_rfl
theorem c_find4_4_ct : ∀ ρ, CallOk Try.prog ρ (ctOf []) := ctOf_ok (fun _ h => absurd h List.not_mem_nil)
theorem nvr_find4_4 : fb24[3]? = some (.block 0 (.rangeFunc (.tmp 10) (rngPs fb24 3) (rngAs fb24 3) (rngBd fb24 3))) := by kernel_rfl
theorem ok_find4_4 : ct_find4_4.ok Try.prog :=
  Ctr.ok_never (x := rn_find4_4) (body := bodyOf Try.f24) (by kernel_rfl) (by kernel_rfl) (by kernel_rfl) fun ρ β w hk a ht => by
    show WPs none Try.prog fb24 _ a w
    rw [cut_at nvr_find4_4]
    have hC : (ct_find4_4.ctx ρ β w).n0 = ct_find4_4.nx := rfl
    exact range_wps (x := rn_find4_4) mixed (tysOf _) fnOk c_find4_4_ct (From.run mixed (tysOf _) fnOk c_find4_4_ct (labsOkB hC (by kernel_rfl)) (goodL good_c_find4_4_55_0) nl_ok) (goodRgL good_c_find4_4_56_0) nl_ok (labsOkB hC (by kernel_rfl)) (fun C' hC' => AllF.one (have hC : C'.n0 = ct_find4_4.nx := hC'.trans hC; (From.run mixed (tysOf _) fnOk c_find4_4_ct (labsOkB hC (by kernel_rfl)) (goodL good_c_find4_4_57_0) nl_ok))) rfl (by kernel_rfl) rfl ρ β a w hk ht
theorem fit_find5_0 : ct_find5_0.fit = true := by kernel_rfl
theorem c_find5_0_ct : ∀ ρ, CallOk Try.prog ρ (ctOf []) := ctOf_ok (fun _ h => absurd h List.not_mem_nil)
theorem nvr_find5_0 : fb24[3]? = some (.block 0 (.rangeFunc (.tmp 10) (rngPs fb24 3) (rngAs fb24 3) (rngBd fb24 3))) := by kernel_rfl
theorem ok_find5_0 : ct_find5_0.ok Try.prog :=
  Ctr.ok_never (x := rn_find5_0) (body := bodyOf Try.f24) (by kernel_rfl) (by kernel_rfl) (by kernel_rfl) fun ρ β w hk a ht => by
    show WPs none Try.prog fb24 _ a w
    rw [cut_at nvr_find5_0]
    have hC : (ct_find5_0.ctx ρ β w).n0 = ct_find5_0.nx := rfl
    exact range_wps (x := rn_find5_0) mixed (tysOf _) fnOk c_find5_0_ct (From.run mixed (tysOf _) fnOk c_find5_0_ct (labsOkB hC (by kernel_rfl)) (goodL good_c_find5_0_58_0) nl_ok) (goodRgL good_c_find5_0_59_0) nl_ok (labsOkB hC (by kernel_rfl)) (fun C' hC' => AllF.one (have hC : C'.n0 = ct_find5_0.nx := hC'.trans hC; (From.run mixed (tysOf _) fnOk c_find5_0_ct (labsOkB hC (by kernel_rfl)) (goodL good_c_find5_0_60_0) nl_ok))) rfl (by kernel_rfl) rfl ρ β a w hk ht
theorem fit_find5_1 : ct_find5_1.fit = true := by kernel_rfl
theorem c_find5_1_ct : ∀ ρ, CallOk Try.prog ρ (ctOf []) := ctOf_ok (fun _ h => absurd h List.not_mem_nil)
theorem nvr_find5_1 : fb24[3]? = some (.block 0 (.rangeFunc (.tmp 10) (rngPs fb24 3) (rngAs fb24 3) (rngBd fb24 3))) := by kernel_rfl
theorem ok_find5_1 : ct_find5_1.ok Try.prog :=
  Ctr.ok_never (x := rn_find5_1) (body := bodyOf Try.f24) (by kernel_rfl) (by kernel_rfl) (by kernel_rfl) fun ρ β w hk a ht => by
    show WPs none Try.prog fb24 _ a w
    rw [cut_at nvr_find5_1]
    have hC : (ct_find5_1.ctx ρ β w).n0 = ct_find5_1.nx := rfl
    exact range_wps (x := rn_find5_1) mixed (tysOf _) fnOk c_find5_1_ct (From.run mixed (tysOf _) fnOk c_find5_1_ct (labsOkB hC (by kernel_rfl)) (goodL good_c_find5_1_61_0) nl_ok) (goodRgL good_c_find5_1_62_0) nl_ok (labsOkB hC (by kernel_rfl)) (fun C' hC' => AllF.one (have hC : C'.n0 = ct_find5_1.nx := hC'.trans hC; (From.run mixed (tysOf _) fnOk c_find5_1_ct (labsOkB hC (by kernel_rfl)) (goodL good_c_find5_1_63_0) nl_ok))) rfl (by kernel_rfl) rfl ρ β a w hk ht
theorem fit_find5_2 : ct_find5_2.fit = true := by kernel_rfl
theorem c_find5_2_ct : ∀ ρ, CallOk Try.prog ρ (ctOf []) := ctOf_ok (fun _ h => absurd h List.not_mem_nil)
theorem nvr_find5_2 : fb24[3]? = some (.block 0 (.rangeFunc (.tmp 10) (rngPs fb24 3) (rngAs fb24 3) (rngBd fb24 3))) := by kernel_rfl
theorem ok_find5_2 : ct_find5_2.ok Try.prog :=
  Ctr.ok_never (x := rn_find5_2) (body := bodyOf Try.f24) (by kernel_rfl) (by kernel_rfl) (by kernel_rfl) fun ρ β w hk a ht => by
    show WPs none Try.prog fb24 _ a w
    rw [cut_at nvr_find5_2]
    have hC : (ct_find5_2.ctx ρ β w).n0 = ct_find5_2.nx := rfl
    exact range_wps (x := rn_find5_2) mixed (tysOf _) fnOk c_find5_2_ct (From.run mixed (tysOf _) fnOk c_find5_2_ct (labsOkB hC (by kernel_rfl)) (goodL good_c_find5_2_64_0) nl_ok) (goodRgL good_c_find5_2_65_0) nl_ok (labsOkB hC (by kernel_rfl)) (fun C' hC' => AllF.one (have hC : C'.n0 = ct_find5_2.nx := hC'.trans hC; (From.run mixed (tysOf _) fnOk c_find5_2_ct (labsOkB hC (by kernel_rfl)) (goodL good_c_find5_2_66_0) nl_ok))) rfl (by kernel_rfl) rfl ρ β a w hk ht
theorem fit_find5_3 : ct_find5_3.fit = true := by kernel_rfl
theorem c_find5_3_ct : ∀ ρ, CallOk Try.prog ρ (ctOf []) := ctOf_ok (fun _ h => absurd h List.not_mem_nil)
theorem nvr_find5_3 : fb24[3]? = some (.block 0 (.rangeFunc (.tmp 10) (rngPs fb24 3) (rngAs fb24 3) (rngBd fb24 3))) := by kernel_rfl
theorem ok_find5_3 : ct_find5_3.ok Try.prog :=
  Ctr.ok_never (x := rn_find5_3) (body := bodyOf Try.f24) (by kernel_rfl) (by kernel_rfl) (by kernel_rfl) fun ρ β w hk a ht => by
    show WPs none Try.prog fb24 _ a w
    rw [cut_at nvr_find5_3]
    have hC : (ct_find5_3.ctx ρ β w).n0 = ct_find5_3.nx := rfl
    exact range_wps (x := rn_find5_3) mixed (tysOf _) fnOk c_find5_3_ct (From.run mixed (tysOf _) fnOk c_find5_3_ct (labsOkB hC (by kernel_rfl)) (goodL good_c_find5_3_67_0) nl_ok) (goodRgL good_c_find5_3_68_0) nl_ok (labsOkB hC (by kernel_rfl)) (fun C' hC' => AllF.one (have hC : C'.n0 = ct_find5_3.nx := hC'.trans hC; (From.run mixed (tysOf _) fnOk c_find5_3_ct (labsOkB hC (by kernel_rfl)) (goodL good_c_find5_3_69_0) nl_ok))) rfl (by kernel_rfl) rfl ρ β a w hk ht
theorem fit_find5_4 : ct_find5_4.fit = true := by kernel_rfl
theorem c_find5_4_ct : ∀ ρ, CallOk Try.prog ρ (ctOf []) := ctOf_ok (fun _ h => absurd h List.not_mem_nil)
theorem nvr_find5_4 : fb24[3]? = some (.block 0 (.rangeFunc (.tmp 10) (rngPs fb24 3) (rngAs fb24 3) (rngBd fb24 3))) := by kernel_rfl
theorem ok_find5_4 : ct_find5_4.ok Try.prog :=
  Ctr.ok_never (x := rn_find5_4) (body := bodyOf Try.f24) (by kernel_rfl) (by kernel_rfl) (by kernel_rfl) fun ρ β w hk a ht => by
    show WPs none Try.prog fb24 _ a w
    rw [cut_at nvr_find5_4]
    have hC : (ct_find5_4.ctx ρ β w).n0 = ct_find5_4.nx := rfl
    exact range_wps (x := rn_find5_4) mixed (tysOf _) fnOk c_find5_4_ct (From.run mixed (tysOf _) fnOk c_find5_4_ct (labsOkB hC (by kernel_rfl)) (goodL good_c_find5_4_70_0) nl_ok) (goodRgL good_c_find5_4_71_0) nl_ok (labsOkB hC (by kernel_rfl)) (fun C' hC' => AllF.one (have hC : C'.n0 = ct_find5_4.nx := hC'.trans hC; (From.run mixed (tysOf _) fnOk c_find5_4_ct (labsOkB hC (by kernel_rfl)) (goodL good_c_find5_4_72_0) nl_ok))) rfl (by kernel_rfl) rfl ρ β a w hk ht
theorem fit_find5_5 : ct_find5_5.fit = true := by kernel_rfl
theorem c_find5_5_ct : ∀ ρ, CallOk Try.prog ρ (ctOf []) := ctOf_ok (fun _ h => absurd h List.not_mem_nil)
theorem nvr_find5_5 : fb24[3]? = some (.block 0 (.rangeFunc (.tmp 10) (rngPs fb24 3) (rngAs fb24 3) (rngBd fb24 3))) := by kernel_rfl
theorem ok_find5_5 : ct_find5_5.ok Try.prog :=
  Ctr.ok_never (x := rn_find5_5) (body := bodyOf Try.f24) (by kernel_rfl) (by kernel_rfl) (by kernel_rfl) fun ρ β w hk a ht => by
    show WPs none Try.prog fb24 _ a w
    rw [cut_at nvr_find5_5]
    have hC : (ct_find5_5.ctx ρ β w).n0 = ct_find5_5.nx := rfl
    exact range_wps (x := rn_find5_5) mixed (tysOf _) fnOk c_find5_5_ct (From.run mixed (tysOf _) fnOk c_find5_5_ct (labsOkB hC (by kernel_rfl)) (goodL good_c_find5_5_73_0) nl_ok) (goodRgL good_c_find5_5_74_0) nl_ok (labsOkB hC (by kernel_rfl)) (fun C' hC' => AllF.one (have hC : C'.n0 = ct_find5_5.nx := hC'.trans hC; (From.run mixed (tysOf _) fnOk c_find5_5_ct (labsOkB hC (by kernel_rfl)) (goodL good_c_find5_5_75_0) nl_ok))) rfl (by kernel_rfl) rfl ρ β a w hk ht
theorem fit_find6_0 : ct_find6_0.fit = true := by kernel_rfl
theorem c_find6_0_ct : ∀ ρ, CallOk Try.prog ρ (ctOf []) := ctOf_ok (fun _ h => absurd h List.not_mem_nil)
theorem nvr_find6_0 : fb24[3]? = some (.block 0 (.rangeFunc (.tmp 10) (rngPs fb24 3) (rngAs fb24 3) (rngBd fb24 3))) := by kernel_rfl
theorem ok_find6_0 : ct_find6_0.ok Try.prog :=
  Ctr.ok_never (x := rn_find6_0) (body := bodyOf Try.f24) (by kernel_rfl) (by kernel_rfl) (by kernel_rfl) fun ρ β w hk a ht => by
    show WPs none Try.prog fb24 _ a w
    rw [cut_at nvr_find6_0]
    have hC : (ct_find6_0.ctx ρ β w).n0 = ct_find6_0.nx := rfl
    exact range_wps (x := rn_find6_0) mixed (tysOf _) fnOk c_find6_0_ct (From.run mixed (tysOf _) fnOk c_find6_0_ct (labsOkB hC (by kernel_rfl)) (goodL good_c_find6_0_76_0) nl_ok) (goodRgL good_c_find6_0_77_0) nl_ok (labsOkB hC (by kernel_rfl)) (fun C' hC' => AllF.one (have hC : C'.n0 = ct_find6_0.nx := hC'.trans hC; (From.run mixed (tysOf _) fnOk c_find6_0_ct (labsOkB hC (by kernel_rfl)) (goodL good_c_find6_0_78_0) nl_ok))) rfl (by kernel_rfl) rfl ρ β a w hk ht
theorem fit_find6_1 : ct_find6_1.fit = true := by kernel_rfl
theorem c_find6_1_ct : ∀ ρ, CallOk Try.prog ρ (ctOf []) := ctOf_ok (fun _ h => absurd h List.not_mem_nil)
theorem nvr_find6_1 : fb24[3]? = some (.block 0 (.rangeFunc (.tmp 10) (rngPs fb24 3) (rngAs fb24 3) (rngBd fb24 3))) := by kernel_rfl
theorem ok_find6_1 : ct_find6_1.ok Try.prog :=
  Ctr.ok_never (x := rn_find6_1) (body := bodyOf Try.f24) (by kernel_rfl) (by kernel_rfl) (by kernel_rfl) fun ρ β w hk a ht => by
    show WPs none Try.prog fb24 _ a w
    rw [cut_at nvr_find6_1]
    have hC : (ct_find6_1.ctx ρ β w).n0 = ct_find6_1.nx := rfl
    exact range_wps (x := rn_find6_1) mixed (tysOf _) fnOk c_find6_1_ct (From.run mixed (tysOf _) fnOk c_find6_1_ct (labsOkB hC (by kernel_rfl)) (goodL good_c_find6_1_79_0) nl_ok) (goodRgL good_c_find6_1_80_0) nl_ok (labsOkB hC (by kernel_rfl)) (fun C' hC' => AllF.one (have hC : C'.n0 = ct_find6_1.nx := hC'.trans hC; (From.run mixed (tysOf _) fnOk c_find6_1_ct (labsOkB hC (by kernel_rfl)) (goodL good_c_find6_1_81_0) nl_ok))) rfl (by kernel_rfl) rfl ρ β a w hk ht
theorem fit_find6_2 : ct_find6_2.fit = true := by kernel_rfl
theorem c_find6_2_ct : ∀ ρ, CallOk Try.prog ρ (ctOf []) := ctOf_ok (fun _ h => absurd h List.not_mem_nil)
theorem nvr_find6_2 : fb24[3]? = some (.block 0 (.rangeFunc (.tmp 10) (rngPs fb24 3) (rngAs fb24 3) (rngBd fb24 3))) := by kernel_rfl
theorem ok_find6_2 : ct_find6_2.ok Try.prog :=
  Ctr.ok_never (x := rn_find6_2) (body := bodyOf Try.f24) (by kernel_rfl) (by kernel_rfl) (by kernel_rfl) fun ρ β w hk a ht => by
    show WPs none Try.prog fb24 _ a w
    rw [cut_at nvr_find6_2]
    have hC : (ct_find6_2.ctx ρ β w).n0 = ct_find6_2.nx := rfl
    exact range_wps (x := rn_find6_2) mixed (tysOf _) fnOk c_find6_2_ct (From.run mixed (tysOf _) fnOk c_find6_2_ct (labsOkB hC (by kernel_rfl)) (goodL good_c_find6_2_82_0) nl_ok) (goodRgL good_c_find6_2_83_0) nl_ok (labsOkB hC (by kernel_rfl)) (fun C' hC' => AllF.one (have hC : C'.n0 = ct_find6_2.nx := hC'.trans hC; (From.run mixed (tysOf _) fnOk c_find6_2_ct (labsOkB hC (by kernel_rfl)) (goodL good_c_find6_2_84_0) nl_ok))) rfl (by kernel_rfl) rfl ρ β a w hk ht
theorem fit_find6_3 : ct_find6_3.fit = true := by kernel_rfl
theorem c_find6_3_ct : ∀ ρ, CallOk Try.prog ρ (ctOf []) := ctOf_ok (fun _ h => absurd h List.not_mem_nil)
theorem nvr_find6_3 : fb24[3]? = some (.block 0 (.rangeFunc (.tmp 10) (rngPs fb24 3) (rngAs fb24 3) (rngBd fb24 3))) := by kernel_rfl
theorem ok_find6_3 : ct_find6_3.ok Try.prog :=
  Ctr.ok_never (x := rn_find6_3) (body := bodyOf Try.f24) (by kernel_rfl) (by kernel_rfl) (by kernel_rfl) fun ρ β w hk a ht => by
    show WPs none Try.prog fb24 _ a w
    rw [cut_at nvr_find6_3]
    have hC : (ct_find6_3.ctx ρ β w).n0 = ct_find6_3.nx := rfl
    exact range_wps (x := rn_find6_3) mixed (tysOf _) fnOk c_find6_3_ct (From.run mixed (tysOf _) fnOk c_find6_3_ct (labsOkB hC (by kernel_rfl)) (goodL good_c_find6_3_85_0) nl_ok) (goodRgL good_c_find6_3_86_0) nl_ok (labsOkB hC (by kernel_rfl)) (fun C' hC' => AllF.one (have hC : C'.n0 = ct_find6_3.nx := hC'.trans hC; (From.run mixed (tysOf _) fnOk c_find6_3_ct (labsOkB hC (by kernel_rfl)) (goodL good_c_find6_3_87_0) nl_ok))) rfl (by kernel_rfl) rfl ρ β a w hk ht
theorem fit_find6_4 : ct_find6_4.fit = true := by kernel_rfl
theorem c_find6_4_ct : ∀ ρ, CallOk Try.prog ρ (ctOf []) := ctOf_ok (fun _ h => absurd h List.not_mem_nil)
theorem nvr_find6_4 : fb24[3]? = some (.block 0 (.rangeFunc (.tmp 10) (rngPs fb24 3) (rngAs fb24 3) (rngBd fb24 3))) := by kernel_rfl
theorem ok_find6_4 : ct_find6_4.ok Try.prog :=
  Ctr.ok_never (x := rn_find6_4) (body := bodyOf Try.f24) (by kernel_rfl) (by kernel_rfl) (by kernel_rfl) fun ρ β w hk a ht => by
    show WPs none Try.prog fb24 _ a w
    rw [cut_at nvr_find6_4]
    have hC : (ct_find6_4.ctx ρ β w).n0 = ct_find6_4.nx := rfl
    exact range_wps (x := rn_find6_4) mixed (tysOf _) fnOk c_find6_4_ct (From.run mixed (tysOf _) fnOk c_find6_4_ct (labsOkB hC (by kernel_rfl)) (goodL good_c_find6_4_88_0) nl_ok) (goodRgL good_c_find6_4_89_0) nl_ok (labsOkB hC (by kernel_rfl)) (fun C' hC' => AllF.one (have hC : C'.n0 = ct_find6_4.nx := hC'.trans hC; (From.run mixed (tysOf _) fnOk c_find6_4_ct (labsOkB hC (by kernel_rfl)) (goodL good_c_find6_4_90_0) nl_ok))) rfl (by kernel_rfl) rfl ρ β a w hk ht
theorem fit_find6_5 : ct_find6_5.fit = true := by kernel_rfl
theorem c_find6_5_ct : ∀ ρ, CallOk Try.prog ρ (ctOf []) := ctOf_ok (fun _ h => absurd h List.not_mem_nil)
theorem nvr_find6_5 : fb24[3]? = some (.block 0 (.rangeFunc (.tmp 10) (rngPs fb24 3) (rngAs fb24 3) (rngBd fb24 3))) := by kernel_rfl
theorem ok_find6_5 : ct_find6_5.ok Try.prog :=
  Ctr.ok_never (x := rn_find6_5) (body := bodyOf Try.f24) (by kernel_rfl) (by kernel_rfl) (by kernel_rfl) fun ρ β w hk a ht => by
    show WPs none Try.prog fb24 _ a w
    rw [cut_at nvr_find6_5]
    have hC : (ct_find6_5.ctx ρ β w).n0 = ct_find6_5.nx := rfl
    exact range_wps (x := rn_find6_5) mixed (tysOf _) fnOk c_find6_5_ct (From.run mixed (tysOf _) fnOk c_find6_5_ct (labsOkB hC (by kernel_rfl)) (goodL good_c_find6_5_91_0) nl_ok) (goodRgL good_c_find6_5_92_0) nl_ok (labsOkB hC (by kernel_rfl)) (fun C' hC' => AllF.one (have hC : C'.n0 = ct_find6_5.nx := hC'.trans hC; (From.run mixed (tysOf _) fnOk c_find6_5_ct (labsOkB hC (by kernel_rfl)) (goodL good_c_find6_5_93_0) nl_ok))) rfl (by kernel_rfl) rfl ρ β a w hk ht
theorem fit_find6_6 : ct_find6_6.fit = true := by kernel_rfl
theorem c_find6_6_ct : ∀ ρ, CallOk Try.prog ρ (ctOf []) := ctOf_ok (fun _ h => absurd h List.not_mem_nil)
theorem nvr_find6_6 : fb24[3]? = some (.block 0 (.rangeFunc (.tmp 10) (rngPs fb24 3) (rngAs fb24 3) (rngBd fb24 3))) := by kernel_rfl
theorem ok_find6_6 : ct_find6_6.ok Try.prog :=
  Ctr.ok_never (x := rn_find6_6) (body := bodyOf Try.f24) (by kernel_rfl) (by kernel_rfl) (by kernel_rfl) fun ρ β w hk a ht => by
    show WPs none Try.prog fb24 _ a w
    rw [cut_at nvr_find6_6]
    have hC : (ct_find6_6.ctx ρ β w).n0 = ct_find6_6.nx := rfl
    exact range_wps (x := rn_find6_6) mixed (tysOf _) fnOk c_find6_6_ct (From.run mixed (tysOf _) fnOk c_find6_6_ct (labsOkB hC (by kernel_rfl)) (goodL good_c_find6_6_94_0) nl_ok) (goodRgL good_c_find6_6_95_0) nl_ok (labsOkB hC (by kernel_rfl)) (fun C' hC' => AllF.one (have hC : C'.n0 = ct_find6_6.nx := hC'.trans hC; (From.run mixed (tysOf _) fnOk c_find6_6_ct (labsOkB hC (by kernel_rfl)) (goodL good_c_find6_6_96_0) nl_ok))) rfl (by kernel_rfl) rfl ρ β a w hk ht
theorem fit_find7_0 : ct_find7_0.fit = true := by kernel_rfl
theorem c_find7_0_ct : ∀ ρ, CallOk Try.prog ρ (ctOf []) := ctOf_ok (fun _ h => absurd h List.not_mem_nil)
theorem nvr_find7_0 : fb24[3]? = some (.block 0 (.rangeFunc (.tmp 10) (rngPs fb24 3) (rngAs fb24 3) (rngBd fb24 3))) := by kernel_rfl
theorem ok_find7_0 : ct_find7_0.ok Try.prog :=
  Ctr.ok_never (x := rn_find7_0) (body := bodyOf Try.f24) (by kernel_rfl) (by kernel_rfl) (by kernel_rfl) fun ρ β w hk a ht => by
    show WPs none Try.prog fb24 _ a w
    rw [cut_at nvr_find7_0]
    have hC : (ct_find7_0.ctx ρ β w).n0 = ct_find7_0.nx := rfl
    exact range_wps (x := rn_find7_0) mixed (tysOf _) fnOk c_find7_0_ct (From.run mixed (tysOf _) fnOk c_find7_0_ct (labsOkB hC (by kernel_rfl)) (goodL good_c_find7_0_97_0) nl_ok) (goodRgL good_c_find7_0_98_0) nl_ok (labsOkB hC (by kernel_rfl)) (fun C' hC' => AllF.one (have hC : C'.n0 = ct_find7_0.nx := hC'.trans hC; (From.run mixed (tysOf _) fnOk c_find7_0_ct (labsOkB hC (by kernel_rfl)) (goodL good_c_find7_0_99_0) nl_ok))) rfl (by kernel_rfl) rfl ρ β a w hk ht
theorem fit_find7_1 : ct_find7_1.fit = true := by kernel_rfl
theorem c_find7_1_ct : ∀ ρ, CallOk Try.prog ρ (ctOf []) := ctOf_ok (fun _ h => absurd h List.not_mem_nil)
theorem nvr_find7_1 : fb24[3]? = some (.block 0 (.rangeFunc (.tmp 10) (rngPs fb24 3) (rngAs fb24 3) (rngBd fb24 3))) := by kernel_rfl
theorem ok_find7_1 : ct_find7_1.ok Try.prog :=
  Ctr.ok_never (x := rn_find7_1) (body := bodyOf Try.f24) (by kernel_rfl) (by kernel_rfl) (by kernel_rfl) fun ρ β w hk a ht => by
    show WPs none Try.prog fb24 _ a w
    rw [cut_at nvr_find7_1]
    have hC : (ct_find7_1.ctx ρ β w).n0 = ct_find7_1.nx := rfl
    exact range_wps (x := rn_find7_1) mixed (tysOf _) fnOk c_find7_1_ct (From.run mixed (tysOf _) fnOk c_find7_1_ct (labsOkB hC (by kernel_rfl)) (goodL good_c_find7_1_100_0) nl_ok) (goodRgL good_c_find7_1_101_0) nl_ok (labsOkB hC (by kernel_rfl)) (fun C' hC' => AllF.one (have hC : C'.n0 = ct_find7_1.nx := hC'.trans hC; (From.run mixed (tysOf _) fnOk c_find7_1_ct (labsOkB hC (by kernel_rfl)) (goodL good_c_find7_1_102_0) nl_ok))) rfl (by kernel_rfl) rfl ρ β a w hk ht
theorem fit_find7_2 : ct_find7_2.fit = true := by kernel_rfl
theorem c_find7_2_ct : ∀ ρ, CallOk Try.prog ρ (ctOf []) := ctOf_ok (fun _ h => absurd h List.not_mem_nil)
theorem nvr_find7_2 : fb24[3]? = some (.block 0 (.rangeFunc (.tmp 10) (rngPs fb24 3) (rngAs fb24 3) (rngBd fb24 3))) := by kernel_rfl
theorem ok_find7_2 : ct_find7_2.ok Try.prog :=
  Ctr.ok_never (x := rn_find7_2) (body := bodyOf Try.f24) (by kernel_rfl) (by kernel_rfl) (by kernel_rfl) fun ρ β w hk a ht => by
    show WPs none Try.prog fb24 _ a w
    rw [cut_at nvr_find7_2]
    have hC : (ct_find7_2.ctx ρ β w).n0 = ct_find7_2.nx := rfl
    exact range_wps (x := rn_find7_2) mixed (tysOf _) fnOk c_find7_2_ct (From.run mixed (tysOf _) fnOk c_find7_2_ct (labsOkB hC (by kernel_rfl)) (goodL good_c_find7_2_103_0) nl_ok) (goodRgL good_c_find7_2_104_0) nl_ok (labsOkB hC (by kernel_rfl)) (fun C' hC' => AllF.one (have hC : C'.n0 = ct_find7_2.nx := hC'.trans hC; (From.run mixed (tysOf _) fnOk c_find7_2_ct (labsOkB hC (by kernel_rfl)) (goodL good_c_find7_2_105_0) nl_ok))) rfl (by kernel_rfl) rfl ρ β a w hk ht
theorem fit_find7_3 : ct_find7_3.fit = true := by kernel_rfl
theorem c_find7_3_ct : ∀ ρ, CallOk Try.prog ρ (ctOf []) := ctOf_ok (fun _ h => absurd h List.not_mem_nil)
theorem nvr_find7_3 : fb24[3]? = some (.block 0 (.rangeFunc (.tmp 10) (rngPs fb24 3) (rngAs fb24 3) (rngBd fb24 3))) := by kernel_rfl
theorem ok_find7_3 : ct_find7_3.ok Try.prog :=
  Ctr.ok_never (x := rn_find7_3) (body := bodyOf Try.f24) (by kernel_rfl) (by kernel_rfl) (by kernel_rfl) fun ρ β w hk a ht => by
    show WPs none Try.prog fb24 _ a w
    rw [cut_at nvr_find7_3]
    have hC : (ct_find7_3.ctx ρ β w).n0 = ct_find7_3.nx := rfl
    exact range_wps (x := rn_find7_3) mixed (tysOf _) fnOk c_find7_3_ct (From.run mixed (tysOf _) fnOk c_find7_3_ct (labsOkB hC (by kernel_rfl)) (goodL good_c_find7_3_106_0) nl_ok) (goodRgL good_c_find7_3_107_0) nl_ok (labsOkB hC (by kernel_rfl)) (fun C' hC' => AllF.one (have hC : C'.n0 = ct_find7_3.nx := hC'.trans hC; (From.run mixed (tysOf _) fnOk c_find7_3_ct (labsOkB hC (by kernel_rfl)) (goodL good_c_find7_3_108_0) nl_ok))) rfl (by kernel_rfl) rfl ρ β a w hk ht
theorem fit_find7_4 : ct_find7_4.fit = true := by kernel_rfl
theorem c_find7_4_ct : ∀ ρ, CallOk Try.prog ρ (ctOf []) := ctOf_ok (fun _ h => absurd h List.not_mem_nil)
theorem nvr_find7_4 : fb24[3]? = some (.block 0 (.rangeFunc (.tmp 10) (rngPs fb24 3) (rngAs fb24 3) (rngBd fb24 3))) := by kernel_rfl
theorem ok_find7_4 : ct_find7_4.ok Try.prog :=
  Ctr.ok_never (x := rn_find7_4) (body := bodyOf Try.f24) (by kernel_rfl) (by kernel_rfl) (by kernel_rfl) fun ρ β w hk a ht => by
    show WPs none Try.prog fb24 _ a w
    rw [cut_at nvr_find7_4]
    have hC : (ct_find7_4.ctx ρ β w).n0 = ct_find7_4.nx := rfl
    exact range_wps (x := rn_find7_4) mixed (tysOf _) fnOk c_find7_4_ct (From.run mixed (tysOf _) fnOk c_find7_4_ct (labsOkB hC (by kernel_rfl)) (goodL good_c_find7_4_109_0) nl_ok) (goodRgL good_c_find7_4_110_0) nl_ok (labsOkB hC (by kernel_rfl)) (fun C' hC' => AllF.one (have hC : C'.n0 = ct_find7_4.nx := hC'.trans hC; (From.run mixed (tysOf _) fnOk c_find7_4_ct (labsOkB hC (by kernel_rfl)) (goodL good_c_find7_4_111_0) nl_ok))) rfl (by kernel_rfl) rfl ρ β a w hk ht
theorem fit_find7_5 : ct_find7_5.fit = true := by kernel_rfl
theorem c_find7_5_ct : ∀ ρ, CallOk Try.prog ρ (ctOf []) := ctOf_ok (fun _ h => absurd h List.not_mem_nil)
theorem nvr_find7_5 : fb24[3]? = some (.block 0 (.rangeFunc (.tmp 10) (rngPs fb24 3) (rngAs fb24 3) (rngBd fb24 3))) := by kernel_rfl
theorem ok_find7_5 : ct_find7_5.ok Try.prog :=
  Ctr.ok_never (x := rn_find7_5) (body := bodyOf Try.f24) (by kernel_rfl) (by kernel_rfl) (by kernel_rfl) fun ρ β w hk a ht => by
    show WPs none Try.prog fb24 _ a w
    rw [cut_at nvr_find7_5]
    have hC : (ct_find7_5.ctx ρ β w).n0 = ct_find7_5.nx := rfl
    exact range_wps (x := rn_find7_5) mixed (tysOf _) fnOk c_find7_5_ct (From.run mixed (tysOf _) fnOk c_find7_5_ct (labsOkB hC (by kernel_rfl)) (goodL good_c_find7_5_112_0) nl_ok) (goodRgL good_c_find7_5_113_0) nl_ok (labsOkB hC (by kernel_rfl)) (fun C' hC' => AllF.one (have hC : C'.n0 = ct_find7_5.nx := hC'.trans hC; (From.run mixed (tysOf _) fnOk c_find7_5_ct (labsOkB hC (by kernel_rfl)) (goodL good_c_find7_5_114_0) nl_ok))) rfl (by kernel_rfl) rfl ρ β a w hk ht
theorem fit_find7_6 : ct_find7_6.fit = true := by kernel_rfl
theorem c_find7_6_ct : ∀ ρ, CallOk Try.prog ρ (ctOf []) := ctOf_ok (fun _ h => absurd h List.not_mem_nil)
theorem nvr_find7_6 : fb24[3]? = some (.block 0 (.rangeFunc (.tmp 10) (rngPs fb24 3) (rngAs fb24 3) (rngBd fb24 3))) := by kernel_rfl
theorem ok_find7_6 : ct_find7_6.ok Try.prog :=
  Ctr.ok_never (x := rn_find7_6) (body := bodyOf Try.f24) (by kernel_rfl) (by kernel_rfl) (by kernel_rfl) fun ρ β w hk a ht => by
    show WPs none Try.prog fb24 _ a w
    rw [cut_at nvr_find7_6]
    have hC : (ct_find7_6.ctx ρ β w).n0 = ct_find7_6.nx := rfl
    exact range_wps (x := rn_find7_6) mixed (tysOf _) fnOk c_find7_6_ct (From.run mixed (tysOf _) fnOk c_find7_6_ct (labsOkB hC (by kernel_rfl)) (goodL good_c_find7_6_115_0) nl_ok) (goodRgL good_c_find7_6_116_0) nl_ok (labsOkB hC (by kernel_rfl)) (fun C' hC' => AllF.one (have hC : C'.n0 = ct_find7_6.nx := hC'.trans hC; (From.run mixed (tysOf _) fnOk c_find7_6_ct (labsOkB hC (by kernel_rfl)) (goodL good_c_find7_6_117_0) nl_ok))) rfl (by kernel_rfl) rfl ρ β a w hk ht
theorem fit_find7_7 : ct_find7_7.fit = true := by kernel_rfl
theorem c_find7_7_ct : ∀ ρ, CallOk Try.prog ρ (ctOf []) := ctOf_ok (fun _ h => absurd h List.not_mem_nil)
theorem nvr_find7_7 : fb24[3]? = some (.block 0 (.rangeFunc (.tmp 10) (rngPs fb24 3) (rngAs fb24 3) (rngBd fb24 3))) := by kernel_rfl
theorem ok_find7_7 : ct_find7_7.ok Try.prog :=
  Ctr.ok_never (x := rn_find7_7) (body := bodyOf Try.f24) (by kernel_rfl) (by kernel_rfl) (by kernel_rfl) fun ρ β w hk a ht => by
    show WPs none Try.prog fb24 _ a w
    rw [cut_at nvr_find7_7]
    have hC : (ct_find7_7.ctx ρ β w).n0 = ct_find7_7.nx := rfl
    exact range_wps (x := rn_find7_7) mixed (tysOf _) fnOk c_find7_7_ct (From.run mixed (tysOf _) fnOk c_find7_7_ct (labsOkB hC (by kernel_rfl)) (goodL good_c_find7_7_118_0) nl_ok) (goodRgL good_c_find7_7_119_0) nl_ok (labsOkB hC (by kernel_rfl)) (fun C' hC' => AllF.one (have hC : C'.n0 = ct_find7_7.nx := hC'.trans hC; (From.run mixed (tysOf _) fnOk c_find7_7_ct (labsOkB hC (by kernel_rfl)) (goodL good_c_find7_7_120_0) nl_ok))) rfl (by kernel_rfl) rfl ρ β a w hk ht
theorem fit_find8_0 : ct_find8_0.fit = true := by kernel_rfl
theorem c_find8_0_ct : ∀ ρ, CallOk Try.prog ρ (ctOf []) := ctOf_ok (fun _ h => absurd h List.not_mem_nil)
theorem nvr_find8_0 : fb24[3]? = some (.block 0 (.rangeFunc (.tmp 10) (rngPs fb24 3) (rngAs fb24 3) (rngBd fb24 3))) := by kernel_rfl
theorem ok_find8_0 : ct_find8_0.ok Try.prog :=
  Ctr.ok_never (x := rn_find8_0) (body := bodyOf Try.f24) (by kernel_rfl) (by kernel_rfl) (by kernel_rfl) fun ρ β w hk a ht => by
    show WPs none Try.prog fb24 _ a w
    rw [cut_at nvr_find8_0]
    have hC : (ct_find8_0.ctx ρ β w).n0 = ct_find8_0.nx := rfl
    exact range_wps (x := rn_find8_0) mixed (tysOf _) fnOk c_find8_0_ct (From.run mixed (tysOf _) fnOk c_find8_0_ct (labsOkB hC (by kernel_rfl)) (goodL good_c_find8_0_121_0) nl_ok) (goodRgL good_c_find8_0_122_0) nl_ok (labsOkB hC (by kernel_rfl)) (fun C' hC' => AllF.one (have hC : C'.n0 = ct_find8_0.nx := hC'.trans hC; (From.run mixed (tysOf _) fnOk c_find8_0_ct (labsOkB hC (by kernel_rfl)) (goodL good_c_find8_0_123_0) nl_ok))) rfl (by kernel_rfl) rfl ρ β a w hk ht
theorem fit_find8_1 : ct_find8_1.fit = true := by kernel_rfl
theorem c_find8_1_ct : ∀ ρ, CallOk Try.prog ρ (ctOf []) := ctOf_ok (fun _ h => absurd h List.not_mem_nil)
theorem nvr_find8_1 : fb24[3]? = some (.block 0 (.rangeFunc (.tmp 10) (rngPs fb24 3) (rngAs fb24 3) (rngBd fb24 3))) := by kernel_rfl
theorem ok_find8_1 : ct_find8_1.ok Try.prog :=
  Ctr.ok_never (x := rn_find8_1) (body := bodyOf Try.f24) (by kernel_rfl) (by kernel_rfl) (by kernel_rfl) fun ρ β w hk a ht => by
    show WPs none Try.prog fb24 _ a w
    rw [cut_at nvr_find8_1]
    have hC : (ct_find8_1.ctx ρ β w).n0 = ct_find8_1.nx := rfl
    exact range_wps (x := rn_find8_1) mixed (tysOf _) fnOk c_find8_1_ct (From.run mixed (tysOf _) fnOk c_find8_1_ct (labsOkB hC (by kernel_rfl)) (goodL good_c_find8_1_124_0) nl_ok) (goodRgL good_c_find8_1_125_0) nl_ok (labsOkB hC (by kernel_rfl)) (fun C' hC' => AllF.one (have hC : C'.n0 = ct_find8_1.nx := hC'.trans hC; (From.run mixed (tysOf _) fnOk c_find8_1_ct (labsOkB hC (by kernel_rfl)) (goodL good_c_find8_1_126_0) nl_ok))) rfl (by kernel_rfl) rfl ρ β a w hk ht
theorem fit_find8_2 : ct_find8_2.fit = true := by kernel_rfl
theorem c_find8_2_ct : ∀ ρ, CallOk Try.prog ρ (ctOf []) := ctOf_ok (fun _ h => absurd h List.not_mem_nil)
theorem nvr_find8_2 : fb24[3]? = some (.block 0 (.rangeFunc (.tmp 10) (rngPs fb24 3) (rngAs fb24 3) (rngBd fb24 3))) := by kernel_rfl
theorem ok_find8_2 : ct_find8_2.ok Try.prog :=
  Ctr.ok_never (x := rn_find8_2) (body := bodyOf Try.f24) (by kernel_rfl) (by kernel_rfl) (by kernel_rfl) fun ρ β w hk a ht => by
    show WPs none Try.prog fb24 _ a w
    rw [cut_at nvr_find8_2]
    have hC : (ct_find8_2.ctx ρ β w).n0 = ct_find8_2.nx := rfl
    exact range_wps (x := rn_find8_2) mixed (tysOf _) fnOk c_find8_2_ct (From.run mixed (tysOf _) fnOk c_find8_2_ct (labsOkB hC (by kernel_rfl)) (goodL good_c_find8_2_127_0) nl_ok) (goodRgL good_c_find8_2_128_0) nl_ok (labsOkB hC (by kernel_rfl)) (fun C' hC' => AllF.one (have hC : C'.n0 = ct_find8_2.nx := hC'.trans hC; (From.run mixed (tysOf _) fnOk c_find8_2_ct (labsOkB hC (by kernel_rfl)) (goodL good_c_find8_2_129_0) nl_ok))) rfl (by kernel_rfl) rfl ρ β a w hk ht
theorem fit_find8_3 : ct_find8_3.fit = true := by kernel_rfl
theorem c_find8_3_ct : ∀ ρ, CallOk Try.prog ρ (ctOf []) := ctOf_ok (fun _ h => absurd h List.not_mem_nil)
theorem nvr_find8_3 : fb24[3]? = some (.block 0 (.rangeFunc (.tmp 10) (rngPs fb24 3) (rngAs fb24 3) (rngBd fb24 3))) := by kernel_rfl
theorem ok_find8_3 : ct_find8_3.ok Try.prog :=
  Ctr.ok_never (x := rn_find8_3) (body := bodyOf Try.f24) (by kernel_rfl) (by kernel_rfl) (by kernel_rfl) fun ρ β w hk a ht => by
    show WPs none Try.prog fb24 _ a w
    rw [cut_at nvr_find8_3]
    have hC : (ct_find8_3.ctx ρ β w).n0 = ct_find8_3.nx := rfl
    exact range_wps (x := rn_find8_3) mixed (tysOf _) fnOk c_find8_3_ct (From.run mixed (tysOf _) fnOk c_find8_3_ct (labsOkB hC (by kernel_rfl)) (goodL good_c_find8_3_130_0) nl_ok) (goodRgL good_c_find8_3_131_0) nl_ok (labsOkB hC (by kernel_rfl)) (fun C' hC' => AllF.one (have hC : C'.n0 = ct_find8_3.nx := hC'.trans hC; (From.run mixed (tysOf _) fnOk c_find8_3_ct (labsOkB hC (by kernel_rfl)) (goodL good_c_find8_3_132_0) nl_ok))) rfl (by kernel_rfl) rfl ρ β a w hk ht
theorem fit_find8_4 : ct_find8_4.fit = true := by kernel_rfl
theorem c_find8_4_ct : ∀ ρ, CallOk Try.prog ρ (ctOf []) := ctOf_ok (fun _ h => absurd h List.not_mem_nil)
theorem nvr_find8_4 : fb24[3]? = some (.block 0 (.rangeFunc (.tmp 10) (rngPs fb24 3) (rngAs fb24 3) (rngBd fb24 3))) := by kernel_rfl
theorem ok_find8_4 : ct_find8_4.ok Try.prog :=
  Ctr.ok_never (x := rn_find8_4) (body := bodyOf Try.f24) (by kernel_rfl) (by kernel_rfl) (by kernel_rfl) fun ρ β w hk a ht => by
    show WPs none Try.prog fb24 _ a w
    rw [cut_at nvr_find8_4]
    have hC : (ct_find8_4.ctx ρ β w).n0 = ct_find8_4.nx := rfl
    exact range_wps (x := rn_find8_4) mixed (tysOf _) fnOk c_find8_4_ct (From.run mixed (tysOf _) fnOk c_find8_4_ct (labsOkB hC (by kernel_rfl)) (goodL good_c_find8_4_133_0) nl_ok) (goodRgL good_c_find8_4_134_0) nl_ok (labsOkB hC (by kernel_rfl)) (fun C' hC' => AllF.one (have hC : C'.n0 = ct_find8_4.nx := hC'.trans hC; (From.run mixed (tysOf _) fnOk c_find8_4_ct (labsOkB hC (by kernel_rfl)) (goodL good_c_find8_4_135_0) nl_ok))) rfl (by kernel_rfl) rfl ρ β a w hk ht
theorem fit_find8_5 : ct_find8_5.fit = true := by kernel_rfl
theorem c_find8_5_ct : ∀ ρ, CallOk Try.prog ρ (ctOf []) := ctOf_ok (fun _ h => absurd h List.not_mem_nil)
theorem nvr_find8_5 : fb24[3]? = some (.block 0 (.rangeFunc (.tmp 10) (rngPs fb24 3) (rngAs fb24 3) (rngBd fb24 3))) := by kernel_rfl
theorem ok_find8_5 : ct_find8_5.ok Try.prog :=
  Ctr.ok_never (x := rn_find8_5) (body := bodyOf Try.f24) (by kernel_rfl) (by kernel_rfl) (by kernel_rfl) fun ρ β w hk a ht => by
    show WPs none Try.prog fb24 _ a w
    rw [cut_at nvr_find8_5]
    have hC : (ct_find8_5.ctx ρ β w).n0 = ct_find8_5.nx := rfl
    exact range_wps (x := rn_find8_5) mixed (tysOf _) fnOk c_find8_5_ct (From.run mixed (tysOf _) fnOk c_find8_5_ct (labsOkB hC (by kernel_rfl)) (goodL good_c_find8_5_136_0) nl_ok) (goodRgL good_c_find8_5_137_0) nl_ok (labsOkB hC (by kernel_rfl)) (fun C' hC' => AllF.one (have hC : C'.n0 = ct_find8_5.nx := hC'.trans hC; (From.run mixed (tysOf _) fnOk c_find8_5_ct (labsOkB hC (by kernel_rfl)) (goodL good_c_find8_5_138_0) nl_ok))) rfl (by kernel_rfl) rfl ρ β a w hk ht
theorem fit_find8_6 : ct_find8_6.fit = true := by kernel_rfl
theorem c_find8_6_ct : ∀ ρ, CallOk Try.prog ρ (ctOf []) := ctOf_ok (fun _ h => absurd h List.not_mem_nil)
theorem nvr_find8_6 : fb24[3]? = some (.block 0 (.rangeFunc (.tmp 10) (rngPs fb24 3) (rngAs fb24 3) (rngBd fb24 3))) := by kernel_rfl
theorem ok_find8_6 : ct_find8_6.ok Try.prog :=
  Ctr.ok_never (x := rn_find8_6) (body := bodyOf Try.f24) (by kernel_rfl) (by kernel_rfl) (by kernel_rfl) fun ρ β w hk a ht => by
    show WPs none Try.prog fb24 _ a w
    rw [cut_at nvr_find8_6]
    have hC : (ct_find8_6.ctx ρ β w).n0 = ct_find8_6.nx := rfl
    exact range_wps (x := rn_find8_6) mixed (tysOf _) fnOk c_find8_6_ct (From.run mixed (tysOf _) fnOk c_find8_6_ct (labsOkB hC (by kernel_rfl)) (goodL good_c_find8_6_139_0) nl_ok) (goodRgL good_c_find8_6_140_0) nl_ok (labsOkB hC (by kernel_rfl)) (fun C' hC' => AllF.one (have hC : C'.n0 = ct_find8_6.nx := hC'.trans hC; (From.run mixed (tysOf _) fnOk c_find8_6_ct (labsOkB hC (by kernel_rfl)) (goodL good_c_find8_6_141_0) nl_ok))) rfl (by kernel_rfl) rfl ρ β a w hk ht
theorem fit_find8_7 : ct_find8_7.fit = true := by kernel_rfl
theorem c_find8_7_ct : ∀ ρ, CallOk Try.prog ρ (ctOf []) := ctOf_ok (fun _ h => absurd h List.not_mem_nil)
theorem nvr_find8_7 : fb24[3]? = some (.block 0 (.rangeFunc (.tmp 10) (rngPs fb24 3) (rngAs fb24 3) (rngBd fb24 3))) := by kernel_rfl
theorem ok_find8_7 : ct_find8_7.ok Try.prog :=
  Ctr.ok_never (x := rn_find8_7) (body := bodyOf Try.f24) (by kernel_rfl) (by kernel_rfl) (by kernel_rfl) fun ρ β w hk a ht => by
    show WPs none Try.prog fb24 _ a w
    rw [cut_at nvr_find8_7]
    have hC : (ct_find8_7.ctx ρ β w).n0 = ct_find8_7.nx := rfl
    exact range_wps (x := rn_find8_7) mixed (tysOf _) fnOk c_find8_7_ct (From.run mixed (tysOf _) fnOk c_find8_7_ct (labsOkB hC (by kernel_rfl)) (goodL good_c_find8_7_142_0) nl_ok) (goodRgL good_c_find8_7_143_0) nl_ok (labsOkB hC (by kernel_rfl)) (fun C' hC' => AllF.one (have hC : C'.n0 = ct_find8_7.nx := hC'.trans hC; (From.run mixed (tysOf _) fnOk c_find8_7_ct (labsOkB hC (by kernel_rfl)) (goodL good_c_find8_7_144_0) nl_ok))) rfl (by kernel_rfl) rfl ρ β a w hk ht
theorem fit_find8_8 : ct_find8_8.fit = true := by kernel_rfl
theorem c_find8_8_ct : ∀ ρ, CallOk Try.prog ρ (ctOf []) := ctOf_ok (fun _ h => absurd h List.not_mem_nil)
theorem nvr_find8_8 : fb24[3]? = some (.block 0 (.rangeFunc (.tmp 10) (rngPs fb24 3) (rngAs fb24 3) (rngBd fb24 3))) := by kernel_rfl
theorem ok_find8_8 : ct_find8_8.ok Try.prog :=
  Ctr.ok_never (x := rn_find8_8) (body := bodyOf Try.f24) (by kernel_rfl) (by kernel_rfl) (by kernel_rfl) fun ρ β w hk a ht => by
    show WPs none Try.prog fb24 _ a w
    rw [cut_at nvr_find8_8]
    have hC : (ct_find8_8.ctx ρ β w).n0 = ct_find8_8.nx := rfl
    exact range_wps (x := rn_find8_8) mixed (tysOf _) fnOk c_find8_8_ct (From.run mixed (tysOf _) fnOk c_find8_8_ct (labsOkB hC (by kernel_rfl)) (goodL good_c_find8_8_145_0) nl_ok) (goodRgL good_c_find8_8_146_0) nl_ok (labsOkB hC (by kernel_rfl)) (fun C' hC' => AllF.one (have hC : C'.n0 = ct_find8_8.nx := hC'.trans hC; (From.run mixed (tysOf _) fnOk c_find8_8_ct (labsOkB hC (by kernel_rfl)) (goodL good_c_find8_8_147_0) nl_ok))) rfl (by kernel_rfl) rfl ρ β a w hk ht
theorem fit_told0 : ct_told0.fit = true := by kernel_rfl
theorem c_told0_ct : ∀ ρ, CallOk Try.prog ρ (ctOf [ct_spoil, ct_find0_0]) := ctOf_ok (by
  simp only [List.forall_mem_cons]
  exact ⟨⟨fit_spoil, ok_spoil⟩, ⟨fit_find0_0, ok_find0_0⟩, fun _ h => absurd h List.not_mem_nil⟩)
theorem nvr_told0 : fb23[17]? = some (.block 2 (.rangeFunc (.tmp 110) (rngPs fb23 17) (rngAs fb23 17) (rngBd fb23 17))) := by kernel_rfl
theorem ok_told0 : ct_told0.ok Try.prog :=
  Ctr.ok_never (x := rn_told0) (body := bodyOf Try.f23) (by kernel_rfl) (by kernel_rfl) (by kernel_rfl) fun ρ β w hk a ht => by
    show WPs none Try.prog fb23 _ a w
    rw [cut_at nvr_told0]
    have hC : (ct_told0.ctx ρ β w).n0 = ct_told0.nx := rfl
    exact range_wps (x := rn_told0) mixed (tysOf _) fnOk c_told0_ct (From.run mixed (tysOf _) fnOk c_told0_ct (labsOkB hC (by kernel_rfl)) (goodL good_c_told0_148_0) nl_ok) (goodRgL good_c_told0_149_0) nl_ok (labsOkB hC (by kernel_rfl)) (fun C' hC' => AllF.one (have hC : C'.n0 = ct_told0.nx := hC'.trans hC; (From.run mixed (tysOf _) fnOk c_told0_ct (labsOkB hC (by kernel_rfl)) (goodL good_c_told0_150_0) nl_ok))) rfl (by kernel_rfl) rfl ρ β a w hk ht
theorem fit_told1 : ct_told1.fit = true := by kernel_rfl
theorem c_told1_ct : ∀ ρ, CallOk Try.prog ρ (ctOf [ct_spoil, ct_find1_0, ct_find1_1]) := ctOf_ok (by
  simp only [List.forall_mem_cons]
  exact ⟨⟨fit_spoil, ok_spoil⟩, ⟨fit_find1_0, ok_find1_0⟩, ⟨fit_find1_1, ok_find1_1⟩, fun _ h => absurd h List.not_mem_nil⟩)
theorem nvr_told1 : fb23[17]? = some (.block 2 (.rangeFunc (.tmp 110) (rngPs fb23 17) (rngAs fb23 17) (rngBd fb23 17))) := by kernel_rfl
theorem ok_told1 : ct_told1.ok Try.prog :=
  Ctr.ok_never (x := rn_told1) (body := bodyOf Try.f23) (by kernel_rfl) (by kernel_rfl) (by kernel_rfl) fun ρ β w hk a ht => by
    show WPs none Try.prog fb23 _ a w
    rw [cut_at nvr_told1]
    have hC : (ct_told1.ctx ρ β w).n0 = ct_told1.nx := rfl
    exact range_wps (x := rn_told1) mixed (tysOf _) fnOk c_told1_ct (From.run mixed (tysOf _) fnOk c_told1_ct (labsOkB hC (by kernel_rfl)) good_c_told1_151 nl_ok) (goodRgL good_c_told1_152_0) nl_ok (labsOkB hC (by kernel_rfl)) (fun C' hC' => AllF.one (have hC : C'.n0 = ct_told1.nx := hC'.trans hC; (From.run mixed (tysOf _) fnOk c_told1_ct (labsOkB hC (by kernel_rfl)) (goodL good_c_told1_153_0) nl_ok))) rfl (by kernel_rfl) rfl ρ β a w hk ht
theorem fit_told2 : ct_told2.fit = true := by kernel_rfl
theorem c_told2_ct : ∀ ρ, CallOk Try.prog ρ (ctOf [ct_spoil, ct_find2_0, ct_find2_1, ct_find2_2]) := ctOf_ok (by
  simp only [List.forall_mem_cons]
  exact ⟨⟨fit_spoil, ok_spoil⟩, ⟨fit_find2_0, ok_find2_0⟩, ⟨fit_find2_1, ok_find2_1⟩, ⟨fit_find2_2, ok_find2_2⟩, fun _ h => absurd h List.not_mem_nil⟩)
theorem nvr_told2 : fb23[17]? = some (.block 2 (.rangeFunc (.tmp 110) (rngPs fb23 17) (rngAs fb23 17) (rngBd fb23 17))) := by kernel_rfl
theorem ok_told2 : ct_told2.ok Try.prog :=
  Ctr.ok_never (x := rn_told2) (body := bodyOf Try.f23) (by kernel_rfl) (by kernel_rfl) (by kernel_rfl) fun ρ β w hk a ht => by
    show WPs none Try.prog fb23 _ a w
    rw [cut_at nvr_told2]
    have hC : (ct_told2.ctx ρ β w).n0 = ct_told2.nx := rfl
    exact range_wps (x := rn_told2) mixed (tysOf _) fnOk c_told2_ct (From.run mixed (tysOf _) fnOk c_told2_ct (labsOkB hC (by kernel_rfl)) good_c_told2_154 nl_ok) (goodRgL good_c_told2_155_0) nl_ok (labsOkB hC (by kernel_rfl)) (fun C' hC' => AllF.one (have hC : C'.n0 = ct_told2.nx := hC'.trans hC; (From.run mixed (tysOf _) fnOk c_told2_ct (labsOkB hC (by kernel_rfl)) (goodL good_c_told2_156_0) nl_ok))) rfl (by kernel_rfl) rfl ρ β a w hk ht
theorem fit_told3 : ct_told3.fit = true := by kernel_rfl
theorem c_told3_ct : ∀ ρ, CallOk Try.prog ρ (ctOf [ct_spoil, ct_find3_0, ct_find3_1, ct_find3_2, ct_find3_3]) := ctOf_ok (by
  simp only [List.forall_mem_cons]
  exact ⟨⟨fit_spoil, ok_spoil⟩, ⟨fit_find3_0, ok_find3_0⟩, ⟨fit_find3_1, ok_find3_1⟩, ⟨fit_find3_2, ok_find3_2⟩, ⟨fit_find3_3, ok_find3_3⟩, fun _ h => absurd h List.not_mem_nil⟩)
theorem nvr_told3 : fb23[17]? = some (.block 2 (.rangeFunc (.tmp 110) (rngPs fb23 17) (rngAs fb23 17) (rngBd fb23 17))) := by kernel_rfl
theorem ok_told3 : ct_told3.ok Try.prog :=
  Ctr.ok_never (x := rn_told3) (body := bodyOf Try.f23) (by kernel_rfl) (by kernel_rfl) (by kernel_rfl) fun ρ β w hk a ht => by
    show WPs none Try.prog fb23 _ a w
    rw [cut_at nvr_told3]
    have hC : (ct_told3.ctx ρ β w).n0 = ct_told3.nx := rfl
    exact range_wps (x := rn_told3) mixed (tysOf _) fnOk c_told3_ct (From.run mixed (tysOf _) fnOk c_told3_ct (labsOkB hC (by kernel_rfl)) good_c_told3_157 nl_ok) (goodRgL good_c_told3_158_0) nl_ok (labsOkB hC (by kernel_rfl)) (fun C' hC' => AllF.one (have hC : C'.n0 = ct_told3.nx := hC'.trans hC; (From.run mixed (tysOf _) fnOk c_told3_ct (labsOkB hC (by kernel_rfl)) (goodL good_c_told3_159_0) nl_ok))) rfl (by kernel_rfl) rfl ρ β a w hk ht
theorem fit_told4 : ct_told4.fit = true := by kernel_rfl
theorem c_told4_ct : ∀ ρ, CallOk Try.prog ρ (ctOf [ct_spoil, ct_find4_0, ct_find4_1, ct_find4_2, ct_find4_3, ct_find4_4]) := ctOf_ok (by
  simp only [List.forall_mem_cons]
  exact ⟨⟨fit_spoil, ok_spoil⟩, ⟨fit_find4_0, ok_find4_0⟩, ⟨fit_find4_1, ok_find4_1⟩, ⟨fit_find4_2, ok_find4_2⟩, ⟨fit_find4_3, ok_find4_3⟩, ⟨fit_find4_4, ok_find4_4⟩, fun _ h => absurd h List.not_mem_nil⟩)
theorem nvr_told4 : fb23[17]? = some (.block 2 (.rangeFunc (.tmp 110) (rngPs fb23 17) (rngAs fb23 17) (rngBd fb23 17))) := by kernel_rfl
theorem ok_told4 : ct_told4.ok Try.prog :=
  Ctr.ok_never (x := rn_told4) (body := bodyOf Try.f23) (by kernel_rfl) (by kernel_rfl) (by kernel_rfl) fun ρ β w hk a ht => by
    show WPs none Try.prog fb23 _ a w
    rw [cut_at nvr_told4]
    have hC : (ct_told4.ctx ρ β w).n0 = ct_told4.nx := rfl
    exact range_wps (x := rn_told4) mixed (tysOf _) fnOk c_told4_ct (From.run mixed (tysOf _) fnOk c_told4_ct (labsOkB hC (by kernel_rfl)) good_c_told4_160 nl_ok) (goodRgL good_c_told4_161_0) nl_ok (labsOkB hC (by kernel_rfl)) (fun C' hC' => AllF.one (have hC : C'.n0 = ct_told4.nx := hC'.trans hC; (From.run mixed (tysOf _) fnOk c_told4_ct (labsOkB hC (by kernel_rfl)) (goodL good_c_told4_162_0) nl_ok))) rfl (by kernel_rfl) rfl ρ β a w hk ht
theorem fit_told5 : ct_told5.fit = true := by kernel_rfl
theorem c_told5_ct : ∀ ρ, CallOk Try.prog ρ (ctOf [ct_spoil, ct_find5_0, ct_find5_1, ct_find5_2, ct_find5_3, ct_find5_4, ct_find5_5]) := ctOf_ok (by
  simp only [List.forall_mem_cons]
  exact ⟨⟨fit_spoil, ok_spoil⟩, ⟨fit_find5_0, ok_find5_0⟩, ⟨fit_find5_1, ok_find5_1⟩, ⟨fit_find5_2, ok_find5_2⟩, ⟨fit_find5_3, ok_find5_3⟩, ⟨fit_find5_4, ok_find5_4⟩, ⟨fit_find5_5, ok_find5_5⟩, fun _ h => absurd h List.not_mem_nil⟩)
theorem nvr_told5 : fb23[17]? = some (.block 2 (.rangeFunc (.tmp 110) (rngPs fb23 17) (rngAs fb23 17) (rngBd fb23 17))) := by kernel_rfl
theorem ok_told5 : ct_told5.ok Try.prog :=
  Ctr.ok_never (x := rn_told5) (body := bodyOf Try.f23) (by kernel_rfl) (by kernel_rfl) (by kernel_rfl) fun ρ β w hk a ht => by
    show WPs none Try.prog fb23 _ a w
    rw [cut_at nvr_told5]
    have hC : (ct_told5.ctx ρ β w).n0 = ct_told5.nx := rfl
    exact range_wps (x := rn_told5) mixed (tysOf _) fnOk c_told5_ct (From.run mixed (tysOf _) fnOk c_told5_ct (labsOkB hC (by kernel_rfl)) good_c_told5_163 nl_ok) (goodRgL good_c_told5_164_0) nl_ok (labsOkB hC (by kernel_rfl)) (fun C' hC' => AllF.one (have hC : C'.n0 = ct_told5.nx := hC'.trans hC; (From.run mixed (tysOf _) fnOk c_told5_ct (labsOkB hC (by kernel_rfl)) (goodL good_c_told5_165_0) nl_ok))) rfl (by kernel_rfl) rfl ρ β a w hk ht
theorem fit_told6 : ct_told6.fit = true := by kernel_rfl
theorem c_told6_ct : ∀ ρ, CallOk Try.prog ρ (ctOf [ct_spoil, ct_find6_0, ct_find6_1, ct_find6_2, ct_find6_3, ct_find6_4, ct_find6_5, ct_find6_6]) := ctOf_ok (by
  simp only [List.forall_mem_cons]
  exact ⟨⟨fit_spoil, ok_spoil⟩, ⟨fit_find6_0, ok_find6_0⟩, ⟨fit_find6_1, ok_find6_1⟩, ⟨fit_find6_2, ok_find6_2⟩, ⟨fit_find6_3, ok_find6_3⟩, ⟨fit_find6_4, ok_find6_4⟩, ⟨fit_find6_5, ok_find6_5⟩, ⟨fit_find6_6, ok_find6_6⟩, fun _ h => absurd h List.not_mem_nil⟩)
theorem nvr_told6 : fb23[17]? = some (.block 2 (.rangeFunc (.tmp 110) (rngPs fb23 17) (rngAs fb23 17) (rngBd fb23 17))) := by kernel_rfl
theorem ok_told6 : ct_told6.ok Try.prog :=
  Ctr.ok_never (x := rn_told6) (body := bodyOf Try.f23) (by kernel_rfl) (by kernel_rfl) (by kernel_rfl) fun ρ β w hk a ht => by
    show WPs none Try.prog fb23 _ a w
    rw [cut_at nvr_told6]
    have hC : (ct_told6.ctx ρ β w).n0 = ct_told6.nx := rfl
    exact range_wps (x := rn_told6) mixed (tysOf _) fnOk c_told6_ct (From.run mixed (tysOf _) fnOk c_told6_ct (labsOkB hC (by kernel_rfl)) good_c_told6_166 nl_ok) (goodRgL good_c_told6_167_0) nl_ok (labsOkB hC (by kernel_rfl)) (fun C' hC' => AllF.one (have hC : C'.n0 = ct_told6.nx := hC'.trans hC; (From.run mixed (tysOf _) fnOk c_told6_ct (labsOkB hC (by kernel_rfl)) (goodL good_c_told6_168_0) nl_ok))) rfl (by kernel_rfl) rfl ρ β a w hk ht
theorem fit_told7 : ct_told7.fit = true := by kernel_rfl
theorem c_told7_ct : ∀ ρ, CallOk Try.prog ρ (ctOf [ct_spoil, ct_find7_0, ct_find7_1, ct_find7_2, ct_find7_3, ct_find7_4, ct_find7_5, ct_find7_6, ct_find7_7]) := ctOf_ok (by
  simp only [List.forall_mem_cons]
  exact ⟨⟨fit_spoil, ok_spoil⟩, ⟨fit_find7_0, ok_find7_0⟩, ⟨fit_find7_1, ok_find7_1⟩, ⟨fit_find7_2, ok_find7_2⟩, ⟨fit_find7_3, ok_find7_3⟩, ⟨fit_find7_4, ok_find7_4⟩, ⟨fit_find7_5, ok_find7_5⟩, ⟨fit_find7_6, ok_find7_6⟩, ⟨fit_find7_7, ok_find7_7⟩, fun _ h => absurd h List.not_mem_nil⟩)
theorem nvr_told7 : fb23[17]? = some (.block 2 (.rangeFunc (.tmp 110) (rngPs fb23 17) (rngAs fb23 17) (rngBd fb23 17))) := by kernel_rfl
theorem ok_told7 : ct_told7.ok Try.prog :=
  Ctr.ok_never (x := rn_told7) (body := bodyOf Try.f23) (by kernel_rfl) (by kernel_rfl) (by kernel_rfl) fun ρ β w hk a ht => by
    show WPs none Try.prog fb23 _ a w
    rw [cut_at nvr_told7]
    have hC : (ct_told7.ctx ρ β w).n0 = ct_told7.nx := rfl
    exact range_wps (x := rn_told7) mixed (tysOf _) fnOk c_told7_ct (From.run mixed (tysOf _) fnOk c_told7_ct (labsOkB hC (by kernel_rfl)) good_c_told7_169 nl_ok) (goodRgL good_c_told7_170_0) nl_ok (labsOkB hC (by kernel_rfl)) (fun C' hC' => AllF.one (have hC : C'.n0 = ct_told7.nx := hC'.trans hC; (From.run mixed (tysOf _) fnOk c_told7_ct (labsOkB hC (by kernel_rfl)) (goodL good_c_told7_171_0) nl_ok))) rfl (by kernel_rfl) rfl ρ β a w hk ht
theorem fit_told8 : ct_told8.fit = true := by kernel_rfl
theorem c_told8_ct : ∀ ρ, CallOk Try.prog ρ (ctOf [ct_spoil, ct_find8_0, ct_find8_1, ct_find8_2, ct_find8_3, ct_find8_4, ct_find8_5, ct_find8_6, ct_find8_7, ct_find8_8]) := ctOf_ok (by
  simp only [List.forall_mem_cons]
  exact ⟨⟨fit_spoil, ok_spoil⟩, ⟨fit_find8_0, ok_find8_0⟩, ⟨fit_find8_1, ok_find8_1⟩, ⟨fit_find8_2, ok_find8_2⟩, ⟨fit_find8_3, ok_find8_3⟩, ⟨fit_find8_4, ok_find8_4⟩, ⟨fit_find8_5, ok_find8_5⟩, ⟨fit_find8_6, ok_find8_6⟩, ⟨fit_find8_7, ok_find8_7⟩, ⟨fit_find8_8, ok_find8_8⟩, fun _ h => absurd h List.not_mem_nil⟩)
theorem nvr_told8 : fb23[17]? = some (.block 2 (.rangeFunc (.tmp 110) (rngPs fb23 17) (rngAs fb23 17) (rngBd fb23 17))) := by kernel_rfl
theorem ok_told8 : ct_told8.ok Try.prog :=
  Ctr.ok_never (x := rn_told8) (body := bodyOf Try.f23) (by kernel_rfl) (by kernel_rfl) (by kernel_rfl) fun ρ β w hk a ht => by
    show WPs none Try.prog fb23 _ a w
    rw [cut_at nvr_told8]
    have hC : (ct_told8.ctx ρ β w).n0 = ct_told8.nx := rfl
    exact range_wps (x := rn_told8) mixed (tysOf _) fnOk c_told8_ct (From.run mixed (tysOf _) fnOk c_told8_ct (labsOkB hC (by kernel_rfl)) good_c_told8_172 nl_ok) (goodRgL good_c_told8_173_0) nl_ok (labsOkB hC (by kernel_rfl)) (fun C' hC' => AllF.one (have hC : C'.n0 = ct_told8.nx := hC'.trans hC; (From.run mixed (tysOf _) fnOk c_told8_ct (labsOkB hC (by kernel_rfl)) (goodL good_c_told8_174_0) nl_ok))) rfl (by kernel_rfl) rfl ρ β a w hk ht
theorem l0_ct : ∀ ρ, CallOk Try.prog ρ (ctOf [ct_lineG, ct_lineB, ct_own64, ct_own63, ct_kept64, ct_kept63, ct_awake, ct_spoilU, ct_told0, ct_told1, ct_told2, ct_told3, ct_told4, ct_told5, ct_told6, ct_told7, ct_told8]) := ctOf_ok (by
  simp only [List.forall_mem_cons]
  exact ⟨⟨fit_lineG, ok_lineG⟩, ⟨fit_lineB, ok_lineB⟩, ⟨fit_own64, ok_own64⟩, ⟨fit_own63, ok_own63⟩, ⟨fit_kept64, ok_kept64⟩, ⟨fit_kept63, ok_kept63⟩, ⟨fit_awake, ok_awake⟩, ⟨fit_spoilU, ok_spoilU⟩, ⟨fit_told0, ok_told0⟩, ⟨fit_told1, ok_told1⟩, ⟨fit_told2, ok_told2⟩, ⟨fit_told3, ok_told3⟩, ⟨fit_told4, ok_told4⟩, ⟨fit_told5, ok_told5⟩, ⟨fit_told6, ok_told6⟩, ⟨fit_told7, ok_told7⟩, ⟨fit_told8, ok_told8⟩, fun _ h => absurd h List.not_mem_nil⟩)
theorem hsym0 : symArgsT Try.prog Try.f5.params.toList 0 0 [false, true] = some (xs0, hs0, facts0, 3, 1) := by kernel_rfl
theorem run0 {C : Ctx} (hC : C.n0 = 0) : From Try.prog rnL C st0 facts0 (flat (bodyOf Try.f5)) none [] :=
  (From.run mixed (tysOf _) fnOk l0_ct (labsOkB hC (by kernel_rfl)) (goodL good_l0_175_0) nl_ok)
theorem l1_ct : ∀ ρ, CallOk Try.prog ρ (ctOf [ct_lineG, ct_lineB, ct_own64, ct_own63, ct_kept64, ct_kept63, ct_awake, ct_spoilU, ct_told0, ct_told1, ct_told2, ct_told3, ct_told4, ct_told5, ct_told6, ct_told7, ct_told8]) := ctOf_ok (by
  simp only [List.forall_mem_cons]
  exact ⟨⟨fit_lineG, ok_lineG⟩, ⟨fit_lineB, ok_lineB⟩, ⟨fit_own64, ok_own64⟩, ⟨fit_own63, ok_own63⟩, ⟨fit_kept64, ok_kept64⟩, ⟨fit_kept63, ok_kept63⟩, ⟨fit_awake, ok_awake⟩, ⟨fit_spoilU, ok_spoilU⟩, ⟨fit_told0, ok_told0⟩, ⟨fit_told1, ok_told1⟩, ⟨fit_told2, ok_told2⟩, ⟨fit_told3, ok_told3⟩, ⟨fit_told4, ok_told4⟩, ⟨fit_told5, ok_told5⟩, ⟨fit_told6, ok_told6⟩, ⟨fit_told7, ok_told7⟩, ⟨fit_told8, ok_told8⟩, fun _ h => absurd h List.not_mem_nil⟩)
theorem hsym1 : symArgsT Try.prog Try.f5.params.toList 0 0 [false, false] = some (xs1, hs1, facts1, 3, 1) := by kernel_rfl
theorem run1 {C : Ctx} (hC : C.n0 = 0) : From Try.prog rnL C st1 facts1 (flat (bodyOf Try.f5)) none [] :=
  (From.cut (i := 8) hl2 (From.run mixed (tysOf _) fnOk l1_ct (labsOkB hC (by kernel_rfl)) (goodL good_l1_176_0) nl_ok) (From.loop (c := 101) (B := 201) (cs := []) (g := ⟨T0, F0, [(101, some 201)], fam⟩) (g0 := ⟨T0, F0, [], fam⟩) rfl rfl (AllF.cons (From.run mixed (tysOf _) fnOk l1_ct (labsOkB hC (by kernel_rfl)) good_l1_177 nl_ok) (AllF.cons (From.run mixed (tysOf _) fnOk l1_ct (labsOkB hC (by kernel_rfl)) good_l1_178 nl_ok) (AllF.cons (From.run mixed (tysOf _) fnOk l1_ct (labsOkB hC (by kernel_rfl)) good_l1_179 nl_ok) (AllF.cons (From.run mixed (tysOf _) fnOk l1_ct (labsOkB hC (by kernel_rfl)) good_l1_180 nl_ok) (AllF.cons (From.run mixed (tysOf _) fnOk l1_ct (labsOkB hC (by kernel_rfl)) good_l1_181 nl_ok) (AllF.cons (From.run mixed (tysOf _) fnOk l1_ct (labsOkB hC (by kernel_rfl)) good_l1_182 nl_ok) (AllF.cons (From.run mixed (tysOf _) fnOk l1_ct (labsOkB hC (by kernel_rfl)) good_l1_183 nl_ok) (AllF.cons (From.run mixed (tysOf _) fnOk l1_ct (labsOkB hC (by kernel_rfl)) good_l1_184 nl_ok) (AllF.one (From.run mixed (tysOf _) fnOk l1_ct (labsOkB hC (by kernel_rfl)) good_l1_185 nl_ok)))))))))) (by simp) (by simp [tgtOf])) (AllF.one (From.run mixed (tysOf _) fnOk l1_ct (labsOkB hC (by kernel_rfl)) (goodL good_l1_186_0) nl_ok)) (c := []) rfl rfl (by simp) (by simp [tgtOf]))

theorem post_end {C : Ctx} {ρ : Env} {e : Exit} {a : Act} {w : World} (h : Post Try.prog rnL C ρ none [] e a w) : EndAt Try.prog Try.f5 C none e a w := by
  cases e with
  | normal => exact h
  | ret => exact h
  | exit b => exact h.elim
  | panic ch => exact h.elim
  | outgrown => exact h.elim
  | goto l => exact h.elim
theorem walk : ∀ fl ∈ flagsAll Try.prog Try.f5.params.toList, ∃ xs hs k m q, symArgsT Try.prog Try.f5.params.toList 0 0 fl = some (xs, hs, k, m, q) ∧ ∀ ρ : Env, (∀ g ∈ k, Fact.holds ρ g) →
    ∀ (β : Lab) (W : World) (a : Act), TS (Ctx.law W β ρ) ρ β Try.f5.ntmps ⟨argSlots xs 0 .nil, putSets .leaf hs, q, []⟩ a W → WPs none Try.prog (Sx.flat (bodyOf Try.f5)) (EndAt Try.prog Try.f5 (Ctx.law W β ρ) none) a W := by
  intro fl hfl
  rw [hfls] at hfl
  simp only [List.mem_cons, List.not_mem_nil, or_false] at hfl
  rcases hfl with rfl | rfl
  · exact ⟨xs0, hs0, facts0, 3, 1, hsym0, fun ρ hk β W a hs => (run0 (C := Ctx.law W β ρ) rfl ρ β a W hk hs).mono fun e a w he => post_end he⟩
  · exact ⟨xs1, hs1, facts1, 3, 1, hsym1, fun ρ hk β W a hs => (run1 (C := Ctx.law W β ρ) rfl ρ β a W hk hs).mono fun e a w he => post_end he⟩
theorem lifted (os : Os) (started : os.Started) (H : Type) (enc : TypeId × Value → H) :
    ReturnsInHanded {} Try.checked os 5 .any (Rows.bufferPlaysSpec.pre6 enc Try.prog Try.f5 Rows.bufferPlaysRow.domain false) (Rows.bufferPlaysSpec.post enc Try.prog Try.f5 false true false false) := by
  refine returnsInHanded_of_change_sized (C := Try.checked) own started (by kernel_rfl) Try.func5
    (ChangeSpec.witness6 (enc := enc) (C := Try.checked) false ⟨#[], zeros Try.prog Try.f5.params.toList, []⟩ 16 (by kernel_rfl) (by kernel_rfl) (by kernel_rfl) (by kernel_rfl)) ?_
  intro W base args ds gs before hval0 hW hcnd hwt0 _
  have hval : ∀ (j : Nat) t v, Try.f5.params[j]? = some t → args[j]? = some v → Value.okWide Try.prog W .any base t v := hval0
  have hW' := hW
  have hlt := hW.lt
  obtain ⟨p, q, hA0, hV, rfl, hfz, hnd⟩ := hW
  have hA : DataW.TrodAll enc Try.prog W 0 (fun _ => true) true Try.f5.params.toList args.toList ds p := hA0
  obtain ⟨rfl, rfl⟩ := trodVars_none hV
  have hwt1 : (DataW.weightsEach Try.prog (Try.f5.params.toList ++ Rows.bufferPlaysSpec.plain.varTypes Try.prog) (ds ++ [])).all (· ≤ reachBytes) = true := hwt0
  have hvt : Rows.bufferPlaysSpec.plain.varTypes Try.prog = [] := by kernel_rfl
  rw [hvt, List.append_nil, List.append_nil] at hwt1
  have hwt : ∀ x ∈ DataW.weightsEach Try.prog Try.f5.params.toList ds, x ≤ reachBytes := fun x hx => by simpa using List.all_eq_true.1 hwt1 x hx
  have hlen := trodAll_length hA
  have hsz : args.size = Try.f5.params.toList.length := by simpa using hlen.1
  have hd : ds.length = 2 := hlen.2.trans (by kernel_rfl)
  refine (law_TST hfunc hbody walk hsz (fun j t v ht hv => hval j t v (by simpa using ht) hv) hA hwt).mono fun e W' ⟨he, hk⟩ => ?_
  obtain ⟨d0, d1, rfl⟩ : ∃ d0 d1, ds = [d0, d1] := by
    match ds, hd with
    | [d0, d1], _ => exact ⟨d0, d1, rfl⟩
  subst he
  have hb : Value.okWide Try.prog W' .any 0 4 (.bool true) := okWide_bool_mk bool_ _
  refine ⟨_, rfl, post_of_same (pa := p) (pv := []) hW' (fun _ _ _ => ?_) (fun sp hsp => args_again kids full (of_decide_eq_true (by kernel_rfl)) hA hk.old (fun x hx => hlt x (by simpa using hx)) sp (fun x hx => hsp x (by simpa using hx))) (fun _ _ => rfl) rfl
    (hk.grown.frame _) hk.grown.2.1 (ok_one rets rfl hb)⟩
  rw [rets]
  exact trodAll_cons_mk (shut_bool bool_ _) trodAll_mk0

theorem over : Rows.bufferPlaysRow.holds Try.pinned (OpenSpec.ofChange Rows.bufferPlaysSpec) :=
  OpenClaim.holds_of_wide 5 Try.f5 rfl rfl rfl rfl rfl rfl rfl ⟨rfl, rfl, rfl, rfl, rfl⟩ rfl rfl rfl rfl rfl (by kernel_rfl) Try.func5 (by kernel_rfl)
    (of_decide_eq_true (by kernel_rfl)) (by unfold Func.isWrapper; first | (rw [if_pos (by decide +kernel)]; kernel_rfl) | (rw [if_neg (by decide +kernel)]; exact ⟨rfl, rfl⟩))
    (fun os started H enc _ => lifted os started H enc)

/-- THE STATEMENT -/
theorem proved : Rows.BufferPlaysSaid :=
  over
#print axioms proved
end Go.Proofs.Ytdicippbniglpaa.bufferPlays
