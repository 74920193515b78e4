/-
  'MshrWaits': runs of its parts, checked by the kernel. Printed by program.
-/
import Derived.Test.YtdicippbniglpaaMshrWaitsL
namespace Go.Proofs.Ytdicippbniglpaa.mshrWaits
open Go.ChangeShapes Go.WideShapes Go.ChangeAt Go.RowKit Go.Sx
set_option linter.unusedVariables false
set_option linter.unusedSimpArgs false
set_option maxRecDepth 100000
set_option maxHeartbeats 1600000
theorem good_c_awake_0_0 : GoodP ⟨(TI.of Try.prog), (fnOf Try.prog), ⟨[], ctOf []⟩, 400, Try.f8, (some ct_awake.R)⟩ (flat (bodyOf Try.f8)) (ct_awake.facts ++ lem_c_awake_0) ct_awake.s0 none [] [] := ⟨[], by kernel_rfl, fun ρ _ ob h => absurd h List.not_mem_nil⟩
theorem good_l0_1_0 : GoodP rnL cd0 (facts0 ++ lem_l0_1) st0 none [] [] := ⟨[], by kernel_rfl, fun ρ _ ob h => absurd h List.not_mem_nil⟩
theorem good_l1_2_0 : GoodP rnL (cd0.take 7) (facts1 ++ lem_l1_2) st1 (some ⟨T_A0, F_A0, [], fm0⟩) [] [] := ⟨[([], [(.fact (.sem 0 sem0 [(.app 5 (.app 2 (.tv 0) (.tv 0)) (.lit (.ofNat 0)))] [(.lit (.ofNat 0))])), (.fact (.sem 1 sem1 [(.app 5 (.app 2 (.tv 0) (.tv 0)) (.lit (.ofNat 0)))] [(.lit (.ofNat 0))]))])], by kernel_rfl, by
  intro ρ hk ob hob hp rr hr
  simp only [List.mem_cons, List.not_mem_nil, or_false] at hob
  rcases hob with rfl
  · simp only [List.mem_cons, List.not_mem_nil, or_false] at hr
    rcases hr with rfl | rfl
    · exact waits_base rfl (fun _ => rfl)
    · exact rows_base rfl (fun _ => rfl)
⟩
theorem good_l1_3_0 : GoodP rnL (cd1.take 2) (F_A0 ++ lem_l1_3) T_A0.toS (some ⟨T_B0, F_B0, [(110, none)], []⟩) [(0, ⟨T_E0, F_E0, [], fm1⟩)] [] := ⟨[([((.bin .lt (.var 110) (.lit (.ofNat 100))), true), ((.bin .lt (.var 110) (.var 0)), true)], [(.fact (.sem 0 sem0 [(.tv 120)] [(.var 110)])), (.fact (.sem 1 sem1 [(.tv 121)] [(.var 110)]))]),
  ([((.bin .lt (.var 110) (.lit (.ofNat 100))), false), ((.bin .lt (.var 110) (.var 0)), true)], [(.fact (.sem 0 sem0 [(.tv 120)] [(.lit (.ofNat 100))])), (.fact (.sem 1 sem1 [(.tv 121)] [(.lit (.ofNat 100))]))]),
  ([((.bin .lt (.var 110) (.var 0)), false)], [(.fact (.sem 0 sem0 [(.tv 120)] [(.var 110)])), (.fact (.sem 1 sem1 [(.tv 121)] [(.var 110)]))])], by kernel_rfl, by
  intro ρ hk ob hob hp rr hr
  have hF : ∀ g ∈ F_A0, Fact.holds ρ g := fun g hg => hk g (List.mem_append_left _ hg)
  have h0 : waits (((.tv 120) : E).tden ρ) [] (((.var 110) : E).den ρ) := hF (.sem 0 sem0 [(.tv 120)] [(.var 110)]) (by simp [F_A0])
  have h1 : rows (((.tv 121) : E).tden ρ) (((.var 110) : E).den ρ) := hF (.sem 1 sem1 [(.tv 121)] [(.var 110)]) (by simp [F_A0])
  have b110_100 : 0 ≤ ρ.v 110 ∧ ρ.v 110 ≤ 100 := rng_iff.1 (hF (r 110 0 100) (by simp [F_A0]))
  simp only [List.mem_cons, List.not_mem_nil, or_false] at hob
  rcases hob with rfl | rfl | rfl
  · simp only [List.mem_cons, List.not_mem_nil, or_false] at hr
    have t0 := lt_iff.1 (hp ((.bin .lt (.var 110) (.lit (.ofNat 100))), true) (by simp))
    simp only [E.den, UO.den, iff_true, Int.ofNat_eq_natCast] at t0
    rcases hr with rfl | rfl
    · exact h0
    · exact h1
  · simp only [List.mem_cons, List.not_mem_nil, or_false] at hr
    have t0 := lt_iff.1 (hp ((.bin .lt (.var 110) (.lit (.ofNat 100))), false) (by simp))
    simp only [E.den, UO.den, Bool.false_eq_true, iff_false, Int.ofNat_eq_natCast] at t0
    rcases hr with rfl | rfl
    · have e : ((.var 110 : E).den ρ) = Int.ofNat 100 := by
        simp only [E.den, Int.ofNat_eq_natCast]
        omega
      have h := h0
      rw [e] at h
      exact h
    · have e : ((.var 110 : E).den ρ) = Int.ofNat 100 := by
        simp only [E.den, Int.ofNat_eq_natCast]
        omega
      have h := h1
      rw [e] at h
      exact h
  · simp only [List.mem_cons, List.not_mem_nil, or_false] at hr
    rcases hr with rfl | rfl
    · exact h0
    · exact h1
⟩
theorem good_l1_4_0 : GoodP rnL (cd2.take 2) (F_B0 ++ lem_l1_4) T_B0.toS (some ⟨T_D1, F_D1, [(110, none)], []⟩) [(1, ⟨T_C1, F_C1, [(110, none)], []⟩), (0, ⟨T_E0, F_E0, [], fm1⟩)] [] := ⟨[([((.bin .lt (.var 110) (.var 0)), true)], [(.fact (.sem 0 sem0 [(.tv 120), (.upd (.tv 0) (.lit (.ofNat 0)) 0 (.var 110))] [(.bin (.add .i64) (.var 110) (.lit (.ofNat 1))), (.lit (.ofNat 0)), (.lit (.ofNat 1))])), (.fact (.sem 1 sem1 [(.tv 121)] [(.var 110)]))])], by kernel_rfl, by
  intro ρ hk ob hob hp rr hr
  have hF : ∀ g ∈ F_B0, Fact.holds ρ g := fun g hg => hk g (List.mem_append_left _ hg)
  have h0 : waits (((.tv 120) : E).tden ρ) [] (((.var 110) : E).den ρ) := hF (.sem 0 sem0 [(.tv 120)] [(.var 110)]) (by simp [F_B0])
  have h1 : rows (((.tv 121) : E).tden ρ) (((.var 110) : E).den ρ) := hF (.sem 1 sem1 [(.tv 121)] [(.var 110)]) (by simp [F_B0])
  have b110_100 : 0 ≤ ρ.v 110 ∧ ρ.v 110 ≤ 100 := rng_iff.1 (hF (r 110 0 100) (by simp [F_B0]))
  have b110_99 : 0 ≤ ρ.v 110 ∧ ρ.v 110 ≤ 99 := rng_iff.1 (hF (r 110 0 99) (by simp [F_B0]))
  simp only [List.mem_cons, List.not_mem_nil, or_false] at hob
  rcases hob with rfl
  · simp only [List.mem_cons, List.not_mem_nil, or_false] at hr
    rcases hr with rfl | rfl
    · show waits (((.tv 120) : E).tden ρ) ([] ++ [((((.upd (.tv 0) (.lit (.ofNat 0)) 0 (.var 110)) : E).tden ρ), (0 : Int), (((.lit (.ofNat 1)) : E).den ρ))]) (((.bin (.add .i64) (.var 110) (.lit (.ofNat 1))) : E).den ρ)
      exact waits_new h0 (by simp only [E.den]; omega) (by simp only [E.den]; omega) (by simp only [E.den, BO.den]; exact add_i64 (by omega) (by omega)) rfl (by simp [E.tden, E.den])
    · exact h1
⟩
theorem good_l1_5_0 : GoodP rnL cd3 (F_D1 ++ lem_l1_5) T_D1.toS (some ⟨T_G1, F_G1, [(110, none)], []⟩) [(1, ⟨T_C1, F_C1, [(110, none)], []⟩), (0, ⟨T_E0, F_E0, [], fm1⟩)] [] := ⟨[([((.bin .lt (.var 110) (.var 0)), true), ((.bin .lt (.bin (.add .i64) (.var 110) (.lit (.ofNat 1))) (.var 140)), false)], [(.fact (.sem 0 sem0 [(.tv 120), (.tv 130)] [(.bin (.add .i64) (.var 110) (.lit (.ofNat 1))), (.lit (.ofNat 0)), (.var 140)])), (.fact (.sem 1 sem1 [(.tv 121)] [(.var 110)]))])], by kernel_rfl, by
  intro ρ hk ob hob hp rr hr
  have hF : ∀ g ∈ F_D1, Fact.holds ρ g := fun g hg => hk g (List.mem_append_left _ hg)
  have h0 : waits (((.tv 120) : E).tden ρ) [((((.tv 130) : E).tden ρ), (0 : Int), (((.var 140) : E).den ρ))] (((.bin (.add .i64) (.var 110) (.lit (.ofNat 1))) : E).den ρ) := hF (.sem 0 sem0 [(.tv 120), (.tv 130)] [(.bin (.add .i64) (.var 110) (.lit (.ofNat 1))), z, (.var 140)]) (by simp [F_D1])
  have h1 : rows (((.tv 121) : E).tden ρ) (((.var 110) : E).den ρ) := hF (.sem 1 sem1 [(.tv 121)] [(.var 110)]) (by simp [F_D1])
  have b110_100 : 0 ≤ ρ.v 110 ∧ ρ.v 110 ≤ 100 := rng_iff.1 (hF (r 110 0 100) (by simp [F_D1]))
  have b140_100 : 1 ≤ ρ.v 140 ∧ ρ.v 140 ≤ 100 := rng_iff.1 (hF (r 140 1 100) (by simp [F_D1]))
  have b110_99 : 0 ≤ ρ.v 110 ∧ ρ.v 110 ≤ 99 := rng_iff.1 (hF (r 110 0 99) (by simp [F_D1]))
  simp only [List.mem_cons, List.not_mem_nil, or_false] at hob
  rcases hob with rfl
  · simp only [List.mem_cons, List.not_mem_nil, or_false] at hr
    rcases hr with rfl | rfl
    · exact h0
    · exact h1
⟩
theorem good_l1_6_0 : GoodP rnL (cd2.drop 3) (F_G1 ++ lem_l1_6) T_G1.toS (some ⟨T_C1, F_C1, [(110, none)], []⟩) [(1, ⟨T_C1, F_C1, [(110, none)], []⟩), (0, ⟨T_E0, F_E0, [], fm1⟩)] [] := ⟨[([((.bin .lt (.var 110) (.var 0)), true), ((.bin .lt (.bin (.add .i64) (.var 110) (.lit (.ofNat 1))) (.var 140)), false)], [(.fact (.sem 0 sem0 [(.tv 120), (.tv 130)] [(.bin (.add .i64) (.var 110) (.lit (.ofNat 1))), (.lit (.ofNat 0)), (.var 140)])), (.fact (.sem 1 sem1 [(.upd (.tv 121) (.var 110) 0 (.var 110))] [(.bin (.add .i64) (.var 110) (.lit (.ofNat 1)))]))])], by kernel_rfl, by
  intro ρ hk ob hob hp rr hr
  have hF : ∀ g ∈ F_G1, Fact.holds ρ g := fun g hg => hk g (List.mem_append_left _ hg)
  have h0 : waits (((.tv 120) : E).tden ρ) [((((.tv 130) : E).tden ρ), (0 : Int), (((.var 140) : E).den ρ))] (((.bin (.add .i64) (.var 110) (.lit (.ofNat 1))) : E).den ρ) := hF (.sem 0 sem0 [(.tv 120), (.tv 130)] [(.bin (.add .i64) (.var 110) (.lit (.ofNat 1))), z, (.var 140)]) (by simp [F_G1])
  have h1 : rows (((.tv 121) : E).tden ρ) (((.var 110) : E).den ρ) := hF (.sem 1 sem1 [(.tv 121)] [(.var 110)]) (by simp [F_G1])
  have b110_100 : 0 ≤ ρ.v 110 ∧ ρ.v 110 ≤ 100 := rng_iff.1 (hF (r 110 0 100) (by simp [F_G1]))
  have b140_100 : 1 ≤ ρ.v 140 ∧ ρ.v 140 ≤ 100 := rng_iff.1 (hF (r 140 1 100) (by simp [F_G1]))
  have b110_99 : 0 ≤ ρ.v 110 ∧ ρ.v 110 ≤ 99 := rng_iff.1 (hF (r 110 0 99) (by simp [F_G1]))
  simp only [List.mem_cons, List.not_mem_nil, or_false] at hob
  rcases hob with rfl
  · simp only [List.mem_cons, List.not_mem_nil, or_false] at hr
    rcases hr with rfl | rfl
    · exact h0
    · exact rows_app h1 (by simp only [E.den]; omega) (by simp only [E.den]; omega) (by simp only [E.den, BO.den]; exact add_i64 (by omega) (by omega)) (fun r => by simp only [E.tden, E.den, and_true]; rfl)
⟩
theorem good_l1_7_0 : GoodP rnL (cd1.drop 3) (F_C1 ++ lem_l1_7) T_C1.toS (some ⟨T_A0, F_A0, [(110, some 101)], fm0⟩) [(0, ⟨T_E0, F_E0, [], fm1⟩)] [] := ⟨[([((.bin .lt (.bin (.add .i64) (.var 110) (.lit (.ofNat 1))) (.var 140)), false)], [(.fact (.sem 0 sem0 [(.tv 120), (.tv 130)] [(.bin (.add .i64) (.var 110) (.lit (.ofNat 1))), (.lit (.ofNat 0)), (.var 140)])), (.fact (.sem 1 sem1 [(.tv 121)] [(.bin (.add .i64) (.var 110) (.lit (.ofNat 1)))]))])], by kernel_rfl, by
  intro ρ hk ob hob hp rr hr
  have hF : ∀ g ∈ F_C1, Fact.holds ρ g := fun g hg => hk g (List.mem_append_left _ hg)
  have h0 : waits (((.tv 120) : E).tden ρ) [((((.tv 130) : E).tden ρ), (0 : Int), (((.var 140) : E).den ρ))] (((.bin (.add .i64) (.var 110) (.lit (.ofNat 1))) : E).den ρ) := hF (.sem 0 sem0 [(.tv 120), (.tv 130)] [(.bin (.add .i64) (.var 110) (.lit (.ofNat 1))), z, (.var 140)]) (by simp [F_C1])
  have h1 : rows (((.tv 121) : E).tden ρ) (((.bin (.add .i64) (.var 110) (.lit (.ofNat 1))) : E).den ρ) := hF (.sem 1 sem1 [(.tv 121)] [(.bin (.add .i64) (.var 110) (.lit (.ofNat 1)))]) (by simp [F_C1])
  have b110_100 : 0 ≤ ρ.v 110 ∧ ρ.v 110 ≤ 100 := rng_iff.1 (hF (r 110 0 100) (by simp [F_C1]))
  have b140_100 : 1 ≤ ρ.v 140 ∧ ρ.v 140 ≤ 100 := rng_iff.1 (hF (r 140 1 100) (by simp [F_C1]))
  have b110_99 : 0 ≤ ρ.v 110 ∧ ρ.v 110 ≤ 99 := rng_iff.1 (hF (r 110 0 99) (by simp [F_C1]))
  simp only [List.mem_cons, List.not_mem_nil, or_false] at hob
  rcases hob with rfl
  · simp only [List.mem_cons, List.not_mem_nil, or_false] at hr
    rcases hr with rfl | rfl
    · exact h0
    · exact h1
⟩
theorem good_l1_8_0 : GoodP rnL (cd1.take 2) (F_A1 ++ lem_l1_8) T_A1.toS (some ⟨T_B1, F_B1, [(110, none)], []⟩) [(0, ⟨T_E0, F_E0, [], fm1⟩)] [] := ⟨[([((.bin .lt (.var 110) (.lit (.ofNat 100))), true), ((.bin .lt (.var 110) (.var 0)), true), ((.bin .lt (.var 110) (.var 140)), false)], [(.fact (.sem 0 sem0 [(.tv 120), (.tv 130)] [(.var 110), (.lit (.ofNat 0)), (.var 140)])), (.fact (.sem 1 sem1 [(.tv 121)] [(.var 110)]))]),
  ([((.bin .lt (.var 110) (.lit (.ofNat 100))), false), ((.bin .lt (.var 110) (.var 0)), true), ((.bin .lt (.var 110) (.var 140)), false)], [(.fact (.sem 0 sem0 [(.tv 120), (.tv 130)] [(.lit (.ofNat 100)), (.lit (.ofNat 0)), (.var 140)])), (.fact (.sem 1 sem1 [(.tv 121)] [(.lit (.ofNat 100))]))]),
  ([((.bin .lt (.var 110) (.var 0)), false), ((.bin .lt (.var 110) (.var 140)), false)], [(.fact (.sem 0 sem0 [(.tv 120), (.tv 130)] [(.var 110), (.lit (.ofNat 0)), (.var 140)])), (.fact (.sem 1 sem1 [(.tv 121)] [(.var 110)]))])], by kernel_rfl, by
  intro ρ hk ob hob hp rr hr
  have hF : ∀ g ∈ F_A1, Fact.holds ρ g := fun g hg => hk g (List.mem_append_left _ hg)
  have h0 : waits (((.tv 120) : E).tden ρ) [((((.tv 130) : E).tden ρ), (0 : Int), (((.var 140) : E).den ρ))] (((.var 110) : E).den ρ) := hF (.sem 0 sem0 [(.tv 120), (.tv 130)] [(.var 110), z, (.var 140)]) (by simp [F_A1])
  have h1 : rows (((.tv 121) : E).tden ρ) (((.var 110) : E).den ρ) := hF (.sem 1 sem1 [(.tv 121)] [(.var 110)]) (by simp [F_A1])
  have b110_100 : 0 ≤ ρ.v 110 ∧ ρ.v 110 ≤ 100 := rng_iff.1 (hF (r 110 0 100) (by simp [F_A1]))
  have b140_100 : 1 ≤ ρ.v 140 ∧ ρ.v 140 ≤ 100 := rng_iff.1 (hF (r 140 1 100) (by simp [F_A1]))
  simp only [List.mem_cons, List.not_mem_nil, or_false] at hob
  rcases hob with rfl | rfl | rfl
  · simp only [List.mem_cons, List.not_mem_nil, or_false] at hr
    have t0 := lt_iff.1 (hp ((.bin .lt (.var 110) (.lit (.ofNat 100))), true) (by simp))
    simp only [E.den, UO.den, iff_true, Int.ofNat_eq_natCast] at t0
    rcases hr with rfl | rfl
    · exact h0
    · exact h1
  · simp only [List.mem_cons, List.not_mem_nil, or_false] at hr
    have t0 := lt_iff.1 (hp ((.bin .lt (.var 110) (.lit (.ofNat 100))), false) (by simp))
    simp only [E.den, UO.den, Bool.false_eq_true, iff_false, Int.ofNat_eq_natCast] at t0
    rcases hr with rfl | rfl
    · have e : ((.var 110 : E).den ρ) = Int.ofNat 100 := by
        simp only [E.den, Int.ofNat_eq_natCast]
        omega
      have h := h0
      rw [e] at h
      exact h
    · have e : ((.var 110 : E).den ρ) = Int.ofNat 100 := by
        simp only [E.den, Int.ofNat_eq_natCast]
        omega
      have h := h1
      rw [e] at h
      exact h
  · simp only [List.mem_cons, List.not_mem_nil, or_false] at hr
    rcases hr with rfl | rfl
    · exact h0
    · exact h1
⟩
theorem good_l1_9_0 : GoodP rnL (cd2.take 2) (F_B1 ++ lem_l1_9) T_B1.toS (some ⟨T_D1, F_D1, [(110, none)], fm3⟩) [(1, ⟨T_C1, F_C1, [(110, none)], fm2⟩), (0, ⟨T_E0, F_E0, [], fm1⟩)] [] := ⟨[([((.bin .eq (.var 150) (.bin (.and .u64) (.un (.wrap .u64) (.get (.tv 0) (.var 110) 0)) (.lit (.ofNat 18446744073709551552)))), true), ((.bin .lt (.var 110) (.var 0)), true), ((.bin .lt (.var 110) (.var 140)), false)], [(.fact (.sem 0 sem0 [(.tv 120), (.upd (.tv 130) (.var 140) 0 (.var 110))] [(.bin (.add .i64) (.var 110) (.lit (.ofNat 1))), (.lit (.ofNat 0)), (.bin (.add .i64) (.var 140) (.lit (.ofNat 1)))])), (.fact (.sem 1 sem1 [(.tv 121)] [(.var 110)]))]),
  ([((.bin .eq (.var 150) (.bin (.and .u64) (.un (.wrap .u64) (.get (.tv 0) (.var 110) 0)) (.lit (.ofNat 18446744073709551552)))), false), ((.bin .lt (.var 110) (.var 0)), true), ((.bin .lt (.var 110) (.var 140)), false)], [(.fact (.sem 0 sem0 [(.tv 120), (.tv 130), (.upd (.tv 0) (.lit (.ofNat 0)) 0 (.var 110))] [(.bin (.add .i64) (.var 110) (.lit (.ofNat 1))), (.lit (.ofNat 0)), (.var 140), (.lit (.ofNat 0)), (.lit (.ofNat 1))])), (.fact (.sem 1 sem1 [(.tv 121)] [(.var 110)]))])], by kernel_rfl, by
  intro ρ hk ob hob hp rr hr
  have hF : ∀ g ∈ F_B1, Fact.holds ρ g := fun g hg => hk g (List.mem_append_left _ hg)
  have h0 : waits (((.tv 120) : E).tden ρ) [((((.tv 130) : E).tden ρ), (0 : Int), (((.var 140) : E).den ρ))] (((.var 110) : E).den ρ) := hF (.sem 0 sem0 [(.tv 120), (.tv 130)] [(.var 110), z, (.var 140)]) (by simp [F_B1])
  have h1 : rows (((.tv 121) : E).tden ρ) (((.var 110) : E).den ρ) := hF (.sem 1 sem1 [(.tv 121)] [(.var 110)]) (by simp [F_B1])
  have b110_100 : 0 ≤ ρ.v 110 ∧ ρ.v 110 ≤ 100 := rng_iff.1 (hF (r 110 0 100) (by simp [F_B1]))
  have b140_100 : 1 ≤ ρ.v 140 ∧ ρ.v 140 ≤ 100 := rng_iff.1 (hF (r 140 1 100) (by simp [F_B1]))
  have b110_99 : 0 ≤ ρ.v 110 ∧ ρ.v 110 ≤ 99 := rng_iff.1 (hF (r 110 0 99) (by simp [F_B1]))
  simp only [List.mem_cons, List.not_mem_nil, or_false] at hob
  rcases hob with rfl | rfl
  · simp only [List.mem_cons, List.not_mem_nil, or_false] at hr
    rcases hr with rfl | rfl
    · show waits (((.tv 120) : E).tden ρ) ([] ++ ((((.upd (.tv 130) (.var 140) 0 (.var 110)) : E).tden ρ), (0 : Int), (((.bin (.add .i64) (.var 140) (.lit (.ofNat 1))) : E).den ρ)) :: []) (((.bin (.add .i64) (.var 110) (.lit (.ofNat 1))) : E).den ρ)
      exact waits_app (t := (((.tv 130) : E).tden ρ)) (b := (((.var 140) : E).den ρ)) [] h0 (by simp only [E.den]; omega) (by simp only [E.den]; omega) (by simp only [E.den]; omega) (by simp only [E.den, BO.den]; exact add_i64 (by omega) (by omega)) (by simp only [E.den, BO.den]; exact add_i64 (by omega) (by omega)) (fun r => by simp only [E.tden, E.den, and_true]; rfl)
    · exact h1
  · simp only [List.mem_cons, List.not_mem_nil, or_false] at hr
    rcases hr with rfl | rfl
    · show waits (((.tv 120) : E).tden ρ) ([((((.tv 130) : E).tden ρ), (0 : Int), (((.var 140) : E).den ρ))] ++ [((((.upd (.tv 0) (.lit (.ofNat 0)) 0 (.var 110)) : E).tden ρ), (0 : Int), (((.lit (.ofNat 1)) : E).den ρ))]) (((.bin (.add .i64) (.var 110) (.lit (.ofNat 1))) : E).den ρ)
      exact waits_new h0 (by simp only [E.den]; omega) (by simp only [E.den]; omega) (by simp only [E.den, BO.den]; exact add_i64 (by omega) (by omega)) rfl (by simp [E.tden, E.den])
    · exact h1
⟩
theorem good_l1_10_0 : GoodP rnL cd3 (F_D1 ++ lem_l1_10) T_D1.toS (some ⟨T_G1, F_G1, [(110, none)], fm4⟩) [(1, ⟨T_C1, F_C1, [(110, none)], fm2⟩), (0, ⟨T_E0, F_E0, [], fm1⟩)] [] := ⟨[([((.bin .lt (.var 110) (.var 0)), true), ((.bin .lt (.bin (.add .i64) (.var 110) (.lit (.ofNat 1))) (.var 140)), false)], [(.fact (.sem 0 sem0 [(.tv 120), (.tv 130)] [(.bin (.add .i64) (.var 110) (.lit (.ofNat 1))), (.lit (.ofNat 0)), (.var 140)])), (.fact (.sem 1 sem1 [(.tv 121)] [(.var 110)]))])], by kernel_rfl, by
  intro ρ hk ob hob hp rr hr
  have hF : ∀ g ∈ F_D1, Fact.holds ρ g := fun g hg => hk g (List.mem_append_left _ hg)
  have h0 : waits (((.tv 120) : E).tden ρ) [((((.tv 130) : E).tden ρ), (0 : Int), (((.var 140) : E).den ρ))] (((.bin (.add .i64) (.var 110) (.lit (.ofNat 1))) : E).den ρ) := hF (.sem 0 sem0 [(.tv 120), (.tv 130)] [(.bin (.add .i64) (.var 110) (.lit (.ofNat 1))), z, (.var 140)]) (by simp [F_D1])
  have h1 : rows (((.tv 121) : E).tden ρ) (((.var 110) : E).den ρ) := hF (.sem 1 sem1 [(.tv 121)] [(.var 110)]) (by simp [F_D1])
  have b110_100 : 0 ≤ ρ.v 110 ∧ ρ.v 110 ≤ 100 := rng_iff.1 (hF (r 110 0 100) (by simp [F_D1]))
  have b140_100 : 1 ≤ ρ.v 140 ∧ ρ.v 140 ≤ 100 := rng_iff.1 (hF (r 140 1 100) (by simp [F_D1]))
  have b110_99 : 0 ≤ ρ.v 110 ∧ ρ.v 110 ≤ 99 := rng_iff.1 (hF (r 110 0 99) (by simp [F_D1]))
  simp only [List.mem_cons, List.not_mem_nil, or_false] at hob
  rcases hob with rfl
  · simp only [List.mem_cons, List.not_mem_nil, or_false] at hr
    rcases hr with rfl | rfl
    · exact h0
    · exact h1
⟩
theorem good_l1_11_0 : GoodP rnL cd3 (F_D2 ++ lem_l1_11) T_D2.toS (some ⟨T_G1, F_G1, [(110, none)], fm4⟩) [(1, ⟨T_C1, F_C1, [(110, none)], fm2⟩), (0, ⟨T_E0, F_E0, [], fm1⟩)] [] := ⟨[([((.bin .lt (.var 110) (.var 0)), true), ((.bin .lt (.bin (.add .i64) (.var 110) (.lit (.ofNat 1))) (.var 141)), false), ((.bin .lt (.bin (.add .i64) (.var 110) (.lit (.ofNat 1))) (.var 140)), false)], [(.fact (.sem 0 sem0 [(.tv 120), (.tv 130), (.tv 131)] [(.bin (.add .i64) (.var 110) (.lit (.ofNat 1))), (.lit (.ofNat 0)), (.var 140), (.lit (.ofNat 0)), (.var 141)])), (.fact (.sem 1 sem1 [(.tv 121)] [(.var 110)]))])], by kernel_rfl, by
  intro ρ hk ob hob hp rr hr
  have hF : ∀ g ∈ F_D2, Fact.holds ρ g := fun g hg => hk g (List.mem_append_left _ hg)
  have h0 : waits (((.tv 120) : E).tden ρ) [((((.tv 130) : E).tden ρ), (0 : Int), (((.var 140) : E).den ρ)), ((((.tv 131) : E).tden ρ), (0 : Int), (((.var 141) : E).den ρ))] (((.bin (.add .i64) (.var 110) (.lit (.ofNat 1))) : E).den ρ) := hF (.sem 0 sem0 [(.tv 120), (.tv 130), (.tv 131)] [(.bin (.add .i64) (.var 110) (.lit (.ofNat 1))), z, (.var 140), z, (.var 141)]) (by simp [F_D2])
  have h1 : rows (((.tv 121) : E).tden ρ) (((.var 110) : E).den ρ) := hF (.sem 1 sem1 [(.tv 121)] [(.var 110)]) (by simp [F_D2])
  have b110_100 : 0 ≤ ρ.v 110 ∧ ρ.v 110 ≤ 100 := rng_iff.1 (hF (r 110 0 100) (by simp [F_D2]))
  have b140_100 : 1 ≤ ρ.v 140 ∧ ρ.v 140 ≤ 100 := rng_iff.1 (hF (r 140 1 100) (by simp [F_D2]))
  have b141_100 : 1 ≤ ρ.v 141 ∧ ρ.v 141 ≤ 100 := rng_iff.1 (hF (r 141 1 100) (by simp [F_D2]))
  have b110_99 : 0 ≤ ρ.v 110 ∧ ρ.v 110 ≤ 99 := rng_iff.1 (hF (r 110 0 99) (by simp [F_D2]))
  simp only [List.mem_cons, List.not_mem_nil, or_false] at hob
  rcases hob with rfl
  · simp only [List.mem_cons, List.not_mem_nil, or_false] at hr
    rcases hr with rfl | rfl
    · exact h0
    · exact h1
⟩
theorem good_l1_12_0 : GoodP rnL (cd2.drop 3) (F_G1 ++ lem_l1_12) T_G1.toS (some ⟨T_C1, F_C1, [(110, none)], fm2⟩) [(1, ⟨T_C1, F_C1, [(110, none)], fm2⟩), (0, ⟨T_E0, F_E0, [], fm1⟩)] [] := ⟨[([((.bin .lt (.var 110) (.var 0)), true), ((.bin .lt (.bin (.add .i64) (.var 110) (.lit (.ofNat 1))) (.var 140)), false)], [(.fact (.sem 0 sem0 [(.tv 120), (.tv 130)] [(.bin (.add .i64) (.var 110) (.lit (.ofNat 1))), (.lit (.ofNat 0)), (.var 140)])), (.fact (.sem 1 sem1 [(.upd (.tv 121) (.var 110) 0 (.var 110))] [(.bin (.add .i64) (.var 110) (.lit (.ofNat 1)))]))])], by kernel_rfl, by
  intro ρ hk ob hob hp rr hr
  have hF : ∀ g ∈ F_G1, Fact.holds ρ g := fun g hg => hk g (List.mem_append_left _ hg)
  have h0 : waits (((.tv 120) : E).tden ρ) [((((.tv 130) : E).tden ρ), (0 : Int), (((.var 140) : E).den ρ))] (((.bin (.add .i64) (.var 110) (.lit (.ofNat 1))) : E).den ρ) := hF (.sem 0 sem0 [(.tv 120), (.tv 130)] [(.bin (.add .i64) (.var 110) (.lit (.ofNat 1))), z, (.var 140)]) (by simp [F_G1])
  have h1 : rows (((.tv 121) : E).tden ρ) (((.var 110) : E).den ρ) := hF (.sem 1 sem1 [(.tv 121)] [(.var 110)]) (by simp [F_G1])
  have b110_100 : 0 ≤ ρ.v 110 ∧ ρ.v 110 ≤ 100 := rng_iff.1 (hF (r 110 0 100) (by simp [F_G1]))
  have b140_100 : 1 ≤ ρ.v 140 ∧ ρ.v 140 ≤ 100 := rng_iff.1 (hF (r 140 1 100) (by simp [F_G1]))
  have b110_99 : 0 ≤ ρ.v 110 ∧ ρ.v 110 ≤ 99 := rng_iff.1 (hF (r 110 0 99) (by simp [F_G1]))
  simp only [List.mem_cons, List.not_mem_nil, or_false] at hob
  rcases hob with rfl
  · simp only [List.mem_cons, List.not_mem_nil, or_false] at hr
    rcases hr with rfl | rfl
    · exact h0
    · exact rows_app h1 (by simp only [E.den]; omega) (by simp only [E.den]; omega) (by simp only [E.den, BO.den]; exact add_i64 (by omega) (by omega)) (fun r => by simp only [E.tden, E.den, and_true]; rfl)
⟩
theorem good_l1_13_0 : GoodP rnL (cd2.drop 3) (F_G2 ++ lem_l1_13) T_G2.toS (some ⟨T_C1, F_C1, [(110, none)], fm2⟩) [(1, ⟨T_C1, F_C1, [(110, none)], fm2⟩), (0, ⟨T_E0, F_E0, [], fm1⟩)] [] := ⟨[([((.bin .lt (.var 110) (.var 0)), true), ((.bin .lt (.bin (.add .i64) (.var 110) (.lit (.ofNat 1))) (.var 141)), false), ((.bin .lt (.bin (.add .i64) (.var 110) (.lit (.ofNat 1))) (.var 140)), false)], [(.fact (.sem 0 sem0 [(.tv 120), (.tv 130), (.tv 131)] [(.bin (.add .i64) (.var 110) (.lit (.ofNat 1))), (.lit (.ofNat 0)), (.var 140), (.lit (.ofNat 0)), (.var 141)])), (.fact (.sem 1 sem1 [(.upd (.tv 121) (.var 110) 0 (.var 110))] [(.bin (.add .i64) (.var 110) (.lit (.ofNat 1)))]))])], by kernel_rfl, by
  intro ρ hk ob hob hp rr hr
  have hF : ∀ g ∈ F_G2, Fact.holds ρ g := fun g hg => hk g (List.mem_append_left _ hg)
  have h0 : waits (((.tv 120) : E).tden ρ) [((((.tv 130) : E).tden ρ), (0 : Int), (((.var 140) : E).den ρ)), ((((.tv 131) : E).tden ρ), (0 : Int), (((.var 141) : E).den ρ))] (((.bin (.add .i64) (.var 110) (.lit (.ofNat 1))) : E).den ρ) := hF (.sem 0 sem0 [(.tv 120), (.tv 130), (.tv 131)] [(.bin (.add .i64) (.var 110) (.lit (.ofNat 1))), z, (.var 140), z, (.var 141)]) (by simp [F_G2])
  have h1 : rows (((.tv 121) : E).tden ρ) (((.var 110) : E).den ρ) := hF (.sem 1 sem1 [(.tv 121)] [(.var 110)]) (by simp [F_G2])
  have b110_100 : 0 ≤ ρ.v 110 ∧ ρ.v 110 ≤ 100 := rng_iff.1 (hF (r 110 0 100) (by simp [F_G2]))
  have b140_100 : 1 ≤ ρ.v 140 ∧ ρ.v 140 ≤ 100 := rng_iff.1 (hF (r 140 1 100) (by simp [F_G2]))
  have b141_100 : 1 ≤ ρ.v 141 ∧ ρ.v 141 ≤ 100 := rng_iff.1 (hF (r 141 1 100) (by simp [F_G2]))
  have b110_99 : 0 ≤ ρ.v 110 ∧ ρ.v 110 ≤ 99 := rng_iff.1 (hF (r 110 0 99) (by simp [F_G2]))
  simp only [List.mem_cons, List.not_mem_nil, or_false] at hob
  rcases hob with rfl
  · simp only [List.mem_cons, List.not_mem_nil, or_false] at hr
    rcases hr with rfl | rfl
    · exact h0
    · exact rows_app h1 (by simp only [E.den]; omega) (by simp only [E.den]; omega) (by simp only [E.den, BO.den]; exact add_i64 (by omega) (by omega)) (fun r => by simp only [E.tden, E.den, and_true]; rfl)
⟩
theorem good_l1_14_0 : GoodP rnL (cd1.drop 3) (F_C1 ++ lem_l1_14) T_C1.toS (some ⟨T_A0, F_A0, [(110, some 101)], fm0⟩) [(0, ⟨T_E0, F_E0, [], fm1⟩)] [] := ⟨[([((.bin .lt (.bin (.add .i64) (.var 110) (.lit (.ofNat 1))) (.var 140)), false)], [(.fact (.sem 0 sem0 [(.tv 120), (.tv 130)] [(.bin (.add .i64) (.var 110) (.lit (.ofNat 1))), (.lit (.ofNat 0)), (.var 140)])), (.fact (.sem 1 sem1 [(.tv 121)] [(.bin (.add .i64) (.var 110) (.lit (.ofNat 1)))]))])], by kernel_rfl, by
  intro ρ hk ob hob hp rr hr
  have hF : ∀ g ∈ F_C1, Fact.holds ρ g := fun g hg => hk g (List.mem_append_left _ hg)
  have h0 : waits (((.tv 120) : E).tden ρ) [((((.tv 130) : E).tden ρ), (0 : Int), (((.var 140) : E).den ρ))] (((.bin (.add .i64) (.var 110) (.lit (.ofNat 1))) : E).den ρ) := hF (.sem 0 sem0 [(.tv 120), (.tv 130)] [(.bin (.add .i64) (.var 110) (.lit (.ofNat 1))), z, (.var 140)]) (by simp [F_C1])
  have h1 : rows (((.tv 121) : E).tden ρ) (((.bin (.add .i64) (.var 110) (.lit (.ofNat 1))) : E).den ρ) := hF (.sem 1 sem1 [(.tv 121)] [(.bin (.add .i64) (.var 110) (.lit (.ofNat 1)))]) (by simp [F_C1])
  have b110_100 : 0 ≤ ρ.v 110 ∧ ρ.v 110 ≤ 100 := rng_iff.1 (hF (r 110 0 100) (by simp [F_C1]))
  have b140_100 : 1 ≤ ρ.v 140 ∧ ρ.v 140 ≤ 100 := rng_iff.1 (hF (r 140 1 100) (by simp [F_C1]))
  have b110_99 : 0 ≤ ρ.v 110 ∧ ρ.v 110 ≤ 99 := rng_iff.1 (hF (r 110 0 99) (by simp [F_C1]))
  simp only [List.mem_cons, List.not_mem_nil, or_false] at hob
  rcases hob with rfl
  · simp only [List.mem_cons, List.not_mem_nil, or_false] at hr
    rcases hr with rfl | rfl
    · exact h0
    · exact h1
⟩
theorem good_l1_15_0 : GoodP rnL (cd1.drop 3) (F_C2 ++ lem_l1_15) T_C2.toS (some ⟨T_A0, F_A0, [(110, some 101)], fm0⟩) [(0, ⟨T_E0, F_E0, [], fm1⟩)] [] := ⟨[([((.bin .lt (.bin (.add .i64) (.var 110) (.lit (.ofNat 1))) (.var 141)), false), ((.bin .lt (.bin (.add .i64) (.var 110) (.lit (.ofNat 1))) (.var 140)), false)], [(.fact (.sem 0 sem0 [(.tv 120), (.tv 130), (.tv 131)] [(.bin (.add .i64) (.var 110) (.lit (.ofNat 1))), (.lit (.ofNat 0)), (.var 140), (.lit (.ofNat 0)), (.var 141)])), (.fact (.sem 1 sem1 [(.tv 121)] [(.bin (.add .i64) (.var 110) (.lit (.ofNat 1)))]))])], by kernel_rfl, by
  intro ρ hk ob hob hp rr hr
  have hF : ∀ g ∈ F_C2, Fact.holds ρ g := fun g hg => hk g (List.mem_append_left _ hg)
  have h0 : waits (((.tv 120) : E).tden ρ) [((((.tv 130) : E).tden ρ), (0 : Int), (((.var 140) : E).den ρ)), ((((.tv 131) : E).tden ρ), (0 : Int), (((.var 141) : E).den ρ))] (((.bin (.add .i64) (.var 110) (.lit (.ofNat 1))) : E).den ρ) := hF (.sem 0 sem0 [(.tv 120), (.tv 130), (.tv 131)] [(.bin (.add .i64) (.var 110) (.lit (.ofNat 1))), z, (.var 140), z, (.var 141)]) (by simp [F_C2])
  have h1 : rows (((.tv 121) : E).tden ρ) (((.bin (.add .i64) (.var 110) (.lit (.ofNat 1))) : E).den ρ) := hF (.sem 1 sem1 [(.tv 121)] [(.bin (.add .i64) (.var 110) (.lit (.ofNat 1)))]) (by simp [F_C2])
  have b110_100 : 0 ≤ ρ.v 110 ∧ ρ.v 110 ≤ 100 := rng_iff.1 (hF (r 110 0 100) (by simp [F_C2]))
  have b140_100 : 1 ≤ ρ.v 140 ∧ ρ.v 140 ≤ 100 := rng_iff.1 (hF (r 140 1 100) (by simp [F_C2]))
  have b141_100 : 1 ≤ ρ.v 141 ∧ ρ.v 141 ≤ 100 := rng_iff.1 (hF (r 141 1 100) (by simp [F_C2]))
  have b110_99 : 0 ≤ ρ.v 110 ∧ ρ.v 110 ≤ 99 := rng_iff.1 (hF (r 110 0 99) (by simp [F_C2]))
  simp only [List.mem_cons, List.not_mem_nil, or_false] at hob
  rcases hob with rfl
  · simp only [List.mem_cons, List.not_mem_nil, or_false] at hr
    rcases hr with rfl | rfl
    · exact h0
    · exact h1
⟩
theorem good_l1_16_0 : GoodP rnL (cd1.take 2) (F_A2 ++ lem_l1_16) T_A2.toS (some ⟨T_B2, F_B2, [(110, none)], []⟩) [(0, ⟨T_E0, F_E0, [], fm1⟩)] [] := ⟨[([((.bin .lt (.var 110) (.lit (.ofNat 100))), true), ((.bin .lt (.var 110) (.var 0)), true), ((.bin .lt (.var 110) (.var 141)), false), ((.bin .lt (.var 110) (.var 140)), false)], [(.fact (.sem 0 sem0 [(.tv 120), (.tv 130), (.tv 131)] [(.var 110), (.lit (.ofNat 0)), (.var 140), (.lit (.ofNat 0)), (.var 141)])), (.fact (.sem 1 sem1 [(.tv 121)] [(.var 110)]))]),
  ([((.bin .lt (.var 110) (.lit (.ofNat 100))), false), ((.bin .lt (.var 110) (.var 0)), true), ((.bin .lt (.var 110) (.var 141)), false), ((.bin .lt (.var 110) (.var 140)), false)], [(.fact (.sem 0 sem0 [(.tv 120), (.tv 130), (.tv 131)] [(.lit (.ofNat 100)), (.lit (.ofNat 0)), (.var 140), (.lit (.ofNat 0)), (.var 141)])), (.fact (.sem 1 sem1 [(.tv 121)] [(.lit (.ofNat 100))]))]),
  ([((.bin .lt (.var 110) (.var 0)), false), ((.bin .lt (.var 110) (.var 141)), false), ((.bin .lt (.var 110) (.var 140)), false)], [(.fact (.sem 0 sem0 [(.tv 120), (.tv 130), (.tv 131)] [(.var 110), (.lit (.ofNat 0)), (.var 140), (.lit (.ofNat 0)), (.var 141)])), (.fact (.sem 1 sem1 [(.tv 121)] [(.var 110)]))])], by kernel_rfl, by
  intro ρ hk ob hob hp rr hr
  have hF : ∀ g ∈ F_A2, Fact.holds ρ g := fun g hg => hk g (List.mem_append_left _ hg)
  have h0 : waits (((.tv 120) : E).tden ρ) [((((.tv 130) : E).tden ρ), (0 : Int), (((.var 140) : E).den ρ)), ((((.tv 131) : E).tden ρ), (0 : Int), (((.var 141) : E).den ρ))] (((.var 110) : E).den ρ) := hF (.sem 0 sem0 [(.tv 120), (.tv 130), (.tv 131)] [(.var 110), z, (.var 140), z, (.var 141)]) (by simp [F_A2])
  have h1 : rows (((.tv 121) : E).tden ρ) (((.var 110) : E).den ρ) := hF (.sem 1 sem1 [(.tv 121)] [(.var 110)]) (by simp [F_A2])
  have b110_100 : 0 ≤ ρ.v 110 ∧ ρ.v 110 ≤ 100 := rng_iff.1 (hF (r 110 0 100) (by simp [F_A2]))
  have b140_100 : 1 ≤ ρ.v 140 ∧ ρ.v 140 ≤ 100 := rng_iff.1 (hF (r 140 1 100) (by simp [F_A2]))
  have b141_100 : 1 ≤ ρ.v 141 ∧ ρ.v 141 ≤ 100 := rng_iff.1 (hF (r 141 1 100) (by simp [F_A2]))
  simp only [List.mem_cons, List.not_mem_nil, or_false] at hob
  rcases hob with rfl | rfl | rfl
  · simp only [List.mem_cons, List.not_mem_nil, or_false] at hr
    have t0 := lt_iff.1 (hp ((.bin .lt (.var 110) (.lit (.ofNat 100))), true) (by simp))
    simp only [E.den, UO.den, iff_true, Int.ofNat_eq_natCast] at t0
    rcases hr with rfl | rfl
    · exact h0
    · exact h1
  · simp only [List.mem_cons, List.not_mem_nil, or_false] at hr
    have t0 := lt_iff.1 (hp ((.bin .lt (.var 110) (.lit (.ofNat 100))), false) (by simp))
    simp only [E.den, UO.den, Bool.false_eq_true, iff_false, Int.ofNat_eq_natCast] at t0
    rcases hr with rfl | rfl
    · have e : ((.var 110 : E).den ρ) = Int.ofNat 100 := by
        simp only [E.den, Int.ofNat_eq_natCast]
        omega
      have h := h0
      rw [e] at h
      exact h
    · have e : ((.var 110 : E).den ρ) = Int.ofNat 100 := by
        simp only [E.den, Int.ofNat_eq_natCast]
        omega
      have h := h1
      rw [e] at h
      exact h
  · simp only [List.mem_cons, List.not_mem_nil, or_false] at hr
    rcases hr with rfl | rfl
    · exact h0
    · exact h1
⟩
theorem good_l1_17_0 : GoodP rnL (cd2.take 2) (F_B2 ++ lem_l1_17) T_B2.toS (some ⟨T_D2, F_D2, [(110, none)], fm6⟩) [(1, ⟨T_C2, F_C2, [(110, none)], fm5⟩), (0, ⟨T_E0, F_E0, [], fm1⟩)] [] := ⟨[([((.bin .eq (.var 150) (.bin (.and .u64) (.un (.wrap .u64) (.get (.tv 0) (.var 110) 0)) (.lit (.ofNat 18446744073709551552)))), true), ((.bin .lt (.var 110) (.var 0)), true), ((.bin .lt (.var 110) (.var 141)), false), ((.bin .lt (.var 110) (.var 140)), false)], [(.fact (.sem 0 sem0 [(.tv 120), (.upd (.tv 130) (.var 140) 0 (.var 110)), (.tv 131)] [(.bin (.add .i64) (.var 110) (.lit (.ofNat 1))), (.lit (.ofNat 0)), (.bin (.add .i64) (.var 140) (.lit (.ofNat 1))), (.lit (.ofNat 0)), (.var 141)])), (.fact (.sem 1 sem1 [(.tv 121)] [(.var 110)]))]),
  ([((.bin .eq (.var 151) (.bin (.and .u64) (.un (.wrap .u64) (.get (.tv 0) (.var 110) 0)) (.lit (.ofNat 18446744073709551552)))), true), ((.bin .eq (.var 150) (.bin (.and .u64) (.un (.wrap .u64) (.get (.tv 0) (.var 110) 0)) (.lit (.ofNat 18446744073709551552)))), false), ((.bin .lt (.var 110) (.var 0)), true), ((.bin .lt (.var 110) (.var 141)), false), ((.bin .lt (.var 110) (.var 140)), false)], [(.fact (.sem 0 sem0 [(.tv 120), (.tv 130), (.upd (.tv 131) (.var 141) 0 (.var 110))] [(.bin (.add .i64) (.var 110) (.lit (.ofNat 1))), (.lit (.ofNat 0)), (.var 140), (.lit (.ofNat 0)), (.bin (.add .i64) (.var 141) (.lit (.ofNat 1)))])), (.fact (.sem 1 sem1 [(.tv 121)] [(.var 110)]))]),
  ([((.bin .eq (.var 151) (.bin (.and .u64) (.un (.wrap .u64) (.get (.tv 0) (.var 110) 0)) (.lit (.ofNat 18446744073709551552)))), false), ((.bin .eq (.var 150) (.bin (.and .u64) (.un (.wrap .u64) (.get (.tv 0) (.var 110) 0)) (.lit (.ofNat 18446744073709551552)))), false), ((.bin .lt (.var 110) (.var 0)), true), ((.bin .lt (.var 110) (.var 141)), false), ((.bin .lt (.var 110) (.var 140)), false)], [(.fact (.sem 0 sem0 [(.tv 120), (.tv 130), (.tv 131), (.upd (.tv 0) (.lit (.ofNat 0)) 0 (.var 110))] [(.bin (.add .i64) (.var 110) (.lit (.ofNat 1))), (.lit (.ofNat 0)), (.var 140), (.lit (.ofNat 0)), (.var 141), (.lit (.ofNat 0)), (.lit (.ofNat 1))])), (.fact (.sem 1 sem1 [(.tv 121)] [(.var 110)]))])], by kernel_rfl, by
  intro ρ hk ob hob hp rr hr
  have hF : ∀ g ∈ F_B2, Fact.holds ρ g := fun g hg => hk g (List.mem_append_left _ hg)
  have h0 : waits (((.tv 120) : E).tden ρ) [((((.tv 130) : E).tden ρ), (0 : Int), (((.var 140) : E).den ρ)), ((((.tv 131) : E).tden ρ), (0 : Int), (((.var 141) : E).den ρ))] (((.var 110) : E).den ρ) := hF (.sem 0 sem0 [(.tv 120), (.tv 130), (.tv 131)] [(.var 110), z, (.var 140), z, (.var 141)]) (by simp [F_B2])
  have h1 : rows (((.tv 121) : E).tden ρ) (((.var 110) : E).den ρ) := hF (.sem 1 sem1 [(.tv 121)] [(.var 110)]) (by simp [F_B2])
  have b110_100 : 0 ≤ ρ.v 110 ∧ ρ.v 110 ≤ 100 := rng_iff.1 (hF (r 110 0 100) (by simp [F_B2]))
  have b140_100 : 1 ≤ ρ.v 140 ∧ ρ.v 140 ≤ 100 := rng_iff.1 (hF (r 140 1 100) (by simp [F_B2]))
  have b141_100 : 1 ≤ ρ.v 141 ∧ ρ.v 141 ≤ 100 := rng_iff.1 (hF (r 141 1 100) (by simp [F_B2]))
  have b110_99 : 0 ≤ ρ.v 110 ∧ ρ.v 110 ≤ 99 := rng_iff.1 (hF (r 110 0 99) (by simp [F_B2]))
  simp only [List.mem_cons, List.not_mem_nil, or_false] at hob
  rcases hob with rfl | rfl | rfl
  · simp only [List.mem_cons, List.not_mem_nil, or_false] at hr
    rcases hr with rfl | rfl
    · show waits (((.tv 120) : E).tden ρ) ([] ++ ((((.upd (.tv 130) (.var 140) 0 (.var 110)) : E).tden ρ), (0 : Int), (((.bin (.add .i64) (.var 140) (.lit (.ofNat 1))) : E).den ρ)) :: [((((.tv 131) : E).tden ρ), (0 : Int), (((.var 141) : E).den ρ))]) (((.bin (.add .i64) (.var 110) (.lit (.ofNat 1))) : E).den ρ)
      exact waits_app (t := (((.tv 130) : E).tden ρ)) (b := (((.var 140) : E).den ρ)) [] h0 (by simp only [E.den]; omega) (by simp only [E.den]; omega) (by simp only [E.den]; omega) (by simp only [E.den, BO.den]; exact add_i64 (by omega) (by omega)) (by simp only [E.den, BO.den]; exact add_i64 (by omega) (by omega)) (fun r => by simp only [E.tden, E.den, and_true]; rfl)
    · exact h1
  · simp only [List.mem_cons, List.not_mem_nil, or_false] at hr
    rcases hr with rfl | rfl
    · show waits (((.tv 120) : E).tden ρ) ([((((.tv 130) : E).tden ρ), (0 : Int), (((.var 140) : E).den ρ))] ++ ((((.upd (.tv 131) (.var 141) 0 (.var 110)) : E).tden ρ), (0 : Int), (((.bin (.add .i64) (.var 141) (.lit (.ofNat 1))) : E).den ρ)) :: []) (((.bin (.add .i64) (.var 110) (.lit (.ofNat 1))) : E).den ρ)
      exact waits_app (t := (((.tv 131) : E).tden ρ)) (b := (((.var 141) : E).den ρ)) [((((.tv 130) : E).tden ρ), (0 : Int), (((.var 140) : E).den ρ))] h0 (by simp only [E.den]; omega) (by simp only [E.den]; omega) (by simp only [E.den]; omega) (by simp only [E.den, BO.den]; exact add_i64 (by omega) (by omega)) (by simp only [E.den, BO.den]; exact add_i64 (by omega) (by omega)) (fun r => by simp only [E.tden, E.den, and_true]; rfl)
    · exact h1
  · simp only [List.mem_cons, List.not_mem_nil, or_false] at hr
    rcases hr with rfl | rfl
    · show waits (((.tv 120) : E).tden ρ) ([((((.tv 130) : E).tden ρ), (0 : Int), (((.var 140) : E).den ρ)), ((((.tv 131) : E).tden ρ), (0 : Int), (((.var 141) : E).den ρ))] ++ [((((.upd (.tv 0) (.lit (.ofNat 0)) 0 (.var 110)) : E).tden ρ), (0 : Int), (((.lit (.ofNat 1)) : E).den ρ))]) (((.bin (.add .i64) (.var 110) (.lit (.ofNat 1))) : E).den ρ)
      exact waits_new h0 (by simp only [E.den]; omega) (by simp only [E.den]; omega) (by simp only [E.den, BO.den]; exact add_i64 (by omega) (by omega)) rfl (by simp [E.tden, E.den])
    · exact h1
⟩
theorem good_l1_18_0 : GoodP rnL cd3 (F_D2 ++ lem_l1_18) T_D2.toS (some ⟨T_G2, F_G2, [(110, none)], fm7⟩) [(1, ⟨T_C2, F_C2, [(110, none)], fm5⟩), (0, ⟨T_E0, F_E0, [], fm1⟩)] [] := ⟨[([((.bin .lt (.var 110) (.var 0)), true), ((.bin .lt (.bin (.add .i64) (.var 110) (.lit (.ofNat 1))) (.var 141)), false), ((.bin .lt (.bin (.add .i64) (.var 110) (.lit (.ofNat 1))) (.var 140)), false)], [(.fact (.sem 0 sem0 [(.tv 120), (.tv 130), (.tv 131)] [(.bin (.add .i64) (.var 110) (.lit (.ofNat 1))), (.lit (.ofNat 0)), (.var 140), (.lit (.ofNat 0)), (.var 141)])), (.fact (.sem 1 sem1 [(.tv 121)] [(.var 110)]))])], by kernel_rfl, by
  intro ρ hk ob hob hp rr hr
  have hF : ∀ g ∈ F_D2, Fact.holds ρ g := fun g hg => hk g (List.mem_append_left _ hg)
  have h0 : waits (((.tv 120) : E).tden ρ) [((((.tv 130) : E).tden ρ), (0 : Int), (((.var 140) : E).den ρ)), ((((.tv 131) : E).tden ρ), (0 : Int), (((.var 141) : E).den ρ))] (((.bin (.add .i64) (.var 110) (.lit (.ofNat 1))) : E).den ρ) := hF (.sem 0 sem0 [(.tv 120), (.tv 130), (.tv 131)] [(.bin (.add .i64) (.var 110) (.lit (.ofNat 1))), z, (.var 140), z, (.var 141)]) (by simp [F_D2])
  have h1 : rows (((.tv 121) : E).tden ρ) (((.var 110) : E).den ρ) := hF (.sem 1 sem1 [(.tv 121)] [(.var 110)]) (by simp [F_D2])
  have b110_100 : 0 ≤ ρ.v 110 ∧ ρ.v 110 ≤ 100 := rng_iff.1 (hF (r 110 0 100) (by simp [F_D2]))
  have b140_100 : 1 ≤ ρ.v 140 ∧ ρ.v 140 ≤ 100 := rng_iff.1 (hF (r 140 1 100) (by simp [F_D2]))
  have b141_100 : 1 ≤ ρ.v 141 ∧ ρ.v 141 ≤ 100 := rng_iff.1 (hF (r 141 1 100) (by simp [F_D2]))
  have b110_99 : 0 ≤ ρ.v 110 ∧ ρ.v 110 ≤ 99 := rng_iff.1 (hF (r 110 0 99) (by simp [F_D2]))
  simp only [List.mem_cons, List.not_mem_nil, or_false] at hob
  rcases hob with rfl
  · simp only [List.mem_cons, List.not_mem_nil, or_false] at hr
    rcases hr with rfl | rfl
    · exact h0
    · exact h1
⟩
theorem good_l1_19_0 : GoodP rnL cd3 (F_D3 ++ lem_l1_19) T_D3.toS (some ⟨T_G2, F_G2, [(110, none)], fm7⟩) [(1, ⟨T_C2, F_C2, [(110, none)], fm5⟩), (0, ⟨T_E0, F_E0, [], fm1⟩)] [] := ⟨[([((.bin .lt (.var 110) (.var 0)), true), ((.bin .lt (.bin (.add .i64) (.var 110) (.lit (.ofNat 1))) (.var 142)), false), ((.bin .lt (.bin (.add .i64) (.var 110) (.lit (.ofNat 1))) (.var 141)), false), ((.bin .lt (.bin (.add .i64) (.var 110) (.lit (.ofNat 1))) (.var 140)), false)], [(.fact (.sem 0 sem0 [(.tv 120), (.tv 130), (.tv 131), (.tv 132)] [(.bin (.add .i64) (.var 110) (.lit (.ofNat 1))), (.lit (.ofNat 0)), (.var 140), (.lit (.ofNat 0)), (.var 141), (.lit (.ofNat 0)), (.var 142)])), (.fact (.sem 1 sem1 [(.tv 121)] [(.var 110)]))])], by kernel_rfl, by
  intro ρ hk ob hob hp rr hr
  have hF : ∀ g ∈ F_D3, Fact.holds ρ g := fun g hg => hk g (List.mem_append_left _ hg)
  have h0 : waits (((.tv 120) : E).tden ρ) [((((.tv 130) : E).tden ρ), (0 : Int), (((.var 140) : E).den ρ)), ((((.tv 131) : E).tden ρ), (0 : Int), (((.var 141) : E).den ρ)), ((((.tv 132) : E).tden ρ), (0 : Int), (((.var 142) : E).den ρ))] (((.bin (.add .i64) (.var 110) (.lit (.ofNat 1))) : E).den ρ) := hF (.sem 0 sem0 [(.tv 120), (.tv 130), (.tv 131), (.tv 132)] [(.bin (.add .i64) (.var 110) (.lit (.ofNat 1))), z, (.var 140), z, (.var 141), z, (.var 142)]) (by simp [F_D3])
  have h1 : rows (((.tv 121) : E).tden ρ) (((.var 110) : E).den ρ) := hF (.sem 1 sem1 [(.tv 121)] [(.var 110)]) (by simp [F_D3])
  have b110_100 : 0 ≤ ρ.v 110 ∧ ρ.v 110 ≤ 100 := rng_iff.1 (hF (r 110 0 100) (by simp [F_D3]))
  have b140_100 : 1 ≤ ρ.v 140 ∧ ρ.v 140 ≤ 100 := rng_iff.1 (hF (r 140 1 100) (by simp [F_D3]))
  have b141_100 : 1 ≤ ρ.v 141 ∧ ρ.v 141 ≤ 100 := rng_iff.1 (hF (r 141 1 100) (by simp [F_D3]))
  have b142_100 : 1 ≤ ρ.v 142 ∧ ρ.v 142 ≤ 100 := rng_iff.1 (hF (r 142 1 100) (by simp [F_D3]))
  have b110_99 : 0 ≤ ρ.v 110 ∧ ρ.v 110 ≤ 99 := rng_iff.1 (hF (r 110 0 99) (by simp [F_D3]))
  simp only [List.mem_cons, List.not_mem_nil, or_false] at hob
  rcases hob with rfl
  · simp only [List.mem_cons, List.not_mem_nil, or_false] at hr
    rcases hr with rfl | rfl
    · exact h0
    · exact h1
⟩
theorem good_l1_20_0 : GoodP rnL (cd2.drop 3) (F_G2 ++ lem_l1_20) T_G2.toS (some ⟨T_C2, F_C2, [(110, none)], fm5⟩) [(1, ⟨T_C2, F_C2, [(110, none)], fm5⟩), (0, ⟨T_E0, F_E0, [], fm1⟩)] [] := ⟨[([((.bin .lt (.var 110) (.var 0)), true), ((.bin .lt (.bin (.add .i64) (.var 110) (.lit (.ofNat 1))) (.var 141)), false), ((.bin .lt (.bin (.add .i64) (.var 110) (.lit (.ofNat 1))) (.var 140)), false)], [(.fact (.sem 0 sem0 [(.tv 120), (.tv 130), (.tv 131)] [(.bin (.add .i64) (.var 110) (.lit (.ofNat 1))), (.lit (.ofNat 0)), (.var 140), (.lit (.ofNat 0)), (.var 141)])), (.fact (.sem 1 sem1 [(.upd (.tv 121) (.var 110) 0 (.var 110))] [(.bin (.add .i64) (.var 110) (.lit (.ofNat 1)))]))])], by kernel_rfl, by
  intro ρ hk ob hob hp rr hr
  have hF : ∀ g ∈ F_G2, Fact.holds ρ g := fun g hg => hk g (List.mem_append_left _ hg)
  have h0 : waits (((.tv 120) : E).tden ρ) [((((.tv 130) : E).tden ρ), (0 : Int), (((.var 140) : E).den ρ)), ((((.tv 131) : E).tden ρ), (0 : Int), (((.var 141) : E).den ρ))] (((.bin (.add .i64) (.var 110) (.lit (.ofNat 1))) : E).den ρ) := hF (.sem 0 sem0 [(.tv 120), (.tv 130), (.tv 131)] [(.bin (.add .i64) (.var 110) (.lit (.ofNat 1))), z, (.var 140), z, (.var 141)]) (by simp [F_G2])
  have h1 : rows (((.tv 121) : E).tden ρ) (((.var 110) : E).den ρ) := hF (.sem 1 sem1 [(.tv 121)] [(.var 110)]) (by simp [F_G2])
  have b110_100 : 0 ≤ ρ.v 110 ∧ ρ.v 110 ≤ 100 := rng_iff.1 (hF (r 110 0 100) (by simp [F_G2]))
  have b140_100 : 1 ≤ ρ.v 140 ∧ ρ.v 140 ≤ 100 := rng_iff.1 (hF (r 140 1 100) (by simp [F_G2]))
  have b141_100 : 1 ≤ ρ.v 141 ∧ ρ.v 141 ≤ 100 := rng_iff.1 (hF (r 141 1 100) (by simp [F_G2]))
  have b110_99 : 0 ≤ ρ.v 110 ∧ ρ.v 110 ≤ 99 := rng_iff.1 (hF (r 110 0 99) (by simp [F_G2]))
  simp only [List.mem_cons, List.not_mem_nil, or_false] at hob
  rcases hob with rfl
  · simp only [List.mem_cons, List.not_mem_nil, or_false] at hr
    rcases hr with rfl | rfl
    · exact h0
    · exact rows_app h1 (by simp only [E.den]; omega) (by simp only [E.den]; omega) (by simp only [E.den, BO.den]; exact add_i64 (by omega) (by omega)) (fun r => by simp only [E.tden, E.den, and_true]; rfl)
⟩
theorem good_l1_21_0 : GoodP rnL (cd2.drop 3) (F_G3 ++ lem_l1_21) T_G3.toS (some ⟨T_C2, F_C2, [(110, none)], fm5⟩) [(1, ⟨T_C2, F_C2, [(110, none)], fm5⟩), (0, ⟨T_E0, F_E0, [], fm1⟩)] [] := ⟨[([((.bin .lt (.var 110) (.var 0)), true), ((.bin .lt (.bin (.add .i64) (.var 110) (.lit (.ofNat 1))) (.var 142)), false), ((.bin .lt (.bin (.add .i64) (.var 110) (.lit (.ofNat 1))) (.var 141)), false), ((.bin .lt (.bin (.add .i64) (.var 110) (.lit (.ofNat 1))) (.var 140)), false)], [(.fact (.sem 0 sem0 [(.tv 120), (.tv 130), (.tv 131), (.tv 132)] [(.bin (.add .i64) (.var 110) (.lit (.ofNat 1))), (.lit (.ofNat 0)), (.var 140), (.lit (.ofNat 0)), (.var 141), (.lit (.ofNat 0)), (.var 142)])), (.fact (.sem 1 sem1 [(.upd (.tv 121) (.var 110) 0 (.var 110))] [(.bin (.add .i64) (.var 110) (.lit (.ofNat 1)))]))])], by kernel_rfl, by
  intro ρ hk ob hob hp rr hr
  have hF : ∀ g ∈ F_G3, Fact.holds ρ g := fun g hg => hk g (List.mem_append_left _ hg)
  have h0 : waits (((.tv 120) : E).tden ρ) [((((.tv 130) : E).tden ρ), (0 : Int), (((.var 140) : E).den ρ)), ((((.tv 131) : E).tden ρ), (0 : Int), (((.var 141) : E).den ρ)), ((((.tv 132) : E).tden ρ), (0 : Int), (((.var 142) : E).den ρ))] (((.bin (.add .i64) (.var 110) (.lit (.ofNat 1))) : E).den ρ) := hF (.sem 0 sem0 [(.tv 120), (.tv 130), (.tv 131), (.tv 132)] [(.bin (.add .i64) (.var 110) (.lit (.ofNat 1))), z, (.var 140), z, (.var 141), z, (.var 142)]) (by simp [F_G3])
  have h1 : rows (((.tv 121) : E).tden ρ) (((.var 110) : E).den ρ) := hF (.sem 1 sem1 [(.tv 121)] [(.var 110)]) (by simp [F_G3])
  have b110_100 : 0 ≤ ρ.v 110 ∧ ρ.v 110 ≤ 100 := rng_iff.1 (hF (r 110 0 100) (by simp [F_G3]))
  have b140_100 : 1 ≤ ρ.v 140 ∧ ρ.v 140 ≤ 100 := rng_iff.1 (hF (r 140 1 100) (by simp [F_G3]))
  have b141_100 : 1 ≤ ρ.v 141 ∧ ρ.v 141 ≤ 100 := rng_iff.1 (hF (r 141 1 100) (by simp [F_G3]))
  have b142_100 : 1 ≤ ρ.v 142 ∧ ρ.v 142 ≤ 100 := rng_iff.1 (hF (r 142 1 100) (by simp [F_G3]))
  have b110_99 : 0 ≤ ρ.v 110 ∧ ρ.v 110 ≤ 99 := rng_iff.1 (hF (r 110 0 99) (by simp [F_G3]))
  simp only [List.mem_cons, List.not_mem_nil, or_false] at hob
  rcases hob with rfl
  · simp only [List.mem_cons, List.not_mem_nil, or_false] at hr
    rcases hr with rfl | rfl
    · exact h0
    · exact rows_app h1 (by simp only [E.den]; omega) (by simp only [E.den]; omega) (by simp only [E.den, BO.den]; exact add_i64 (by omega) (by omega)) (fun r => by simp only [E.tden, E.den, and_true]; rfl)
⟩
theorem good_l1_22_0 : GoodP rnL (cd1.drop 3) (F_C2 ++ lem_l1_22) T_C2.toS (some ⟨T_A0, F_A0, [(110, some 101)], fm0⟩) [(0, ⟨T_E0, F_E0, [], fm1⟩)] [] := ⟨[([((.bin .lt (.bin (.add .i64) (.var 110) (.lit (.ofNat 1))) (.var 141)), false), ((.bin .lt (.bin (.add .i64) (.var 110) (.lit (.ofNat 1))) (.var 140)), false)], [(.fact (.sem 0 sem0 [(.tv 120), (.tv 130), (.tv 131)] [(.bin (.add .i64) (.var 110) (.lit (.ofNat 1))), (.lit (.ofNat 0)), (.var 140), (.lit (.ofNat 0)), (.var 141)])), (.fact (.sem 1 sem1 [(.tv 121)] [(.bin (.add .i64) (.var 110) (.lit (.ofNat 1)))]))])], by kernel_rfl, by
  intro ρ hk ob hob hp rr hr
  have hF : ∀ g ∈ F_C2, Fact.holds ρ g := fun g hg => hk g (List.mem_append_left _ hg)
  have h0 : waits (((.tv 120) : E).tden ρ) [((((.tv 130) : E).tden ρ), (0 : Int), (((.var 140) : E).den ρ)), ((((.tv 131) : E).tden ρ), (0 : Int), (((.var 141) : E).den ρ))] (((.bin (.add .i64) (.var 110) (.lit (.ofNat 1))) : E).den ρ) := hF (.sem 0 sem0 [(.tv 120), (.tv 130), (.tv 131)] [(.bin (.add .i64) (.var 110) (.lit (.ofNat 1))), z, (.var 140), z, (.var 141)]) (by simp [F_C2])
  have h1 : rows (((.tv 121) : E).tden ρ) (((.bin (.add .i64) (.var 110) (.lit (.ofNat 1))) : E).den ρ) := hF (.sem 1 sem1 [(.tv 121)] [(.bin (.add .i64) (.var 110) (.lit (.ofNat 1)))]) (by simp [F_C2])
  have b110_100 : 0 ≤ ρ.v 110 ∧ ρ.v 110 ≤ 100 := rng_iff.1 (hF (r 110 0 100) (by simp [F_C2]))
  have b140_100 : 1 ≤ ρ.v 140 ∧ ρ.v 140 ≤ 100 := rng_iff.1 (hF (r 140 1 100) (by simp [F_C2]))
  have b141_100 : 1 ≤ ρ.v 141 ∧ ρ.v 141 ≤ 100 := rng_iff.1 (hF (r 141 1 100) (by simp [F_C2]))
  have b110_99 : 0 ≤ ρ.v 110 ∧ ρ.v 110 ≤ 99 := rng_iff.1 (hF (r 110 0 99) (by simp [F_C2]))
  simp only [List.mem_cons, List.not_mem_nil, or_false] at hob
  rcases hob with rfl
  · simp only [List.mem_cons, List.not_mem_nil, or_false] at hr
    rcases hr with rfl | rfl
    · exact h0
    · exact h1
⟩
theorem good_l1_23_0 : GoodP rnL (cd1.drop 3) (F_C3 ++ lem_l1_23) T_C3.toS (some ⟨T_A0, F_A0, [(110, some 101)], fm0⟩) [(0, ⟨T_E0, F_E0, [], fm1⟩)] [] := ⟨[([((.bin .lt (.bin (.add .i64) (.var 110) (.lit (.ofNat 1))) (.var 142)), false), ((.bin .lt (.bin (.add .i64) (.var 110) (.lit (.ofNat 1))) (.var 141)), false), ((.bin .lt (.bin (.add .i64) (.var 110) (.lit (.ofNat 1))) (.var 140)), false)], [(.fact (.sem 0 sem0 [(.tv 120), (.tv 130), (.tv 131), (.tv 132)] [(.bin (.add .i64) (.var 110) (.lit (.ofNat 1))), (.lit (.ofNat 0)), (.var 140), (.lit (.ofNat 0)), (.var 141), (.lit (.ofNat 0)), (.var 142)])), (.fact (.sem 1 sem1 [(.tv 121)] [(.bin (.add .i64) (.var 110) (.lit (.ofNat 1)))]))])], by kernel_rfl, by
  intro ρ hk ob hob hp rr hr
  have hF : ∀ g ∈ F_C3, Fact.holds ρ g := fun g hg => hk g (List.mem_append_left _ hg)
  have h0 : waits (((.tv 120) : E).tden ρ) [((((.tv 130) : E).tden ρ), (0 : Int), (((.var 140) : E).den ρ)), ((((.tv 131) : E).tden ρ), (0 : Int), (((.var 141) : E).den ρ)), ((((.tv 132) : E).tden ρ), (0 : Int), (((.var 142) : E).den ρ))] (((.bin (.add .i64) (.var 110) (.lit (.ofNat 1))) : E).den ρ) := hF (.sem 0 sem0 [(.tv 120), (.tv 130), (.tv 131), (.tv 132)] [(.bin (.add .i64) (.var 110) (.lit (.ofNat 1))), z, (.var 140), z, (.var 141), z, (.var 142)]) (by simp [F_C3])
  have h1 : rows (((.tv 121) : E).tden ρ) (((.bin (.add .i64) (.var 110) (.lit (.ofNat 1))) : E).den ρ) := hF (.sem 1 sem1 [(.tv 121)] [(.bin (.add .i64) (.var 110) (.lit (.ofNat 1)))]) (by simp [F_C3])
  have b110_100 : 0 ≤ ρ.v 110 ∧ ρ.v 110 ≤ 100 := rng_iff.1 (hF (r 110 0 100) (by simp [F_C3]))
  have b140_100 : 1 ≤ ρ.v 140 ∧ ρ.v 140 ≤ 100 := rng_iff.1 (hF (r 140 1 100) (by simp [F_C3]))
  have b141_100 : 1 ≤ ρ.v 141 ∧ ρ.v 141 ≤ 100 := rng_iff.1 (hF (r 141 1 100) (by simp [F_C3]))
  have b142_100 : 1 ≤ ρ.v 142 ∧ ρ.v 142 ≤ 100 := rng_iff.1 (hF (r 142 1 100) (by simp [F_C3]))
  have b110_99 : 0 ≤ ρ.v 110 ∧ ρ.v 110 ≤ 99 := rng_iff.1 (hF (r 110 0 99) (by simp [F_C3]))
  simp only [List.mem_cons, List.not_mem_nil, or_false] at hob
  rcases hob with rfl
  · simp only [List.mem_cons, List.not_mem_nil, or_false] at hr
    rcases hr with rfl | rfl
    · exact h0
    · exact h1
⟩
end Go.Proofs.Ytdicippbniglpaa.mshrWaits
