/-
  'MshrWaits': runs of its parts, checked by the kernel. Printed by program.
-/
import Derived.Test.YtdicippbniglpaaMshrWaitsL
namespace Go.Proofs.Ytdicippbniglpaa.mshrWaits
open Go.ChangeShapes Go.WideShapes Go.ChangeAt Go.RowKit Go.Sx
set_option linter.unusedVariables false
set_option linter.unusedSimpArgs false
set_option maxRecDepth 100000
set_option maxHeartbeats 1600000
theorem good_l1_24_0 : GoodP rnL (cd1.take 2) (F_A3 ++ lem_l1_24) T_A3.toS (some ⟨T_B3, F_B3, [(110, none)], []⟩) [(0, ⟨T_E0, F_E0, [], fm1⟩)] [] := ⟨[([((.bin .lt (.var 110) (.lit (.ofNat 100))), true), ((.bin .lt (.var 110) (.var 0)), true), ((.bin .lt (.var 110) (.var 142)), false), ((.bin .lt (.var 110) (.var 141)), false), ((.bin .lt (.var 110) (.var 140)), false)], [(.fact (.sem 0 sem0 [(.tv 120), (.tv 130), (.tv 131), (.tv 132)] [(.var 110), (.lit (.ofNat 0)), (.var 140), (.lit (.ofNat 0)), (.var 141), (.lit (.ofNat 0)), (.var 142)])), (.fact (.sem 1 sem1 [(.tv 121)] [(.var 110)]))]),
  ([((.bin .lt (.var 110) (.lit (.ofNat 100))), false), ((.bin .lt (.var 110) (.var 0)), true), ((.bin .lt (.var 110) (.var 142)), false), ((.bin .lt (.var 110) (.var 141)), false), ((.bin .lt (.var 110) (.var 140)), false)], [(.fact (.sem 0 sem0 [(.tv 120), (.tv 130), (.tv 131), (.tv 132)] [(.lit (.ofNat 100)), (.lit (.ofNat 0)), (.var 140), (.lit (.ofNat 0)), (.var 141), (.lit (.ofNat 0)), (.var 142)])), (.fact (.sem 1 sem1 [(.tv 121)] [(.lit (.ofNat 100))]))]),
  ([((.bin .lt (.var 110) (.var 0)), false), ((.bin .lt (.var 110) (.var 142)), false), ((.bin .lt (.var 110) (.var 141)), false), ((.bin .lt (.var 110) (.var 140)), false)], [(.fact (.sem 0 sem0 [(.tv 120), (.tv 130), (.tv 131), (.tv 132)] [(.var 110), (.lit (.ofNat 0)), (.var 140), (.lit (.ofNat 0)), (.var 141), (.lit (.ofNat 0)), (.var 142)])), (.fact (.sem 1 sem1 [(.tv 121)] [(.var 110)]))])], by kernel_rfl, by
  intro ρ hk ob hob hp rr hr
  have hF : ∀ g ∈ F_A3, Fact.holds ρ g := fun g hg => hk g (List.mem_append_left _ hg)
  have h0 : waits (((.tv 120) : E).tden ρ) [((((.tv 130) : E).tden ρ), (0 : Int), (((.var 140) : E).den ρ)), ((((.tv 131) : E).tden ρ), (0 : Int), (((.var 141) : E).den ρ)), ((((.tv 132) : E).tden ρ), (0 : Int), (((.var 142) : E).den ρ))] (((.var 110) : E).den ρ) := hF (.sem 0 sem0 [(.tv 120), (.tv 130), (.tv 131), (.tv 132)] [(.var 110), z, (.var 140), z, (.var 141), z, (.var 142)]) (by simp [F_A3])
  have h1 : rows (((.tv 121) : E).tden ρ) (((.var 110) : E).den ρ) := hF (.sem 1 sem1 [(.tv 121)] [(.var 110)]) (by simp [F_A3])
  have b110_100 : 0 ≤ ρ.v 110 ∧ ρ.v 110 ≤ 100 := rng_iff.1 (hF (r 110 0 100) (by simp [F_A3]))
  have b140_100 : 1 ≤ ρ.v 140 ∧ ρ.v 140 ≤ 100 := rng_iff.1 (hF (r 140 1 100) (by simp [F_A3]))
  have b141_100 : 1 ≤ ρ.v 141 ∧ ρ.v 141 ≤ 100 := rng_iff.1 (hF (r 141 1 100) (by simp [F_A3]))
  have b142_100 : 1 ≤ ρ.v 142 ∧ ρ.v 142 ≤ 100 := rng_iff.1 (hF (r 142 1 100) (by simp [F_A3]))
  simp only [List.mem_cons, List.not_mem_nil, or_false] at hob
  rcases hob with rfl | rfl | rfl
  · simp only [List.mem_cons, List.not_mem_nil, or_false] at hr
    have t0 := lt_iff.1 (hp ((.bin .lt (.var 110) (.lit (.ofNat 100))), true) (by simp))
    simp only [E.den, UO.den, iff_true, Int.ofNat_eq_natCast] at t0
    rcases hr with rfl | rfl
    · exact h0
    · exact h1
  · simp only [List.mem_cons, List.not_mem_nil, or_false] at hr
    have t0 := lt_iff.1 (hp ((.bin .lt (.var 110) (.lit (.ofNat 100))), false) (by simp))
    simp only [E.den, UO.den, Bool.false_eq_true, iff_false, Int.ofNat_eq_natCast] at t0
    rcases hr with rfl | rfl
    · have e : ((.var 110 : E).den ρ) = Int.ofNat 100 := by
        simp only [E.den, Int.ofNat_eq_natCast]
        omega
      have h := h0
      rw [e] at h
      exact h
    · have e : ((.var 110 : E).den ρ) = Int.ofNat 100 := by
        simp only [E.den, Int.ofNat_eq_natCast]
        omega
      have h := h1
      rw [e] at h
      exact h
  · simp only [List.mem_cons, List.not_mem_nil, or_false] at hr
    rcases hr with rfl | rfl
    · exact h0
    · exact h1
⟩
theorem good_l1_25_0 : GoodP rnL (cd2.take 2) (F_B3 ++ lem_l1_25) T_B3.toS (some ⟨T_D3, F_D3, [(110, none)], fm9⟩) [(1, ⟨T_C3, F_C3, [(110, none)], fm8⟩), (0, ⟨T_E0, F_E0, [], fm1⟩)] [] := ⟨[([((.bin .eq (.var 150) (.bin (.and .u64) (.un (.wrap .u64) (.get (.tv 0) (.var 110) 0)) (.lit (.ofNat 18446744073709551552)))), true), ((.bin .lt (.var 110) (.var 0)), true), ((.bin .lt (.var 110) (.var 142)), false), ((.bin .lt (.var 110) (.var 141)), false), ((.bin .lt (.var 110) (.var 140)), false)], [(.fact (.sem 0 sem0 [(.tv 120), (.upd (.tv 130) (.var 140) 0 (.var 110)), (.tv 131), (.tv 132)] [(.bin (.add .i64) (.var 110) (.lit (.ofNat 1))), (.lit (.ofNat 0)), (.bin (.add .i64) (.var 140) (.lit (.ofNat 1))), (.lit (.ofNat 0)), (.var 141), (.lit (.ofNat 0)), (.var 142)])), (.fact (.sem 1 sem1 [(.tv 121)] [(.var 110)]))]),
  ([((.bin .eq (.var 151) (.bin (.and .u64) (.un (.wrap .u64) (.get (.tv 0) (.var 110) 0)) (.lit (.ofNat 18446744073709551552)))), true), ((.bin .eq (.var 150) (.bin (.and .u64) (.un (.wrap .u64) (.get (.tv 0) (.var 110) 0)) (.lit (.ofNat 18446744073709551552)))), false), ((.bin .lt (.var 110) (.var 0)), true), ((.bin .lt (.var 110) (.var 142)), false), ((.bin .lt (.var 110) (.var 141)), false), ((.bin .lt (.var 110) (.var 140)), false)], [(.fact (.sem 0 sem0 [(.tv 120), (.tv 130), (.upd (.tv 131) (.var 141) 0 (.var 110)), (.tv 132)] [(.bin (.add .i64) (.var 110) (.lit (.ofNat 1))), (.lit (.ofNat 0)), (.var 140), (.lit (.ofNat 0)), (.bin (.add .i64) (.var 141) (.lit (.ofNat 1))), (.lit (.ofNat 0)), (.var 142)])), (.fact (.sem 1 sem1 [(.tv 121)] [(.var 110)]))]),
  ([((.bin .eq (.var 152) (.bin (.and .u64) (.un (.wrap .u64) (.get (.tv 0) (.var 110) 0)) (.lit (.ofNat 18446744073709551552)))), true), ((.bin .eq (.var 151) (.bin (.and .u64) (.un (.wrap .u64) (.get (.tv 0) (.var 110) 0)) (.lit (.ofNat 18446744073709551552)))), false), ((.bin .eq (.var 150) (.bin (.and .u64) (.un (.wrap .u64) (.get (.tv 0) (.var 110) 0)) (.lit (.ofNat 18446744073709551552)))), false), ((.bin .lt (.var 110) (.var 0)), true), ((.bin .lt (.var 110) (.var 142)), false), ((.bin .lt (.var 110) (.var 141)), false), ((.bin .lt (.var 110) (.var 140)), false)], [(.fact (.sem 0 sem0 [(.tv 120), (.tv 130), (.tv 131), (.upd (.tv 132) (.var 142) 0 (.var 110))] [(.bin (.add .i64) (.var 110) (.lit (.ofNat 1))), (.lit (.ofNat 0)), (.var 140), (.lit (.ofNat 0)), (.var 141), (.lit (.ofNat 0)), (.bin (.add .i64) (.var 142) (.lit (.ofNat 1)))])), (.fact (.sem 1 sem1 [(.tv 121)] [(.var 110)]))]),
  ([((.bin .eq (.var 152) (.bin (.and .u64) (.un (.wrap .u64) (.get (.tv 0) (.var 110) 0)) (.lit (.ofNat 18446744073709551552)))), false), ((.bin .eq (.var 151) (.bin (.and .u64) (.un (.wrap .u64) (.get (.tv 0) (.var 110) 0)) (.lit (.ofNat 18446744073709551552)))), false), ((.bin .eq (.var 150) (.bin (.and .u64) (.un (.wrap .u64) (.get (.tv 0) (.var 110) 0)) (.lit (.ofNat 18446744073709551552)))), false), ((.bin .lt (.var 110) (.var 0)), true), ((.bin .lt (.var 110) (.var 142)), false), ((.bin .lt (.var 110) (.var 141)), false), ((.bin .lt (.var 110) (.var 140)), false)], [(.fact (.sem 0 sem0 [(.tv 120), (.tv 130), (.tv 131), (.tv 132), (.upd (.tv 0) (.lit (.ofNat 0)) 0 (.var 110))] [(.bin (.add .i64) (.var 110) (.lit (.ofNat 1))), (.lit (.ofNat 0)), (.var 140), (.lit (.ofNat 0)), (.var 141), (.lit (.ofNat 0)), (.var 142), (.lit (.ofNat 0)), (.lit (.ofNat 1))])), (.fact (.sem 1 sem1 [(.tv 121)] [(.var 110)]))])], by kernel_rfl, by
  intro ρ hk ob hob hp rr hr
  have hF : ∀ g ∈ F_B3, Fact.holds ρ g := fun g hg => hk g (List.mem_append_left _ hg)
  have h0 : waits (((.tv 120) : E).tden ρ) [((((.tv 130) : E).tden ρ), (0 : Int), (((.var 140) : E).den ρ)), ((((.tv 131) : E).tden ρ), (0 : Int), (((.var 141) : E).den ρ)), ((((.tv 132) : E).tden ρ), (0 : Int), (((.var 142) : E).den ρ))] (((.var 110) : E).den ρ) := hF (.sem 0 sem0 [(.tv 120), (.tv 130), (.tv 131), (.tv 132)] [(.var 110), z, (.var 140), z, (.var 141), z, (.var 142)]) (by simp [F_B3])
  have h1 : rows (((.tv 121) : E).tden ρ) (((.var 110) : E).den ρ) := hF (.sem 1 sem1 [(.tv 121)] [(.var 110)]) (by simp [F_B3])
  have b110_100 : 0 ≤ ρ.v 110 ∧ ρ.v 110 ≤ 100 := rng_iff.1 (hF (r 110 0 100) (by simp [F_B3]))
  have b140_100 : 1 ≤ ρ.v 140 ∧ ρ.v 140 ≤ 100 := rng_iff.1 (hF (r 140 1 100) (by simp [F_B3]))
  have b141_100 : 1 ≤ ρ.v 141 ∧ ρ.v 141 ≤ 100 := rng_iff.1 (hF (r 141 1 100) (by simp [F_B3]))
  have b142_100 : 1 ≤ ρ.v 142 ∧ ρ.v 142 ≤ 100 := rng_iff.1 (hF (r 142 1 100) (by simp [F_B3]))
  have b110_99 : 0 ≤ ρ.v 110 ∧ ρ.v 110 ≤ 99 := rng_iff.1 (hF (r 110 0 99) (by simp [F_B3]))
  simp only [List.mem_cons, List.not_mem_nil, or_false] at hob
  rcases hob with rfl | rfl | rfl | rfl
  · simp only [List.mem_cons, List.not_mem_nil, or_false] at hr
    rcases hr with rfl | rfl
    · show waits (((.tv 120) : E).tden ρ) ([] ++ ((((.upd (.tv 130) (.var 140) 0 (.var 110)) : E).tden ρ), (0 : Int), (((.bin (.add .i64) (.var 140) (.lit (.ofNat 1))) : E).den ρ)) :: [((((.tv 131) : E).tden ρ), (0 : Int), (((.var 141) : E).den ρ)), ((((.tv 132) : E).tden ρ), (0 : Int), (((.var 142) : E).den ρ))]) (((.bin (.add .i64) (.var 110) (.lit (.ofNat 1))) : E).den ρ)
      exact waits_app (t := (((.tv 130) : E).tden ρ)) (b := (((.var 140) : E).den ρ)) [] h0 (by simp only [E.den]; omega) (by simp only [E.den]; omega) (by simp only [E.den]; omega) (by simp only [E.den, BO.den]; exact add_i64 (by omega) (by omega)) (by simp only [E.den, BO.den]; exact add_i64 (by omega) (by omega)) (fun r => by simp only [E.tden, E.den, and_true]; rfl)
    · exact h1
  · simp only [List.mem_cons, List.not_mem_nil, or_false] at hr
    rcases hr with rfl | rfl
    · show waits (((.tv 120) : E).tden ρ) ([((((.tv 130) : E).tden ρ), (0 : Int), (((.var 140) : E).den ρ))] ++ ((((.upd (.tv 131) (.var 141) 0 (.var 110)) : E).tden ρ), (0 : Int), (((.bin (.add .i64) (.var 141) (.lit (.ofNat 1))) : E).den ρ)) :: [((((.tv 132) : E).tden ρ), (0 : Int), (((.var 142) : E).den ρ))]) (((.bin (.add .i64) (.var 110) (.lit (.ofNat 1))) : E).den ρ)
      exact waits_app (t := (((.tv 131) : E).tden ρ)) (b := (((.var 141) : E).den ρ)) [((((.tv 130) : E).tden ρ), (0 : Int), (((.var 140) : E).den ρ))] h0 (by simp only [E.den]; omega) (by simp only [E.den]; omega) (by simp only [E.den]; omega) (by simp only [E.den, BO.den]; exact add_i64 (by omega) (by omega)) (by simp only [E.den, BO.den]; exact add_i64 (by omega) (by omega)) (fun r => by simp only [E.tden, E.den, and_true]; rfl)
    · exact h1
  · simp only [List.mem_cons, List.not_mem_nil, or_false] at hr
    rcases hr with rfl | rfl
    · show waits (((.tv 120) : E).tden ρ) ([((((.tv 130) : E).tden ρ), (0 : Int), (((.var 140) : E).den ρ)), ((((.tv 131) : E).tden ρ), (0 : Int), (((.var 141) : E).den ρ))] ++ ((((.upd (.tv 132) (.var 142) 0 (.var 110)) : E).tden ρ), (0 : Int), (((.bin (.add .i64) (.var 142) (.lit (.ofNat 1))) : E).den ρ)) :: []) (((.bin (.add .i64) (.var 110) (.lit (.ofNat 1))) : E).den ρ)
      exact waits_app (t := (((.tv 132) : E).tden ρ)) (b := (((.var 142) : E).den ρ)) [((((.tv 130) : E).tden ρ), (0 : Int), (((.var 140) : E).den ρ)), ((((.tv 131) : E).tden ρ), (0 : Int), (((.var 141) : E).den ρ))] h0 (by simp only [E.den]; omega) (by simp only [E.den]; omega) (by simp only [E.den]; omega) (by simp only [E.den, BO.den]; exact add_i64 (by omega) (by omega)) (by simp only [E.den, BO.den]; exact add_i64 (by omega) (by omega)) (fun r => by simp only [E.tden, E.den, and_true]; rfl)
    · exact h1
  · simp only [List.mem_cons, List.not_mem_nil, or_false] at hr
    rcases hr with rfl | rfl
    · show waits (((.tv 120) : E).tden ρ) ([((((.tv 130) : E).tden ρ), (0 : Int), (((.var 140) : E).den ρ)), ((((.tv 131) : E).tden ρ), (0 : Int), (((.var 141) : E).den ρ)), ((((.tv 132) : E).tden ρ), (0 : Int), (((.var 142) : E).den ρ))] ++ [((((.upd (.tv 0) (.lit (.ofNat 0)) 0 (.var 110)) : E).tden ρ), (0 : Int), (((.lit (.ofNat 1)) : E).den ρ))]) (((.bin (.add .i64) (.var 110) (.lit (.ofNat 1))) : E).den ρ)
      exact waits_new h0 (by simp only [E.den]; omega) (by simp only [E.den]; omega) (by simp only [E.den, BO.den]; exact add_i64 (by omega) (by omega)) rfl (by simp [E.tden, E.den])
    · exact h1
⟩
theorem good_l1_26_0 : GoodP rnL cd3 (F_D3 ++ lem_l1_26) T_D3.toS (some ⟨T_G3, F_G3, [(110, none)], fm10⟩) [(1, ⟨T_C3, F_C3, [(110, none)], fm8⟩), (0, ⟨T_E0, F_E0, [], fm1⟩)] [] := ⟨[([((.bin .lt (.var 110) (.var 0)), true), ((.bin .lt (.bin (.add .i64) (.var 110) (.lit (.ofNat 1))) (.var 142)), false), ((.bin .lt (.bin (.add .i64) (.var 110) (.lit (.ofNat 1))) (.var 141)), false), ((.bin .lt (.bin (.add .i64) (.var 110) (.lit (.ofNat 1))) (.var 140)), false)], [(.fact (.sem 0 sem0 [(.tv 120), (.tv 130), (.tv 131), (.tv 132)] [(.bin (.add .i64) (.var 110) (.lit (.ofNat 1))), (.lit (.ofNat 0)), (.var 140), (.lit (.ofNat 0)), (.var 141), (.lit (.ofNat 0)), (.var 142)])), (.fact (.sem 1 sem1 [(.tv 121)] [(.var 110)]))])], by kernel_rfl, by
  intro ρ hk ob hob hp rr hr
  have hF : ∀ g ∈ F_D3, Fact.holds ρ g := fun g hg => hk g (List.mem_append_left _ hg)
  have h0 : waits (((.tv 120) : E).tden ρ) [((((.tv 130) : E).tden ρ), (0 : Int), (((.var 140) : E).den ρ)), ((((.tv 131) : E).tden ρ), (0 : Int), (((.var 141) : E).den ρ)), ((((.tv 132) : E).tden ρ), (0 : Int), (((.var 142) : E).den ρ))] (((.bin (.add .i64) (.var 110) (.lit (.ofNat 1))) : E).den ρ) := hF (.sem 0 sem0 [(.tv 120), (.tv 130), (.tv 131), (.tv 132)] [(.bin (.add .i64) (.var 110) (.lit (.ofNat 1))), z, (.var 140), z, (.var 141), z, (.var 142)]) (by simp [F_D3])
  have h1 : rows (((.tv 121) : E).tden ρ) (((.var 110) : E).den ρ) := hF (.sem 1 sem1 [(.tv 121)] [(.var 110)]) (by simp [F_D3])
  have b110_100 : 0 ≤ ρ.v 110 ∧ ρ.v 110 ≤ 100 := rng_iff.1 (hF (r 110 0 100) (by simp [F_D3]))
  have b140_100 : 1 ≤ ρ.v 140 ∧ ρ.v 140 ≤ 100 := rng_iff.1 (hF (r 140 1 100) (by simp [F_D3]))
  have b141_100 : 1 ≤ ρ.v 141 ∧ ρ.v 141 ≤ 100 := rng_iff.1 (hF (r 141 1 100) (by simp [F_D3]))
  have b142_100 : 1 ≤ ρ.v 142 ∧ ρ.v 142 ≤ 100 := rng_iff.1 (hF (r 142 1 100) (by simp [F_D3]))
  have b110_99 : 0 ≤ ρ.v 110 ∧ ρ.v 110 ≤ 99 := rng_iff.1 (hF (r 110 0 99) (by simp [F_D3]))
  simp only [List.mem_cons, List.not_mem_nil, or_false] at hob
  rcases hob with rfl
  · simp only [List.mem_cons, List.not_mem_nil, or_false] at hr
    rcases hr with rfl | rfl
    · exact h0
    · exact h1
⟩
theorem good_l1_27_0 : GoodP rnL cd3 (F_D4 ++ lem_l1_27) T_D4.toS (some ⟨T_G3, F_G3, [(110, none)], fm10⟩) [(1, ⟨T_C3, F_C3, [(110, none)], fm8⟩), (0, ⟨T_E0, F_E0, [], fm1⟩)] [] := ⟨[([((.bin .lt (.var 110) (.var 0)), true), ((.bin .lt (.bin (.add .i64) (.var 110) (.lit (.ofNat 1))) (.var 143)), false), ((.bin .lt (.bin (.add .i64) (.var 110) (.lit (.ofNat 1))) (.var 142)), false), ((.bin .lt (.bin (.add .i64) (.var 110) (.lit (.ofNat 1))) (.var 141)), false), ((.bin .lt (.bin (.add .i64) (.var 110) (.lit (.ofNat 1))) (.var 140)), false)], [(.fact (.sem 0 sem0 [(.tv 120), (.tv 130), (.tv 131), (.tv 132), (.tv 133)] [(.bin (.add .i64) (.var 110) (.lit (.ofNat 1))), (.lit (.ofNat 0)), (.var 140), (.lit (.ofNat 0)), (.var 141), (.lit (.ofNat 0)), (.var 142), (.lit (.ofNat 0)), (.var 143)])), (.fact (.sem 1 sem1 [(.tv 121)] [(.var 110)]))])], by kernel_rfl, by
  intro ρ hk ob hob hp rr hr
  have hF : ∀ g ∈ F_D4, Fact.holds ρ g := fun g hg => hk g (List.mem_append_left _ hg)
  have h0 : waits (((.tv 120) : E).tden ρ) [((((.tv 130) : E).tden ρ), (0 : Int), (((.var 140) : E).den ρ)), ((((.tv 131) : E).tden ρ), (0 : Int), (((.var 141) : E).den ρ)), ((((.tv 132) : E).tden ρ), (0 : Int), (((.var 142) : E).den ρ)), ((((.tv 133) : E).tden ρ), (0 : Int), (((.var 143) : E).den ρ))] (((.bin (.add .i64) (.var 110) (.lit (.ofNat 1))) : E).den ρ) := hF (.sem 0 sem0 [(.tv 120), (.tv 130), (.tv 131), (.tv 132), (.tv 133)] [(.bin (.add .i64) (.var 110) (.lit (.ofNat 1))), z, (.var 140), z, (.var 141), z, (.var 142), z, (.var 143)]) (by simp [F_D4])
  have h1 : rows (((.tv 121) : E).tden ρ) (((.var 110) : E).den ρ) := hF (.sem 1 sem1 [(.tv 121)] [(.var 110)]) (by simp [F_D4])
  have b110_100 : 0 ≤ ρ.v 110 ∧ ρ.v 110 ≤ 100 := rng_iff.1 (hF (r 110 0 100) (by simp [F_D4]))
  have b140_100 : 1 ≤ ρ.v 140 ∧ ρ.v 140 ≤ 100 := rng_iff.1 (hF (r 140 1 100) (by simp [F_D4]))
  have b141_100 : 1 ≤ ρ.v 141 ∧ ρ.v 141 ≤ 100 := rng_iff.1 (hF (r 141 1 100) (by simp [F_D4]))
  have b142_100 : 1 ≤ ρ.v 142 ∧ ρ.v 142 ≤ 100 := rng_iff.1 (hF (r 142 1 100) (by simp [F_D4]))
  have b143_100 : 1 ≤ ρ.v 143 ∧ ρ.v 143 ≤ 100 := rng_iff.1 (hF (r 143 1 100) (by simp [F_D4]))
  have b110_99 : 0 ≤ ρ.v 110 ∧ ρ.v 110 ≤ 99 := rng_iff.1 (hF (r 110 0 99) (by simp [F_D4]))
  simp only [List.mem_cons, List.not_mem_nil, or_false] at hob
  rcases hob with rfl
  · simp only [List.mem_cons, List.not_mem_nil, or_false] at hr
    rcases hr with rfl | rfl
    · exact h0
    · exact h1
⟩
theorem good_l1_28_0 : GoodP rnL (cd2.drop 3) (F_G3 ++ lem_l1_28) T_G3.toS (some ⟨T_C3, F_C3, [(110, none)], fm8⟩) [(1, ⟨T_C3, F_C3, [(110, none)], fm8⟩), (0, ⟨T_E0, F_E0, [], fm1⟩)] [] := ⟨[([((.bin .lt (.var 110) (.var 0)), true), ((.bin .lt (.bin (.add .i64) (.var 110) (.lit (.ofNat 1))) (.var 142)), false), ((.bin .lt (.bin (.add .i64) (.var 110) (.lit (.ofNat 1))) (.var 141)), false), ((.bin .lt (.bin (.add .i64) (.var 110) (.lit (.ofNat 1))) (.var 140)), false)], [(.fact (.sem 0 sem0 [(.tv 120), (.tv 130), (.tv 131), (.tv 132)] [(.bin (.add .i64) (.var 110) (.lit (.ofNat 1))), (.lit (.ofNat 0)), (.var 140), (.lit (.ofNat 0)), (.var 141), (.lit (.ofNat 0)), (.var 142)])), (.fact (.sem 1 sem1 [(.upd (.tv 121) (.var 110) 0 (.var 110))] [(.bin (.add .i64) (.var 110) (.lit (.ofNat 1)))]))])], by kernel_rfl, by
  intro ρ hk ob hob hp rr hr
  have hF : ∀ g ∈ F_G3, Fact.holds ρ g := fun g hg => hk g (List.mem_append_left _ hg)
  have h0 : waits (((.tv 120) : E).tden ρ) [((((.tv 130) : E).tden ρ), (0 : Int), (((.var 140) : E).den ρ)), ((((.tv 131) : E).tden ρ), (0 : Int), (((.var 141) : E).den ρ)), ((((.tv 132) : E).tden ρ), (0 : Int), (((.var 142) : E).den ρ))] (((.bin (.add .i64) (.var 110) (.lit (.ofNat 1))) : E).den ρ) := hF (.sem 0 sem0 [(.tv 120), (.tv 130), (.tv 131), (.tv 132)] [(.bin (.add .i64) (.var 110) (.lit (.ofNat 1))), z, (.var 140), z, (.var 141), z, (.var 142)]) (by simp [F_G3])
  have h1 : rows (((.tv 121) : E).tden ρ) (((.var 110) : E).den ρ) := hF (.sem 1 sem1 [(.tv 121)] [(.var 110)]) (by simp [F_G3])
  have b110_100 : 0 ≤ ρ.v 110 ∧ ρ.v 110 ≤ 100 := rng_iff.1 (hF (r 110 0 100) (by simp [F_G3]))
  have b140_100 : 1 ≤ ρ.v 140 ∧ ρ.v 140 ≤ 100 := rng_iff.1 (hF (r 140 1 100) (by simp [F_G3]))
  have b141_100 : 1 ≤ ρ.v 141 ∧ ρ.v 141 ≤ 100 := rng_iff.1 (hF (r 141 1 100) (by simp [F_G3]))
  have b142_100 : 1 ≤ ρ.v 142 ∧ ρ.v 142 ≤ 100 := rng_iff.1 (hF (r 142 1 100) (by simp [F_G3]))
  have b110_99 : 0 ≤ ρ.v 110 ∧ ρ.v 110 ≤ 99 := rng_iff.1 (hF (r 110 0 99) (by simp [F_G3]))
  simp only [List.mem_cons, List.not_mem_nil, or_false] at hob
  rcases hob with rfl
  · simp only [List.mem_cons, List.not_mem_nil, or_false] at hr
    rcases hr with rfl | rfl
    · exact h0
    · exact rows_app h1 (by simp only [E.den]; omega) (by simp only [E.den]; omega) (by simp only [E.den, BO.den]; exact add_i64 (by omega) (by omega)) (fun r => by simp only [E.tden, E.den, and_true]; rfl)
⟩
theorem good_l1_29_0 : GoodP rnL (cd2.drop 3) (F_G4 ++ lem_l1_29) T_G4.toS (some ⟨T_C3, F_C3, [(110, none)], fm8⟩) [(1, ⟨T_C3, F_C3, [(110, none)], fm8⟩), (0, ⟨T_E0, F_E0, [], fm1⟩)] [] := ⟨[([((.bin .lt (.var 110) (.var 0)), true), ((.bin .lt (.bin (.add .i64) (.var 110) (.lit (.ofNat 1))) (.var 143)), false), ((.bin .lt (.bin (.add .i64) (.var 110) (.lit (.ofNat 1))) (.var 142)), false), ((.bin .lt (.bin (.add .i64) (.var 110) (.lit (.ofNat 1))) (.var 141)), false), ((.bin .lt (.bin (.add .i64) (.var 110) (.lit (.ofNat 1))) (.var 140)), false)], [(.fact (.sem 0 sem0 [(.tv 120), (.tv 130), (.tv 131), (.tv 132), (.tv 133)] [(.bin (.add .i64) (.var 110) (.lit (.ofNat 1))), (.lit (.ofNat 0)), (.var 140), (.lit (.ofNat 0)), (.var 141), (.lit (.ofNat 0)), (.var 142), (.lit (.ofNat 0)), (.var 143)])), (.fact (.sem 1 sem1 [(.upd (.tv 121) (.var 110) 0 (.var 110))] [(.bin (.add .i64) (.var 110) (.lit (.ofNat 1)))]))])], by kernel_rfl, by
  intro ρ hk ob hob hp rr hr
  have hF : ∀ g ∈ F_G4, Fact.holds ρ g := fun g hg => hk g (List.mem_append_left _ hg)
  have h0 : waits (((.tv 120) : E).tden ρ) [((((.tv 130) : E).tden ρ), (0 : Int), (((.var 140) : E).den ρ)), ((((.tv 131) : E).tden ρ), (0 : Int), (((.var 141) : E).den ρ)), ((((.tv 132) : E).tden ρ), (0 : Int), (((.var 142) : E).den ρ)), ((((.tv 133) : E).tden ρ), (0 : Int), (((.var 143) : E).den ρ))] (((.bin (.add .i64) (.var 110) (.lit (.ofNat 1))) : E).den ρ) := hF (.sem 0 sem0 [(.tv 120), (.tv 130), (.tv 131), (.tv 132), (.tv 133)] [(.bin (.add .i64) (.var 110) (.lit (.ofNat 1))), z, (.var 140), z, (.var 141), z, (.var 142), z, (.var 143)]) (by simp [F_G4])
  have h1 : rows (((.tv 121) : E).tden ρ) (((.var 110) : E).den ρ) := hF (.sem 1 sem1 [(.tv 121)] [(.var 110)]) (by simp [F_G4])
  have b110_100 : 0 ≤ ρ.v 110 ∧ ρ.v 110 ≤ 100 := rng_iff.1 (hF (r 110 0 100) (by simp [F_G4]))
  have b140_100 : 1 ≤ ρ.v 140 ∧ ρ.v 140 ≤ 100 := rng_iff.1 (hF (r 140 1 100) (by simp [F_G4]))
  have b141_100 : 1 ≤ ρ.v 141 ∧ ρ.v 141 ≤ 100 := rng_iff.1 (hF (r 141 1 100) (by simp [F_G4]))
  have b142_100 : 1 ≤ ρ.v 142 ∧ ρ.v 142 ≤ 100 := rng_iff.1 (hF (r 142 1 100) (by simp [F_G4]))
  have b143_100 : 1 ≤ ρ.v 143 ∧ ρ.v 143 ≤ 100 := rng_iff.1 (hF (r 143 1 100) (by simp [F_G4]))
  have b110_99 : 0 ≤ ρ.v 110 ∧ ρ.v 110 ≤ 99 := rng_iff.1 (hF (r 110 0 99) (by simp [F_G4]))
  simp only [List.mem_cons, List.not_mem_nil, or_false] at hob
  rcases hob with rfl
  · simp only [List.mem_cons, List.not_mem_nil, or_false] at hr
    rcases hr with rfl | rfl
    · exact h0
    · exact rows_app h1 (by simp only [E.den]; omega) (by simp only [E.den]; omega) (by simp only [E.den, BO.den]; exact add_i64 (by omega) (by omega)) (fun r => by simp only [E.tden, E.den, and_true]; rfl)
⟩
theorem good_l1_30_0 : GoodP rnL (cd1.drop 3) (F_C3 ++ lem_l1_30) T_C3.toS (some ⟨T_A0, F_A0, [(110, some 101)], fm0⟩) [(0, ⟨T_E0, F_E0, [], fm1⟩)] [] := ⟨[([((.bin .lt (.bin (.add .i64) (.var 110) (.lit (.ofNat 1))) (.var 142)), false), ((.bin .lt (.bin (.add .i64) (.var 110) (.lit (.ofNat 1))) (.var 141)), false), ((.bin .lt (.bin (.add .i64) (.var 110) (.lit (.ofNat 1))) (.var 140)), false)], [(.fact (.sem 0 sem0 [(.tv 120), (.tv 130), (.tv 131), (.tv 132)] [(.bin (.add .i64) (.var 110) (.lit (.ofNat 1))), (.lit (.ofNat 0)), (.var 140), (.lit (.ofNat 0)), (.var 141), (.lit (.ofNat 0)), (.var 142)])), (.fact (.sem 1 sem1 [(.tv 121)] [(.bin (.add .i64) (.var 110) (.lit (.ofNat 1)))]))])], by kernel_rfl, by
  intro ρ hk ob hob hp rr hr
  have hF : ∀ g ∈ F_C3, Fact.holds ρ g := fun g hg => hk g (List.mem_append_left _ hg)
  have h0 : waits (((.tv 120) : E).tden ρ) [((((.tv 130) : E).tden ρ), (0 : Int), (((.var 140) : E).den ρ)), ((((.tv 131) : E).tden ρ), (0 : Int), (((.var 141) : E).den ρ)), ((((.tv 132) : E).tden ρ), (0 : Int), (((.var 142) : E).den ρ))] (((.bin (.add .i64) (.var 110) (.lit (.ofNat 1))) : E).den ρ) := hF (.sem 0 sem0 [(.tv 120), (.tv 130), (.tv 131), (.tv 132)] [(.bin (.add .i64) (.var 110) (.lit (.ofNat 1))), z, (.var 140), z, (.var 141), z, (.var 142)]) (by simp [F_C3])
  have h1 : rows (((.tv 121) : E).tden ρ) (((.bin (.add .i64) (.var 110) (.lit (.ofNat 1))) : E).den ρ) := hF (.sem 1 sem1 [(.tv 121)] [(.bin (.add .i64) (.var 110) (.lit (.ofNat 1)))]) (by simp [F_C3])
  have b110_100 : 0 ≤ ρ.v 110 ∧ ρ.v 110 ≤ 100 := rng_iff.1 (hF (r 110 0 100) (by simp [F_C3]))
  have b140_100 : 1 ≤ ρ.v 140 ∧ ρ.v 140 ≤ 100 := rng_iff.1 (hF (r 140 1 100) (by simp [F_C3]))
  have b141_100 : 1 ≤ ρ.v 141 ∧ ρ.v 141 ≤ 100 := rng_iff.1 (hF (r 141 1 100) (by simp [F_C3]))
  have b142_100 : 1 ≤ ρ.v 142 ∧ ρ.v 142 ≤ 100 := rng_iff.1 (hF (r 142 1 100) (by simp [F_C3]))
  have b110_99 : 0 ≤ ρ.v 110 ∧ ρ.v 110 ≤ 99 := rng_iff.1 (hF (r 110 0 99) (by simp [F_C3]))
  simp only [List.mem_cons, List.not_mem_nil, or_false] at hob
  rcases hob with rfl
  · simp only [List.mem_cons, List.not_mem_nil, or_false] at hr
    rcases hr with rfl | rfl
    · exact h0
    · exact h1
⟩
theorem good_l1_31_0 : GoodP rnL (cd1.drop 3) (F_C4 ++ lem_l1_31) T_C4.toS (some ⟨T_A0, F_A0, [(110, some 101)], fm0⟩) [(0, ⟨T_E0, F_E0, [], fm1⟩)] [] := ⟨[([((.bin .lt (.bin (.add .i64) (.var 110) (.lit (.ofNat 1))) (.var 143)), false), ((.bin .lt (.bin (.add .i64) (.var 110) (.lit (.ofNat 1))) (.var 142)), false), ((.bin .lt (.bin (.add .i64) (.var 110) (.lit (.ofNat 1))) (.var 141)), false), ((.bin .lt (.bin (.add .i64) (.var 110) (.lit (.ofNat 1))) (.var 140)), false)], [(.fact (.sem 0 sem0 [(.tv 120), (.tv 130), (.tv 131), (.tv 132), (.tv 133)] [(.bin (.add .i64) (.var 110) (.lit (.ofNat 1))), (.lit (.ofNat 0)), (.var 140), (.lit (.ofNat 0)), (.var 141), (.lit (.ofNat 0)), (.var 142), (.lit (.ofNat 0)), (.var 143)])), (.fact (.sem 1 sem1 [(.tv 121)] [(.bin (.add .i64) (.var 110) (.lit (.ofNat 1)))]))])], by kernel_rfl, by
  intro ρ hk ob hob hp rr hr
  have hF : ∀ g ∈ F_C4, Fact.holds ρ g := fun g hg => hk g (List.mem_append_left _ hg)
  have h0 : waits (((.tv 120) : E).tden ρ) [((((.tv 130) : E).tden ρ), (0 : Int), (((.var 140) : E).den ρ)), ((((.tv 131) : E).tden ρ), (0 : Int), (((.var 141) : E).den ρ)), ((((.tv 132) : E).tden ρ), (0 : Int), (((.var 142) : E).den ρ)), ((((.tv 133) : E).tden ρ), (0 : Int), (((.var 143) : E).den ρ))] (((.bin (.add .i64) (.var 110) (.lit (.ofNat 1))) : E).den ρ) := hF (.sem 0 sem0 [(.tv 120), (.tv 130), (.tv 131), (.tv 132), (.tv 133)] [(.bin (.add .i64) (.var 110) (.lit (.ofNat 1))), z, (.var 140), z, (.var 141), z, (.var 142), z, (.var 143)]) (by simp [F_C4])
  have h1 : rows (((.tv 121) : E).tden ρ) (((.bin (.add .i64) (.var 110) (.lit (.ofNat 1))) : E).den ρ) := hF (.sem 1 sem1 [(.tv 121)] [(.bin (.add .i64) (.var 110) (.lit (.ofNat 1)))]) (by simp [F_C4])
  have b110_100 : 0 ≤ ρ.v 110 ∧ ρ.v 110 ≤ 100 := rng_iff.1 (hF (r 110 0 100) (by simp [F_C4]))
  have b140_100 : 1 ≤ ρ.v 140 ∧ ρ.v 140 ≤ 100 := rng_iff.1 (hF (r 140 1 100) (by simp [F_C4]))
  have b141_100 : 1 ≤ ρ.v 141 ∧ ρ.v 141 ≤ 100 := rng_iff.1 (hF (r 141 1 100) (by simp [F_C4]))
  have b142_100 : 1 ≤ ρ.v 142 ∧ ρ.v 142 ≤ 100 := rng_iff.1 (hF (r 142 1 100) (by simp [F_C4]))
  have b143_100 : 1 ≤ ρ.v 143 ∧ ρ.v 143 ≤ 100 := rng_iff.1 (hF (r 143 1 100) (by simp [F_C4]))
  have b110_99 : 0 ≤ ρ.v 110 ∧ ρ.v 110 ≤ 99 := rng_iff.1 (hF (r 110 0 99) (by simp [F_C4]))
  simp only [List.mem_cons, List.not_mem_nil, or_false] at hob
  rcases hob with rfl
  · simp only [List.mem_cons, List.not_mem_nil, or_false] at hr
    rcases hr with rfl | rfl
    · exact h0
    · exact h1
⟩
theorem good_l1_32_0 : GoodP rnL (cd1.take 2) (F_A4 ++ lem_l1_32) T_A4.toS (some ⟨T_B4, F_B4, [(110, none)], []⟩) [(0, ⟨T_E0, F_E0, [], fm1⟩)] [] := ⟨[([((.bin .lt (.var 110) (.lit (.ofNat 100))), true), ((.bin .lt (.var 110) (.var 0)), true), ((.bin .lt (.var 110) (.var 143)), false), ((.bin .lt (.var 110) (.var 142)), false), ((.bin .lt (.var 110) (.var 141)), false), ((.bin .lt (.var 110) (.var 140)), false)], [(.fact (.sem 0 sem0 [(.tv 120), (.tv 130), (.tv 131), (.tv 132), (.tv 133)] [(.var 110), (.lit (.ofNat 0)), (.var 140), (.lit (.ofNat 0)), (.var 141), (.lit (.ofNat 0)), (.var 142), (.lit (.ofNat 0)), (.var 143)])), (.fact (.sem 1 sem1 [(.tv 121)] [(.var 110)]))]),
  ([((.bin .lt (.var 110) (.lit (.ofNat 100))), false), ((.bin .lt (.var 110) (.var 0)), true), ((.bin .lt (.var 110) (.var 143)), false), ((.bin .lt (.var 110) (.var 142)), false), ((.bin .lt (.var 110) (.var 141)), false), ((.bin .lt (.var 110) (.var 140)), false)], [(.fact (.sem 0 sem0 [(.tv 120), (.tv 130), (.tv 131), (.tv 132), (.tv 133)] [(.lit (.ofNat 100)), (.lit (.ofNat 0)), (.var 140), (.lit (.ofNat 0)), (.var 141), (.lit (.ofNat 0)), (.var 142), (.lit (.ofNat 0)), (.var 143)])), (.fact (.sem 1 sem1 [(.tv 121)] [(.lit (.ofNat 100))]))]),
  ([((.bin .lt (.var 110) (.var 0)), false), ((.bin .lt (.var 110) (.var 143)), false), ((.bin .lt (.var 110) (.var 142)), false), ((.bin .lt (.var 110) (.var 141)), false), ((.bin .lt (.var 110) (.var 140)), false)], [(.fact (.sem 0 sem0 [(.tv 120), (.tv 130), (.tv 131), (.tv 132), (.tv 133)] [(.var 110), (.lit (.ofNat 0)), (.var 140), (.lit (.ofNat 0)), (.var 141), (.lit (.ofNat 0)), (.var 142), (.lit (.ofNat 0)), (.var 143)])), (.fact (.sem 1 sem1 [(.tv 121)] [(.var 110)]))])], by kernel_rfl, by
  intro ρ hk ob hob hp rr hr
  have hF : ∀ g ∈ F_A4, Fact.holds ρ g := fun g hg => hk g (List.mem_append_left _ hg)
  have h0 : waits (((.tv 120) : E).tden ρ) [((((.tv 130) : E).tden ρ), (0 : Int), (((.var 140) : E).den ρ)), ((((.tv 131) : E).tden ρ), (0 : Int), (((.var 141) : E).den ρ)), ((((.tv 132) : E).tden ρ), (0 : Int), (((.var 142) : E).den ρ)), ((((.tv 133) : E).tden ρ), (0 : Int), (((.var 143) : E).den ρ))] (((.var 110) : E).den ρ) := hF (.sem 0 sem0 [(.tv 120), (.tv 130), (.tv 131), (.tv 132), (.tv 133)] [(.var 110), z, (.var 140), z, (.var 141), z, (.var 142), z, (.var 143)]) (by simp [F_A4])
  have h1 : rows (((.tv 121) : E).tden ρ) (((.var 110) : E).den ρ) := hF (.sem 1 sem1 [(.tv 121)] [(.var 110)]) (by simp [F_A4])
  have b110_100 : 0 ≤ ρ.v 110 ∧ ρ.v 110 ≤ 100 := rng_iff.1 (hF (r 110 0 100) (by simp [F_A4]))
  have b140_100 : 1 ≤ ρ.v 140 ∧ ρ.v 140 ≤ 100 := rng_iff.1 (hF (r 140 1 100) (by simp [F_A4]))
  have b141_100 : 1 ≤ ρ.v 141 ∧ ρ.v 141 ≤ 100 := rng_iff.1 (hF (r 141 1 100) (by simp [F_A4]))
  have b142_100 : 1 ≤ ρ.v 142 ∧ ρ.v 142 ≤ 100 := rng_iff.1 (hF (r 142 1 100) (by simp [F_A4]))
  have b143_100 : 1 ≤ ρ.v 143 ∧ ρ.v 143 ≤ 100 := rng_iff.1 (hF (r 143 1 100) (by simp [F_A4]))
  simp only [List.mem_cons, List.not_mem_nil, or_false] at hob
  rcases hob with rfl | rfl | rfl
  · simp only [List.mem_cons, List.not_mem_nil, or_false] at hr
    have t0 := lt_iff.1 (hp ((.bin .lt (.var 110) (.lit (.ofNat 100))), true) (by simp))
    simp only [E.den, UO.den, iff_true, Int.ofNat_eq_natCast] at t0
    rcases hr with rfl | rfl
    · exact h0
    · exact h1
  · simp only [List.mem_cons, List.not_mem_nil, or_false] at hr
    have t0 := lt_iff.1 (hp ((.bin .lt (.var 110) (.lit (.ofNat 100))), false) (by simp))
    simp only [E.den, UO.den, Bool.false_eq_true, iff_false, Int.ofNat_eq_natCast] at t0
    rcases hr with rfl | rfl
    · have e : ((.var 110 : E).den ρ) = Int.ofNat 100 := by
        simp only [E.den, Int.ofNat_eq_natCast]
        omega
      have h := h0
      rw [e] at h
      exact h
    · have e : ((.var 110 : E).den ρ) = Int.ofNat 100 := by
        simp only [E.den, Int.ofNat_eq_natCast]
        omega
      have h := h1
      rw [e] at h
      exact h
  · simp only [List.mem_cons, List.not_mem_nil, or_false] at hr
    rcases hr with rfl | rfl
    · exact h0
    · exact h1
⟩
theorem good_l1_33_0 : GoodP rnL (cd2.take 2) (F_B4 ++ lem_l1_33) T_B4.toS (some ⟨T_D4, F_D4, [(110, none)], fm11⟩) [(1, ⟨T_C1, F_C1, [(110, none)], fm8⟩), (0, ⟨T_E0, F_E0, [], fm1⟩)] [] := ⟨[([((.bin .eq (.var 150) (.bin (.and .u64) (.un (.wrap .u64) (.get (.tv 0) (.var 110) 0)) (.lit (.ofNat 18446744073709551552)))), true), ((.bin .lt (.var 110) (.var 0)), true), ((.bin .lt (.var 110) (.var 143)), false), ((.bin .lt (.var 110) (.var 142)), false), ((.bin .lt (.var 110) (.var 141)), false), ((.bin .lt (.var 110) (.var 140)), false)], [(.fact (.sem 0 sem0 [(.tv 120), (.upd (.tv 130) (.var 140) 0 (.var 110)), (.tv 131), (.tv 132), (.tv 133)] [(.bin (.add .i64) (.var 110) (.lit (.ofNat 1))), (.lit (.ofNat 0)), (.bin (.add .i64) (.var 140) (.lit (.ofNat 1))), (.lit (.ofNat 0)), (.var 141), (.lit (.ofNat 0)), (.var 142), (.lit (.ofNat 0)), (.var 143)])), (.fact (.sem 1 sem1 [(.tv 121)] [(.var 110)]))]),
  ([((.bin .eq (.var 151) (.bin (.and .u64) (.un (.wrap .u64) (.get (.tv 0) (.var 110) 0)) (.lit (.ofNat 18446744073709551552)))), true), ((.bin .eq (.var 150) (.bin (.and .u64) (.un (.wrap .u64) (.get (.tv 0) (.var 110) 0)) (.lit (.ofNat 18446744073709551552)))), false), ((.bin .lt (.var 110) (.var 0)), true), ((.bin .lt (.var 110) (.var 143)), false), ((.bin .lt (.var 110) (.var 142)), false), ((.bin .lt (.var 110) (.var 141)), false), ((.bin .lt (.var 110) (.var 140)), false)], [(.fact (.sem 0 sem0 [(.tv 120), (.tv 130), (.upd (.tv 131) (.var 141) 0 (.var 110)), (.tv 132), (.tv 133)] [(.bin (.add .i64) (.var 110) (.lit (.ofNat 1))), (.lit (.ofNat 0)), (.var 140), (.lit (.ofNat 0)), (.bin (.add .i64) (.var 141) (.lit (.ofNat 1))), (.lit (.ofNat 0)), (.var 142), (.lit (.ofNat 0)), (.var 143)])), (.fact (.sem 1 sem1 [(.tv 121)] [(.var 110)]))]),
  ([((.bin .eq (.var 152) (.bin (.and .u64) (.un (.wrap .u64) (.get (.tv 0) (.var 110) 0)) (.lit (.ofNat 18446744073709551552)))), true), ((.bin .eq (.var 151) (.bin (.and .u64) (.un (.wrap .u64) (.get (.tv 0) (.var 110) 0)) (.lit (.ofNat 18446744073709551552)))), false), ((.bin .eq (.var 150) (.bin (.and .u64) (.un (.wrap .u64) (.get (.tv 0) (.var 110) 0)) (.lit (.ofNat 18446744073709551552)))), false), ((.bin .lt (.var 110) (.var 0)), true), ((.bin .lt (.var 110) (.var 143)), false), ((.bin .lt (.var 110) (.var 142)), false), ((.bin .lt (.var 110) (.var 141)), false), ((.bin .lt (.var 110) (.var 140)), false)], [(.fact (.sem 0 sem0 [(.tv 120), (.tv 130), (.tv 131), (.upd (.tv 132) (.var 142) 0 (.var 110)), (.tv 133)] [(.bin (.add .i64) (.var 110) (.lit (.ofNat 1))), (.lit (.ofNat 0)), (.var 140), (.lit (.ofNat 0)), (.var 141), (.lit (.ofNat 0)), (.bin (.add .i64) (.var 142) (.lit (.ofNat 1))), (.lit (.ofNat 0)), (.var 143)])), (.fact (.sem 1 sem1 [(.tv 121)] [(.var 110)]))]),
  ([((.bin .eq (.var 153) (.bin (.and .u64) (.un (.wrap .u64) (.get (.tv 0) (.var 110) 0)) (.lit (.ofNat 18446744073709551552)))), true), ((.bin .eq (.var 152) (.bin (.and .u64) (.un (.wrap .u64) (.get (.tv 0) (.var 110) 0)) (.lit (.ofNat 18446744073709551552)))), false), ((.bin .eq (.var 151) (.bin (.and .u64) (.un (.wrap .u64) (.get (.tv 0) (.var 110) 0)) (.lit (.ofNat 18446744073709551552)))), false), ((.bin .eq (.var 150) (.bin (.and .u64) (.un (.wrap .u64) (.get (.tv 0) (.var 110) 0)) (.lit (.ofNat 18446744073709551552)))), false), ((.bin .lt (.var 110) (.var 0)), true), ((.bin .lt (.var 110) (.var 143)), false), ((.bin .lt (.var 110) (.var 142)), false), ((.bin .lt (.var 110) (.var 141)), false), ((.bin .lt (.var 110) (.var 140)), false)], [(.fact (.sem 0 sem0 [(.tv 120), (.tv 130), (.tv 131), (.tv 132), (.upd (.tv 133) (.var 143) 0 (.var 110))] [(.bin (.add .i64) (.var 110) (.lit (.ofNat 1))), (.lit (.ofNat 0)), (.var 140), (.lit (.ofNat 0)), (.var 141), (.lit (.ofNat 0)), (.var 142), (.lit (.ofNat 0)), (.bin (.add .i64) (.var 143) (.lit (.ofNat 1)))])), (.fact (.sem 1 sem1 [(.tv 121)] [(.var 110)]))]),
  ([((.bin .eq (.var 153) (.bin (.and .u64) (.un (.wrap .u64) (.get (.tv 0) (.var 110) 0)) (.lit (.ofNat 18446744073709551552)))), false), ((.bin .eq (.var 152) (.bin (.and .u64) (.un (.wrap .u64) (.get (.tv 0) (.var 110) 0)) (.lit (.ofNat 18446744073709551552)))), false), ((.bin .eq (.var 151) (.bin (.and .u64) (.un (.wrap .u64) (.get (.tv 0) (.var 110) 0)) (.lit (.ofNat 18446744073709551552)))), false), ((.bin .eq (.var 150) (.bin (.and .u64) (.un (.wrap .u64) (.get (.tv 0) (.var 110) 0)) (.lit (.ofNat 18446744073709551552)))), false), ((.bin .lt (.var 110) (.var 0)), true), ((.bin .lt (.var 110) (.var 143)), false), ((.bin .lt (.var 110) (.var 142)), false), ((.bin .lt (.var 110) (.var 141)), false), ((.bin .lt (.var 110) (.var 140)), false)], [(.fact (.sem 0 sem0 [(.tv 120), (.tv 130), (.tv 131), (.tv 132), (.tv 133)] [(.var 110), (.lit (.ofNat 0)), (.var 140), (.lit (.ofNat 0)), (.var 141), (.lit (.ofNat 0)), (.var 142), (.lit (.ofNat 0)), (.var 143)])), (.fact (.sem 1 sem1 [(.tv 121)] [(.var 110)]))])], by kernel_rfl, by
  intro ρ hk ob hob hp rr hr
  have hF : ∀ g ∈ F_B4, Fact.holds ρ g := fun g hg => hk g (List.mem_append_left _ hg)
  have h0 : waits (((.tv 120) : E).tden ρ) [((((.tv 130) : E).tden ρ), (0 : Int), (((.var 140) : E).den ρ)), ((((.tv 131) : E).tden ρ), (0 : Int), (((.var 141) : E).den ρ)), ((((.tv 132) : E).tden ρ), (0 : Int), (((.var 142) : E).den ρ)), ((((.tv 133) : E).tden ρ), (0 : Int), (((.var 143) : E).den ρ))] (((.var 110) : E).den ρ) := hF (.sem 0 sem0 [(.tv 120), (.tv 130), (.tv 131), (.tv 132), (.tv 133)] [(.var 110), z, (.var 140), z, (.var 141), z, (.var 142), z, (.var 143)]) (by simp [F_B4])
  have h1 : rows (((.tv 121) : E).tden ρ) (((.var 110) : E).den ρ) := hF (.sem 1 sem1 [(.tv 121)] [(.var 110)]) (by simp [F_B4])
  have b110_100 : 0 ≤ ρ.v 110 ∧ ρ.v 110 ≤ 100 := rng_iff.1 (hF (r 110 0 100) (by simp [F_B4]))
  have b140_100 : 1 ≤ ρ.v 140 ∧ ρ.v 140 ≤ 100 := rng_iff.1 (hF (r 140 1 100) (by simp [F_B4]))
  have b141_100 : 1 ≤ ρ.v 141 ∧ ρ.v 141 ≤ 100 := rng_iff.1 (hF (r 141 1 100) (by simp [F_B4]))
  have b142_100 : 1 ≤ ρ.v 142 ∧ ρ.v 142 ≤ 100 := rng_iff.1 (hF (r 142 1 100) (by simp [F_B4]))
  have b143_100 : 1 ≤ ρ.v 143 ∧ ρ.v 143 ≤ 100 := rng_iff.1 (hF (r 143 1 100) (by simp [F_B4]))
  have b110_99 : 0 ≤ ρ.v 110 ∧ ρ.v 110 ≤ 99 := rng_iff.1 (hF (r 110 0 99) (by simp [F_B4]))
  simp only [List.mem_cons, List.not_mem_nil, or_false] at hob
  rcases hob with rfl | rfl | rfl | rfl | rfl
  · simp only [List.mem_cons, List.not_mem_nil, or_false] at hr
    rcases hr with rfl | rfl
    · show waits (((.tv 120) : E).tden ρ) ([] ++ ((((.upd (.tv 130) (.var 140) 0 (.var 110)) : E).tden ρ), (0 : Int), (((.bin (.add .i64) (.var 140) (.lit (.ofNat 1))) : E).den ρ)) :: [((((.tv 131) : E).tden ρ), (0 : Int), (((.var 141) : E).den ρ)), ((((.tv 132) : E).tden ρ), (0 : Int), (((.var 142) : E).den ρ)), ((((.tv 133) : E).tden ρ), (0 : Int), (((.var 143) : E).den ρ))]) (((.bin (.add .i64) (.var 110) (.lit (.ofNat 1))) : E).den ρ)
      exact waits_app (t := (((.tv 130) : E).tden ρ)) (b := (((.var 140) : E).den ρ)) [] h0 (by simp only [E.den]; omega) (by simp only [E.den]; omega) (by simp only [E.den]; omega) (by simp only [E.den, BO.den]; exact add_i64 (by omega) (by omega)) (by simp only [E.den, BO.den]; exact add_i64 (by omega) (by omega)) (fun r => by simp only [E.tden, E.den, and_true]; rfl)
    · exact h1
  · simp only [List.mem_cons, List.not_mem_nil, or_false] at hr
    rcases hr with rfl | rfl
    · show waits (((.tv 120) : E).tden ρ) ([((((.tv 130) : E).tden ρ), (0 : Int), (((.var 140) : E).den ρ))] ++ ((((.upd (.tv 131) (.var 141) 0 (.var 110)) : E).tden ρ), (0 : Int), (((.bin (.add .i64) (.var 141) (.lit (.ofNat 1))) : E).den ρ)) :: [((((.tv 132) : E).tden ρ), (0 : Int), (((.var 142) : E).den ρ)), ((((.tv 133) : E).tden ρ), (0 : Int), (((.var 143) : E).den ρ))]) (((.bin (.add .i64) (.var 110) (.lit (.ofNat 1))) : E).den ρ)
      exact waits_app (t := (((.tv 131) : E).tden ρ)) (b := (((.var 141) : E).den ρ)) [((((.tv 130) : E).tden ρ), (0 : Int), (((.var 140) : E).den ρ))] h0 (by simp only [E.den]; omega) (by simp only [E.den]; omega) (by simp only [E.den]; omega) (by simp only [E.den, BO.den]; exact add_i64 (by omega) (by omega)) (by simp only [E.den, BO.den]; exact add_i64 (by omega) (by omega)) (fun r => by simp only [E.tden, E.den, and_true]; rfl)
    · exact h1
  · simp only [List.mem_cons, List.not_mem_nil, or_false] at hr
    rcases hr with rfl | rfl
    · show waits (((.tv 120) : E).tden ρ) ([((((.tv 130) : E).tden ρ), (0 : Int), (((.var 140) : E).den ρ)), ((((.tv 131) : E).tden ρ), (0 : Int), (((.var 141) : E).den ρ))] ++ ((((.upd (.tv 132) (.var 142) 0 (.var 110)) : E).tden ρ), (0 : Int), (((.bin (.add .i64) (.var 142) (.lit (.ofNat 1))) : E).den ρ)) :: [((((.tv 133) : E).tden ρ), (0 : Int), (((.var 143) : E).den ρ))]) (((.bin (.add .i64) (.var 110) (.lit (.ofNat 1))) : E).den ρ)
      exact waits_app (t := (((.tv 132) : E).tden ρ)) (b := (((.var 142) : E).den ρ)) [((((.tv 130) : E).tden ρ), (0 : Int), (((.var 140) : E).den ρ)), ((((.tv 131) : E).tden ρ), (0 : Int), (((.var 141) : E).den ρ))] h0 (by simp only [E.den]; omega) (by simp only [E.den]; omega) (by simp only [E.den]; omega) (by simp only [E.den, BO.den]; exact add_i64 (by omega) (by omega)) (by simp only [E.den, BO.den]; exact add_i64 (by omega) (by omega)) (fun r => by simp only [E.tden, E.den, and_true]; rfl)
    · exact h1
  · simp only [List.mem_cons, List.not_mem_nil, or_false] at hr
    rcases hr with rfl | rfl
    · show waits (((.tv 120) : E).tden ρ) ([((((.tv 130) : E).tden ρ), (0 : Int), (((.var 140) : E).den ρ)), ((((.tv 131) : E).tden ρ), (0 : Int), (((.var 141) : E).den ρ)), ((((.tv 132) : E).tden ρ), (0 : Int), (((.var 142) : E).den ρ))] ++ ((((.upd (.tv 133) (.var 143) 0 (.var 110)) : E).tden ρ), (0 : Int), (((.bin (.add .i64) (.var 143) (.lit (.ofNat 1))) : E).den ρ)) :: []) (((.bin (.add .i64) (.var 110) (.lit (.ofNat 1))) : E).den ρ)
      exact waits_app (t := (((.tv 133) : E).tden ρ)) (b := (((.var 143) : E).den ρ)) [((((.tv 130) : E).tden ρ), (0 : Int), (((.var 140) : E).den ρ)), ((((.tv 131) : E).tden ρ), (0 : Int), (((.var 141) : E).den ρ)), ((((.tv 132) : E).tden ρ), (0 : Int), (((.var 142) : E).den ρ))] h0 (by simp only [E.den]; omega) (by simp only [E.den]; omega) (by simp only [E.den]; omega) (by simp only [E.den, BO.den]; exact add_i64 (by omega) (by omega)) (by simp only [E.den, BO.den]; exact add_i64 (by omega) (by omega)) (fun r => by simp only [E.tden, E.den, and_true]; rfl)
    · exact h1
  · simp only [List.mem_cons, List.not_mem_nil, or_false] at hr
    rcases hr with rfl | rfl
    · exact h0
    · exact h1
⟩
theorem good_l1_34_0 : GoodP rnL cd3 (F_D4 ++ lem_l1_34) T_D4.toS (some ⟨T_G1, F_G1, [(110, none)], fm10⟩) [(1, ⟨T_C1, F_C1, [(110, none)], fm8⟩), (0, ⟨T_E0, F_E0, [], fm1⟩)] [] := ⟨[([((.bin .lt (.var 110) (.var 0)), true), ((.bin .lt (.bin (.add .i64) (.var 110) (.lit (.ofNat 1))) (.var 143)), false), ((.bin .lt (.bin (.add .i64) (.var 110) (.lit (.ofNat 1))) (.var 142)), false), ((.bin .lt (.bin (.add .i64) (.var 110) (.lit (.ofNat 1))) (.var 141)), false), ((.bin .lt (.bin (.add .i64) (.var 110) (.lit (.ofNat 1))) (.var 140)), false)], [(.fact (.sem 0 sem0 [(.tv 120), (.tv 130), (.tv 131), (.tv 132), (.tv 133)] [(.bin (.add .i64) (.var 110) (.lit (.ofNat 1))), (.lit (.ofNat 0)), (.var 140), (.lit (.ofNat 0)), (.var 141), (.lit (.ofNat 0)), (.var 142), (.lit (.ofNat 0)), (.var 143)])), (.fact (.sem 1 sem1 [(.tv 121)] [(.var 110)]))])], by kernel_rfl, by
  intro ρ hk ob hob hp rr hr
  have hF : ∀ g ∈ F_D4, Fact.holds ρ g := fun g hg => hk g (List.mem_append_left _ hg)
  have h0 : waits (((.tv 120) : E).tden ρ) [((((.tv 130) : E).tden ρ), (0 : Int), (((.var 140) : E).den ρ)), ((((.tv 131) : E).tden ρ), (0 : Int), (((.var 141) : E).den ρ)), ((((.tv 132) : E).tden ρ), (0 : Int), (((.var 142) : E).den ρ)), ((((.tv 133) : E).tden ρ), (0 : Int), (((.var 143) : E).den ρ))] (((.bin (.add .i64) (.var 110) (.lit (.ofNat 1))) : E).den ρ) := hF (.sem 0 sem0 [(.tv 120), (.tv 130), (.tv 131), (.tv 132), (.tv 133)] [(.bin (.add .i64) (.var 110) (.lit (.ofNat 1))), z, (.var 140), z, (.var 141), z, (.var 142), z, (.var 143)]) (by simp [F_D4])
  have h1 : rows (((.tv 121) : E).tden ρ) (((.var 110) : E).den ρ) := hF (.sem 1 sem1 [(.tv 121)] [(.var 110)]) (by simp [F_D4])
  have b110_100 : 0 ≤ ρ.v 110 ∧ ρ.v 110 ≤ 100 := rng_iff.1 (hF (r 110 0 100) (by simp [F_D4]))
  have b140_100 : 1 ≤ ρ.v 140 ∧ ρ.v 140 ≤ 100 := rng_iff.1 (hF (r 140 1 100) (by simp [F_D4]))
  have b141_100 : 1 ≤ ρ.v 141 ∧ ρ.v 141 ≤ 100 := rng_iff.1 (hF (r 141 1 100) (by simp [F_D4]))
  have b142_100 : 1 ≤ ρ.v 142 ∧ ρ.v 142 ≤ 100 := rng_iff.1 (hF (r 142 1 100) (by simp [F_D4]))
  have b143_100 : 1 ≤ ρ.v 143 ∧ ρ.v 143 ≤ 100 := rng_iff.1 (hF (r 143 1 100) (by simp [F_D4]))
  have b110_99 : 0 ≤ ρ.v 110 ∧ ρ.v 110 ≤ 99 := rng_iff.1 (hF (r 110 0 99) (by simp [F_D4]))
  simp only [List.mem_cons, List.not_mem_nil, or_false] at hob
  rcases hob with rfl
  · simp only [List.mem_cons, List.not_mem_nil, or_false] at hr
    rcases hr with rfl | rfl
    · exact h0
    · exact h1
⟩
theorem good_l1_35_0 : GoodP rnL (cd4.take 1) (F_DF ++ lem_l1_35) T_DF.toS (some ⟨T_K0, F_K0, [(110, none)], fm12⟩) [(1, ⟨T_C1, F_C1, [(110, none)], fm8⟩), (0, ⟨T_E0, F_E0, [], fm1⟩)] [] := ⟨[([((.bin .lt (.var 110) (.var 0)), true), ((.bin .lt (.var 110) (.var 143)), false), ((.bin .lt (.var 110) (.var 142)), false), ((.bin .lt (.var 110) (.var 141)), false), ((.bin .lt (.var 110) (.var 140)), false)], [(.fact (.sem 0 sem0 [(.tv 120), (.tv 130), (.tv 131), (.tv 132), (.tv 133)] [(.var 110), (.lit (.ofNat 0)), (.var 140), (.lit (.ofNat 0)), (.var 141), (.lit (.ofNat 0)), (.var 142), (.lit (.ofNat 0)), (.var 143)])), (.fact (.sem 1 sem1 [(.tv 121)] [(.var 110)]))])], by kernel_rfl, by
  intro ρ hk ob hob hp rr hr
  have hF : ∀ g ∈ F_DF, Fact.holds ρ g := fun g hg => hk g (List.mem_append_left _ hg)
  have h0 : waits (((.tv 120) : E).tden ρ) [((((.tv 130) : E).tden ρ), (0 : Int), (((.var 140) : E).den ρ)), ((((.tv 131) : E).tden ρ), (0 : Int), (((.var 141) : E).den ρ)), ((((.tv 132) : E).tden ρ), (0 : Int), (((.var 142) : E).den ρ)), ((((.tv 133) : E).tden ρ), (0 : Int), (((.var 143) : E).den ρ))] (((.var 110) : E).den ρ) := hF (.sem 0 sem0 [(.tv 120), (.tv 130), (.tv 131), (.tv 132), (.tv 133)] [(.var 110), z, (.var 140), z, (.var 141), z, (.var 142), z, (.var 143)]) (by simp [F_DF])
  have h1 : rows (((.tv 121) : E).tden ρ) (((.var 110) : E).den ρ) := hF (.sem 1 sem1 [(.tv 121)] [(.var 110)]) (by simp [F_DF])
  have b110_100 : 0 ≤ ρ.v 110 ∧ ρ.v 110 ≤ 100 := rng_iff.1 (hF (r 110 0 100) (by simp [F_DF]))
  have b140_100 : 1 ≤ ρ.v 140 ∧ ρ.v 140 ≤ 100 := rng_iff.1 (hF (r 140 1 100) (by simp [F_DF]))
  have b141_100 : 1 ≤ ρ.v 141 ∧ ρ.v 141 ≤ 100 := rng_iff.1 (hF (r 141 1 100) (by simp [F_DF]))
  have b142_100 : 1 ≤ ρ.v 142 ∧ ρ.v 142 ≤ 100 := rng_iff.1 (hF (r 142 1 100) (by simp [F_DF]))
  have b143_100 : 1 ≤ ρ.v 143 ∧ ρ.v 143 ≤ 100 := rng_iff.1 (hF (r 143 1 100) (by simp [F_DF]))
  have b110_99 : 0 ≤ ρ.v 110 ∧ ρ.v 110 ≤ 99 := rng_iff.1 (hF (r 110 0 99) (by simp [F_DF]))
  simp only [List.mem_cons, List.not_mem_nil, or_false] at hob
  rcases hob with rfl
  · simp only [List.mem_cons, List.not_mem_nil, or_false] at hr
    rcases hr with rfl | rfl
    · exact h0
    · exact h1
⟩
theorem good_l1_36_0 : GoodP rnL (cd5.take 2) (F_K0 ++ lem_l1_36) T_K0.toS (some ⟨T_K0, F_K0, [(112, none), (110, none)], []⟩) [(2, ⟨T_L, F_L, [(110, none)], []⟩), (1, ⟨T_C1, F_C1, [(110, none)], fm8⟩), (0, ⟨T_E0, F_E0, [], fm1⟩)] [] := ⟨[([((.bin .lt (.var 110) (.var 0)), true), ((.bin .lt (.var 110) (.var 143)), false), ((.bin .lt (.var 110) (.var 142)), false), ((.bin .lt (.var 110) (.var 141)), false), ((.bin .lt (.var 110) (.var 140)), false)], [(.fact (.sem 0 sem0 [(.tv 120), (.tv 130), (.tv 131), (.tv 132), (.tv 133)] [(.var 110), (.lit (.ofNat 0)), (.var 140), (.lit (.ofNat 0)), (.var 141), (.lit (.ofNat 0)), (.var 142), (.lit (.ofNat 0)), (.var 143)])), (.fact (.sem 1 sem1 [(.tv 121)] [(.var 110)]))])], by kernel_rfl, by
  intro ρ hk ob hob hp rr hr
  have hF : ∀ g ∈ F_K0, Fact.holds ρ g := fun g hg => hk g (List.mem_append_left _ hg)
  have h0 : waits (((.tv 120) : E).tden ρ) [((((.tv 130) : E).tden ρ), (0 : Int), (((.var 140) : E).den ρ)), ((((.tv 131) : E).tden ρ), (0 : Int), (((.var 141) : E).den ρ)), ((((.tv 132) : E).tden ρ), (0 : Int), (((.var 142) : E).den ρ)), ((((.tv 133) : E).tden ρ), (0 : Int), (((.var 143) : E).den ρ))] (((.var 110) : E).den ρ) := hF (.sem 0 sem0 [(.tv 120), (.tv 130), (.tv 131), (.tv 132), (.tv 133)] [(.var 110), z, (.var 140), z, (.var 141), z, (.var 142), z, (.var 143)]) (by simp [F_K0])
  have h1 : rows (((.tv 121) : E).tden ρ) (((.var 110) : E).den ρ) := hF (.sem 1 sem1 [(.tv 121)] [(.var 110)]) (by simp [F_K0])
  have b110_100 : 0 ≤ ρ.v 110 ∧ ρ.v 110 ≤ 100 := rng_iff.1 (hF (r 110 0 100) (by simp [F_K0]))
  have b140_100 : 1 ≤ ρ.v 140 ∧ ρ.v 140 ≤ 100 := rng_iff.1 (hF (r 140 1 100) (by simp [F_K0]))
  have b141_100 : 1 ≤ ρ.v 141 ∧ ρ.v 141 ≤ 100 := rng_iff.1 (hF (r 141 1 100) (by simp [F_K0]))
  have b142_100 : 1 ≤ ρ.v 142 ∧ ρ.v 142 ≤ 100 := rng_iff.1 (hF (r 142 1 100) (by simp [F_K0]))
  have b143_100 : 1 ≤ ρ.v 143 ∧ ρ.v 143 ≤ 100 := rng_iff.1 (hF (r 143 1 100) (by simp [F_K0]))
  have b110_99 : 0 ≤ ρ.v 110 ∧ ρ.v 110 ≤ 99 := rng_iff.1 (hF (r 110 0 99) (by simp [F_K0]))
  have b112_0 : 0 ≤ ρ.v 112 ∧ ρ.v 112 ≤ 0 := rng_iff.1 (hF (r 112 0 0) (by simp [F_K0]))
  simp only [List.mem_cons, List.not_mem_nil, or_false] at hob
  rcases hob with rfl
  · simp only [List.mem_cons, List.not_mem_nil, or_false] at hr
    rcases hr with rfl | rfl
    · exact h0
    · exact h1
⟩
theorem good_l1_37_0 : GoodP rnL (cd6.take 4) (F_K0 ++ lem_l1_37) T_K0.toS (some ⟨T_J0, F_J0, [(112, none), (110, none)], []⟩) [(3, ⟨T_Kn0, F_Kn0, [(112, none), (110, none)], []⟩), (2, ⟨T_L, F_L, [(110, none)], []⟩), (1, ⟨T_C1, F_C1, [(110, none)], fm8⟩), (0, ⟨T_E0, F_E0, [], fm1⟩)] [] := ⟨[([((.bin .lt (.var 110) (.var 0)), true), ((.bin .lt (.var 110) (.var 143)), false), ((.bin .lt (.var 110) (.var 142)), false), ((.bin .lt (.var 110) (.var 141)), false), ((.bin .lt (.var 110) (.var 140)), false)], [(.fact (.sem 0 sem0 [(.tv 120), (.tv 130), (.tv 131), (.tv 132), (.tv 133)] [(.var 110), (.lit (.ofNat 0)), (.var 140), (.lit (.ofNat 0)), (.var 141), (.lit (.ofNat 0)), (.var 142), (.lit (.ofNat 0)), (.var 143)])), (.fact (.sem 1 sem1 [(.tv 121)] [(.var 110)]))])], by kernel_rfl, by
  intro ρ hk ob hob hp rr hr
  have hF : ∀ g ∈ F_K0, Fact.holds ρ g := fun g hg => hk g (List.mem_append_left _ hg)
  have h0 : waits (((.tv 120) : E).tden ρ) [((((.tv 130) : E).tden ρ), (0 : Int), (((.var 140) : E).den ρ)), ((((.tv 131) : E).tden ρ), (0 : Int), (((.var 141) : E).den ρ)), ((((.tv 132) : E).tden ρ), (0 : Int), (((.var 142) : E).den ρ)), ((((.tv 133) : E).tden ρ), (0 : Int), (((.var 143) : E).den ρ))] (((.var 110) : E).den ρ) := hF (.sem 0 sem0 [(.tv 120), (.tv 130), (.tv 131), (.tv 132), (.tv 133)] [(.var 110), z, (.var 140), z, (.var 141), z, (.var 142), z, (.var 143)]) (by simp [F_K0])
  have h1 : rows (((.tv 121) : E).tden ρ) (((.var 110) : E).den ρ) := hF (.sem 1 sem1 [(.tv 121)] [(.var 110)]) (by simp [F_K0])
  have b110_100 : 0 ≤ ρ.v 110 ∧ ρ.v 110 ≤ 100 := rng_iff.1 (hF (r 110 0 100) (by simp [F_K0]))
  have b140_100 : 1 ≤ ρ.v 140 ∧ ρ.v 140 ≤ 100 := rng_iff.1 (hF (r 140 1 100) (by simp [F_K0]))
  have b141_100 : 1 ≤ ρ.v 141 ∧ ρ.v 141 ≤ 100 := rng_iff.1 (hF (r 141 1 100) (by simp [F_K0]))
  have b142_100 : 1 ≤ ρ.v 142 ∧ ρ.v 142 ≤ 100 := rng_iff.1 (hF (r 142 1 100) (by simp [F_K0]))
  have b143_100 : 1 ≤ ρ.v 143 ∧ ρ.v 143 ≤ 100 := rng_iff.1 (hF (r 143 1 100) (by simp [F_K0]))
  have b110_99 : 0 ≤ ρ.v 110 ∧ ρ.v 110 ≤ 99 := rng_iff.1 (hF (r 110 0 99) (by simp [F_K0]))
  have b112_0 : 0 ≤ ρ.v 112 ∧ ρ.v 112 ≤ 0 := rng_iff.1 (hF (r 112 0 0) (by simp [F_K0]))
  simp only [List.mem_cons, List.not_mem_nil, or_false] at hob
  rcases hob with rfl
  · simp only [List.mem_cons, List.not_mem_nil, or_false] at hr
    rcases hr with rfl | rfl
    · exact h0
    · exact h1
⟩
theorem good_l1_38_0 : GoodP rnL cd7 (F_J0 ++ lem_l1_38) T_J0.toS (some ⟨T_J0, F_J0, [(111, some 101), (112, none), (110, none)], []⟩) [(4, ⟨T_Kn0, F_Kn0, [(112, none), (110, none)], []⟩), (3, ⟨T_Kn0, F_Kn0, [(112, none), (110, none)], []⟩), (2, ⟨T_L, F_L, [(110, none)], []⟩), (1, ⟨T_C1, F_C1, [(110, none)], fm8⟩), (0, ⟨T_E0, F_E0, [], fm1⟩)] [] := ⟨[([((.bin .lt (.un (.wrap .i64) (.get (.tv 130) (.var 111) 0)) (.lit (.ofNat 0))), true), ((.bin .lt (.var 111) (.var 140)), true), ((.bin .lt (.var 140) (.var 111)), false), ((.bin .lt (.var 110) (.var 0)), true), ((.bin .lt (.var 110) (.var 143)), false), ((.bin .lt (.var 110) (.var 142)), false), ((.bin .lt (.var 110) (.var 141)), false), ((.bin .lt (.var 110) (.var 140)), false)], [(.done (.lit (.ofNat 0)))]),
  ([((.bin .lt (.un (.wrap .i64) (.get (.tv 130) (.var 111) 0)) (.lit (.ofNat 100))), false), ((.bin .lt (.un (.wrap .i64) (.get (.tv 130) (.var 111) 0)) (.lit (.ofNat 0))), false), ((.bin .lt (.var 111) (.var 140)), true), ((.bin .lt (.var 140) (.var 111)), false), ((.bin .lt (.var 110) (.var 0)), true), ((.bin .lt (.var 110) (.var 143)), false), ((.bin .lt (.var 110) (.var 142)), false), ((.bin .lt (.var 110) (.var 141)), false), ((.bin .lt (.var 110) (.var 140)), false)], [(.done (.lit (.ofNat 0)))]),
  ([((.bin .lt (.un (.wrap .i64) (.get (.tv 130) (.var 111) 0)) (.lit (.ofNat 100))), true), ((.bin .lt (.un (.wrap .i64) (.get (.tv 130) (.var 111) 0)) (.lit (.ofNat 0))), false), ((.bin .lt (.var 111) (.var 140)), true), ((.bin .lt (.var 140) (.var 111)), false), ((.bin .lt (.var 110) (.var 0)), true), ((.bin .lt (.var 110) (.var 143)), false), ((.bin .lt (.var 110) (.var 142)), false), ((.bin .lt (.var 110) (.var 141)), false), ((.bin .lt (.var 110) (.var 140)), false)], [(.fact (.sem 0 sem0 [(.upd (.tv 120) (.un (.wrap .i64) (.get (.tv 130) (.var 111) 0)) 0 (.bin (.add .i64) (.un (.wrap .i64) (.get (.tv 120) (.un (.wrap .i64) (.get (.tv 130) (.var 111) 0)) 0)) (.lit (.ofNat 1)))), (.tv 130), (.tv 131), (.tv 132), (.tv 133)] [(.var 110), (.bin (.add .i64) (.var 111) (.lit (.ofNat 1))), (.var 140), (.lit (.ofNat 0)), (.var 141), (.lit (.ofNat 0)), (.var 142), (.lit (.ofNat 0)), (.var 143)])), (.fact (.sem 1 sem1 [(.tv 121)] [(.var 110)]))]),
  ([((.bin .lt (.var 111) (.var 140)), false), ((.bin .lt (.var 140) (.var 111)), false), ((.bin .lt (.var 110) (.var 0)), true), ((.bin .lt (.var 110) (.var 143)), false), ((.bin .lt (.var 110) (.var 142)), false), ((.bin .lt (.var 110) (.var 141)), false), ((.bin .lt (.var 110) (.var 140)), false)], [(.fact (.sem 0 sem0 [(.tv 120), (.tv 131), (.tv 132), (.tv 133)] [(.var 110), (.lit (.ofNat 0)), (.var 141), (.lit (.ofNat 0)), (.var 142), (.lit (.ofNat 0)), (.var 143)])), (.fact (.sem 1 sem1 [(.tv 121)] [(.var 110)]))])], by kernel_rfl, by
  intro ρ hk ob hob hp rr hr
  have hF : ∀ g ∈ F_J0, Fact.holds ρ g := fun g hg => hk g (List.mem_append_left _ hg)
  have h0 : waits (((.tv 120) : E).tden ρ) [((((.tv 130) : E).tden ρ), (((.var 111) : E).den ρ), (((.var 140) : E).den ρ)), ((((.tv 131) : E).tden ρ), (0 : Int), (((.var 141) : E).den ρ)), ((((.tv 132) : E).tden ρ), (0 : Int), (((.var 142) : E).den ρ)), ((((.tv 133) : E).tden ρ), (0 : Int), (((.var 143) : E).den ρ))] (((.var 110) : E).den ρ) := hF (.sem 0 sem0 [(.tv 120), (.tv 130), (.tv 131), (.tv 132), (.tv 133)] [(.var 110), (.var 111), (.var 140), z, (.var 141), z, (.var 142), z, (.var 143)]) (by simp [F_J0])
  have h1 : rows (((.tv 121) : E).tden ρ) (((.var 110) : E).den ρ) := hF (.sem 1 sem1 [(.tv 121)] [(.var 110)]) (by simp [F_J0])
  have b110_100 : 0 ≤ ρ.v 110 ∧ ρ.v 110 ≤ 100 := rng_iff.1 (hF (r 110 0 100) (by simp [F_J0]))
  have b140_100 : 1 ≤ ρ.v 140 ∧ ρ.v 140 ≤ 100 := rng_iff.1 (hF (r 140 1 100) (by simp [F_J0]))
  have b141_100 : 1 ≤ ρ.v 141 ∧ ρ.v 141 ≤ 100 := rng_iff.1 (hF (r 141 1 100) (by simp [F_J0]))
  have b142_100 : 1 ≤ ρ.v 142 ∧ ρ.v 142 ≤ 100 := rng_iff.1 (hF (r 142 1 100) (by simp [F_J0]))
  have b143_100 : 1 ≤ ρ.v 143 ∧ ρ.v 143 ≤ 100 := rng_iff.1 (hF (r 143 1 100) (by simp [F_J0]))
  have b110_99 : 0 ≤ ρ.v 110 ∧ ρ.v 110 ≤ 99 := rng_iff.1 (hF (r 110 0 99) (by simp [F_J0]))
  have b112_0 : 0 ≤ ρ.v 112 ∧ ρ.v 112 ≤ 0 := rng_iff.1 (hF (r 112 0 0) (by simp [F_J0]))
  have b111_100 : 0 ≤ ρ.v 111 ∧ ρ.v 111 ≤ 100 := rng_iff.1 (hF (r 111 0 100) (by simp [F_J0]))
  simp only [List.mem_cons, List.not_mem_nil, or_false] at hob
  rcases hob with rfl | rfl | rfl | rfl
  · simp only [List.mem_cons, List.not_mem_nil, or_false] at hr
    have t0 := lt_iff.1 (hp ((.bin .lt (.un (.wrap .i64) (.get (.tv 130) (.var 111) 0)) (.lit (.ofNat 0))), true) (by simp))
    simp only [E.den, UO.den, iff_true, Int.ofNat_eq_natCast] at t0
    have t1 := lt_iff.1 (hp ((.bin .lt (.var 111) (.var 140)), true) (by simp))
    simp only [E.den, UO.den, iff_true, Int.ofNat_eq_natCast] at t1
    have t2 := lt_iff.1 (hp ((.bin .lt (.var 140) (.var 111)), false) (by simp))
    simp only [E.den, UO.den, Bool.false_eq_true, iff_false, Int.ofNat_eq_natCast] at t2
    rcases hr with rfl
    · exfalso
      have h3 := h0.2.2 _ (List.mem_cons_self ..) (ρ.v 111) (Int.le_refl _) (by simp only [E.den]; omega)
      simp only [rd, E.den, E.tden] at h3
      simp only [E.tden] at t0
      omega
  · simp only [List.mem_cons, List.not_mem_nil, or_false] at hr
    have t0 := lt_iff.1 (hp ((.bin .lt (.un (.wrap .i64) (.get (.tv 130) (.var 111) 0)) (.lit (.ofNat 100))), false) (by simp))
    simp only [E.den, UO.den, Bool.false_eq_true, iff_false, Int.ofNat_eq_natCast] at t0
    have t1 := lt_iff.1 (hp ((.bin .lt (.un (.wrap .i64) (.get (.tv 130) (.var 111) 0)) (.lit (.ofNat 0))), false) (by simp))
    simp only [E.den, UO.den, Bool.false_eq_true, iff_false, Int.ofNat_eq_natCast] at t1
    have t2 := lt_iff.1 (hp ((.bin .lt (.var 111) (.var 140)), true) (by simp))
    simp only [E.den, UO.den, iff_true, Int.ofNat_eq_natCast] at t2
    have t3 := lt_iff.1 (hp ((.bin .lt (.var 140) (.var 111)), false) (by simp))
    simp only [E.den, UO.den, Bool.false_eq_true, iff_false, Int.ofNat_eq_natCast] at t3
    rcases hr with rfl
    · exfalso
      have h3 := h0.2.2 _ (List.mem_cons_self ..) (ρ.v 111) (Int.le_refl _) (by simp only [E.den]; omega)
      simp only [rd, E.den, E.tden] at h3
      simp only [E.tden] at t0
      omega
  · simp only [List.mem_cons, List.not_mem_nil, or_false] at hr
    have t0 := lt_iff.1 (hp ((.bin .lt (.un (.wrap .i64) (.get (.tv 130) (.var 111) 0)) (.lit (.ofNat 100))), true) (by simp))
    simp only [E.den, UO.den, iff_true, Int.ofNat_eq_natCast] at t0
    have t1 := lt_iff.1 (hp ((.bin .lt (.un (.wrap .i64) (.get (.tv 130) (.var 111) 0)) (.lit (.ofNat 0))), false) (by simp))
    simp only [E.den, UO.den, Bool.false_eq_true, iff_false, Int.ofNat_eq_natCast] at t1
    have t2 := lt_iff.1 (hp ((.bin .lt (.var 111) (.var 140)), true) (by simp))
    simp only [E.den, UO.den, iff_true, Int.ofNat_eq_natCast] at t2
    have t3 := lt_iff.1 (hp ((.bin .lt (.var 140) (.var 111)), false) (by simp))
    simp only [E.den, UO.den, Bool.false_eq_true, iff_false, Int.ofNat_eq_natCast] at t3
    rcases hr with rfl | rfl
    · show waits (((.upd (.tv 120) (.un (.wrap .i64) (.get (.tv 130) (.var 111) 0)) 0 (.bin (.add .i64) (.un (.wrap .i64) (.get (.tv 120) (.un (.wrap .i64) (.get (.tv 130) (.var 111) 0)) 0)) (.lit (.ofNat 1)))) : E).tden ρ) [((((.tv 130) : E).tden ρ), (((.bin (.add .i64) (.var 111) (.lit (.ofNat 1))) : E).den ρ), (((.var 140) : E).den ρ)), ((((.tv 131) : E).tden ρ), (0 : Int), (((.var 141) : E).den ρ)), ((((.tv 132) : E).tden ρ), (0 : Int), (((.var 142) : E).den ρ)), ((((.tv 133) : E).tden ρ), (0 : Int), (((.var 143) : E).den ρ))] (((.var 110) : E).den ρ)
      exact waits_step h0 (by simp only [E.den]; omega) (by simp only [E.den, BO.den]; exact add_i64 (by omega) (by omega)) (by simp only [E.den]; omega) (fun r => by simp only [E.tden, E.den, BO.den, UO.den, rd, and_true]; rfl)
    · exact h1
  · simp only [List.mem_cons, List.not_mem_nil, or_false] at hr
    have t0 := lt_iff.1 (hp ((.bin .lt (.var 111) (.var 140)), false) (by simp))
    simp only [E.den, UO.den, Bool.false_eq_true, iff_false, Int.ofNat_eq_natCast] at t0
    have t1 := lt_iff.1 (hp ((.bin .lt (.var 140) (.var 111)), false) (by simp))
    simp only [E.den, UO.den, Bool.false_eq_true, iff_false, Int.ofNat_eq_natCast] at t1
    rcases hr with rfl | rfl
    · exact waits_drop h0 (by simp only [E.den]; omega)
    · exact h1
⟩
theorem good_l1_39_0 : GoodP rnL (cd5.drop 3) (F_Kn0 ++ lem_l1_39) T_Kn0.toS (some ⟨T_K0, F_K0, [(112, some 5), (110, none)], fm12⟩) [(2, ⟨T_L, F_L, [(110, none)], []⟩), (1, ⟨T_C1, F_C1, [(110, none)], fm8⟩), (0, ⟨T_E0, F_E0, [], fm1⟩)] [] := ⟨[([((.bin .lt (.var 110) (.var 0)), true), ((.bin .lt (.var 110) (.var 143)), false), ((.bin .lt (.var 110) (.var 142)), false), ((.bin .lt (.var 110) (.var 141)), false)], [(.fact (.sem 0 sem0 [(.tv 120), (.tv 131), (.tv 132), (.tv 133)] [(.var 110), (.lit (.ofNat 0)), (.var 141), (.lit (.ofNat 0)), (.var 142), (.lit (.ofNat 0)), (.var 143)])), (.fact (.sem 1 sem1 [(.tv 121)] [(.var 110)]))])], by kernel_rfl, by
  intro ρ hk ob hob hp rr hr
  have hF : ∀ g ∈ F_Kn0, Fact.holds ρ g := fun g hg => hk g (List.mem_append_left _ hg)
  have h0 : waits (((.tv 120) : E).tden ρ) [((((.tv 131) : E).tden ρ), (0 : Int), (((.var 141) : E).den ρ)), ((((.tv 132) : E).tden ρ), (0 : Int), (((.var 142) : E).den ρ)), ((((.tv 133) : E).tden ρ), (0 : Int), (((.var 143) : E).den ρ))] (((.var 110) : E).den ρ) := hF (.sem 0 sem0 [(.tv 120), (.tv 131), (.tv 132), (.tv 133)] [(.var 110), z, (.var 141), z, (.var 142), z, (.var 143)]) (by simp [F_Kn0])
  have h1 : rows (((.tv 121) : E).tden ρ) (((.var 110) : E).den ρ) := hF (.sem 1 sem1 [(.tv 121)] [(.var 110)]) (by simp [F_Kn0])
  have b110_100 : 0 ≤ ρ.v 110 ∧ ρ.v 110 ≤ 100 := rng_iff.1 (hF (r 110 0 100) (by simp [F_Kn0]))
  have b141_100 : 1 ≤ ρ.v 141 ∧ ρ.v 141 ≤ 100 := rng_iff.1 (hF (r 141 1 100) (by simp [F_Kn0]))
  have b142_100 : 1 ≤ ρ.v 142 ∧ ρ.v 142 ≤ 100 := rng_iff.1 (hF (r 142 1 100) (by simp [F_Kn0]))
  have b143_100 : 1 ≤ ρ.v 143 ∧ ρ.v 143 ≤ 100 := rng_iff.1 (hF (r 143 1 100) (by simp [F_Kn0]))
  have b110_99 : 0 ≤ ρ.v 110 ∧ ρ.v 110 ≤ 99 := rng_iff.1 (hF (r 110 0 99) (by simp [F_Kn0]))
  have b112_0 : 0 ≤ ρ.v 112 ∧ ρ.v 112 ≤ 0 := rng_iff.1 (hF (r 112 0 0) (by simp [F_Kn0]))
  simp only [List.mem_cons, List.not_mem_nil, or_false] at hob
  rcases hob with rfl
  · simp only [List.mem_cons, List.not_mem_nil, or_false] at hr
    rcases hr with rfl | rfl
    · exact h0
    · exact h1
⟩
theorem good_l1_40_0 : GoodP rnL (cd5.take 2) (F_K1 ++ lem_l1_40) T_K1.toS (some ⟨T_K1, F_K1, [(112, none), (110, none)], []⟩) [(2, ⟨T_L, F_L, [(110, none)], []⟩), (1, ⟨T_C1, F_C1, [(110, none)], fm8⟩), (0, ⟨T_E0, F_E0, [], fm1⟩)] [] := ⟨[([((.bin .lt (.var 110) (.var 0)), true), ((.bin .lt (.var 110) (.var 143)), false), ((.bin .lt (.var 110) (.var 142)), false), ((.bin .lt (.var 110) (.var 141)), false)], [(.fact (.sem 0 sem0 [(.tv 120), (.tv 131), (.tv 132), (.tv 133)] [(.var 110), (.lit (.ofNat 0)), (.var 141), (.lit (.ofNat 0)), (.var 142), (.lit (.ofNat 0)), (.var 143)])), (.fact (.sem 1 sem1 [(.tv 121)] [(.var 110)]))])], by kernel_rfl, by
  intro ρ hk ob hob hp rr hr
  have hF : ∀ g ∈ F_K1, Fact.holds ρ g := fun g hg => hk g (List.mem_append_left _ hg)
  have h0 : waits (((.tv 120) : E).tden ρ) [((((.tv 131) : E).tden ρ), (0 : Int), (((.var 141) : E).den ρ)), ((((.tv 132) : E).tden ρ), (0 : Int), (((.var 142) : E).den ρ)), ((((.tv 133) : E).tden ρ), (0 : Int), (((.var 143) : E).den ρ))] (((.var 110) : E).den ρ) := hF (.sem 0 sem0 [(.tv 120), (.tv 131), (.tv 132), (.tv 133)] [(.var 110), z, (.var 141), z, (.var 142), z, (.var 143)]) (by simp [F_K1])
  have h1 : rows (((.tv 121) : E).tden ρ) (((.var 110) : E).den ρ) := hF (.sem 1 sem1 [(.tv 121)] [(.var 110)]) (by simp [F_K1])
  have b110_100 : 0 ≤ ρ.v 110 ∧ ρ.v 110 ≤ 100 := rng_iff.1 (hF (r 110 0 100) (by simp [F_K1]))
  have b141_100 : 1 ≤ ρ.v 141 ∧ ρ.v 141 ≤ 100 := rng_iff.1 (hF (r 141 1 100) (by simp [F_K1]))
  have b142_100 : 1 ≤ ρ.v 142 ∧ ρ.v 142 ≤ 100 := rng_iff.1 (hF (r 142 1 100) (by simp [F_K1]))
  have b143_100 : 1 ≤ ρ.v 143 ∧ ρ.v 143 ≤ 100 := rng_iff.1 (hF (r 143 1 100) (by simp [F_K1]))
  have b110_99 : 0 ≤ ρ.v 110 ∧ ρ.v 110 ≤ 99 := rng_iff.1 (hF (r 110 0 99) (by simp [F_K1]))
  have b112_1 : 1 ≤ ρ.v 112 ∧ ρ.v 112 ≤ 1 := rng_iff.1 (hF (r 112 1 1) (by simp [F_K1]))
  simp only [List.mem_cons, List.not_mem_nil, or_false] at hob
  rcases hob with rfl
  · simp only [List.mem_cons, List.not_mem_nil, or_false] at hr
    rcases hr with rfl | rfl
    · exact h0
    · exact h1
⟩
theorem good_l1_41_0 : GoodP rnL (cd6.take 4) (F_K1 ++ lem_l1_41) T_K1.toS (some ⟨T_J1, F_J1, [(112, none), (110, none)], []⟩) [(3, ⟨T_Kn1, F_Kn1, [(112, none), (110, none)], []⟩), (2, ⟨T_L, F_L, [(110, none)], []⟩), (1, ⟨T_C1, F_C1, [(110, none)], fm8⟩), (0, ⟨T_E0, F_E0, [], fm1⟩)] [] := ⟨[([((.bin .lt (.var 110) (.var 0)), true), ((.bin .lt (.var 110) (.var 143)), false), ((.bin .lt (.var 110) (.var 142)), false), ((.bin .lt (.var 110) (.var 141)), false)], [(.fact (.sem 0 sem0 [(.tv 120), (.tv 131), (.tv 132), (.tv 133)] [(.var 110), (.lit (.ofNat 0)), (.var 141), (.lit (.ofNat 0)), (.var 142), (.lit (.ofNat 0)), (.var 143)])), (.fact (.sem 1 sem1 [(.tv 121)] [(.var 110)]))])], by kernel_rfl, by
  intro ρ hk ob hob hp rr hr
  have hF : ∀ g ∈ F_K1, Fact.holds ρ g := fun g hg => hk g (List.mem_append_left _ hg)
  have h0 : waits (((.tv 120) : E).tden ρ) [((((.tv 131) : E).tden ρ), (0 : Int), (((.var 141) : E).den ρ)), ((((.tv 132) : E).tden ρ), (0 : Int), (((.var 142) : E).den ρ)), ((((.tv 133) : E).tden ρ), (0 : Int), (((.var 143) : E).den ρ))] (((.var 110) : E).den ρ) := hF (.sem 0 sem0 [(.tv 120), (.tv 131), (.tv 132), (.tv 133)] [(.var 110), z, (.var 141), z, (.var 142), z, (.var 143)]) (by simp [F_K1])
  have h1 : rows (((.tv 121) : E).tden ρ) (((.var 110) : E).den ρ) := hF (.sem 1 sem1 [(.tv 121)] [(.var 110)]) (by simp [F_K1])
  have b110_100 : 0 ≤ ρ.v 110 ∧ ρ.v 110 ≤ 100 := rng_iff.1 (hF (r 110 0 100) (by simp [F_K1]))
  have b141_100 : 1 ≤ ρ.v 141 ∧ ρ.v 141 ≤ 100 := rng_iff.1 (hF (r 141 1 100) (by simp [F_K1]))
  have b142_100 : 1 ≤ ρ.v 142 ∧ ρ.v 142 ≤ 100 := rng_iff.1 (hF (r 142 1 100) (by simp [F_K1]))
  have b143_100 : 1 ≤ ρ.v 143 ∧ ρ.v 143 ≤ 100 := rng_iff.1 (hF (r 143 1 100) (by simp [F_K1]))
  have b110_99 : 0 ≤ ρ.v 110 ∧ ρ.v 110 ≤ 99 := rng_iff.1 (hF (r 110 0 99) (by simp [F_K1]))
  have b112_1 : 1 ≤ ρ.v 112 ∧ ρ.v 112 ≤ 1 := rng_iff.1 (hF (r 112 1 1) (by simp [F_K1]))
  simp only [List.mem_cons, List.not_mem_nil, or_false] at hob
  rcases hob with rfl
  · simp only [List.mem_cons, List.not_mem_nil, or_false] at hr
    rcases hr with rfl | rfl
    · exact h0
    · exact h1
⟩
theorem good_l1_42_0 : GoodP rnL cd7 (F_J1 ++ lem_l1_42) T_J1.toS (some ⟨T_J1, F_J1, [(111, some 101), (112, none), (110, none)], []⟩) [(4, ⟨T_Kn1, F_Kn1, [(112, none), (110, none)], []⟩), (3, ⟨T_Kn1, F_Kn1, [(112, none), (110, none)], []⟩), (2, ⟨T_L, F_L, [(110, none)], []⟩), (1, ⟨T_C1, F_C1, [(110, none)], fm8⟩), (0, ⟨T_E0, F_E0, [], fm1⟩)] [] := ⟨[([((.bin .lt (.un (.wrap .i64) (.get (.tv 131) (.var 111) 0)) (.lit (.ofNat 0))), true), ((.bin .lt (.var 111) (.var 141)), true), ((.bin .lt (.var 141) (.var 111)), false), ((.bin .lt (.var 110) (.var 0)), true), ((.bin .lt (.var 110) (.var 143)), false), ((.bin .lt (.var 110) (.var 142)), false), ((.bin .lt (.var 110) (.var 141)), false)], [(.done (.lit (.ofNat 0)))]),
  ([((.bin .lt (.un (.wrap .i64) (.get (.tv 131) (.var 111) 0)) (.lit (.ofNat 100))), false), ((.bin .lt (.un (.wrap .i64) (.get (.tv 131) (.var 111) 0)) (.lit (.ofNat 0))), false), ((.bin .lt (.var 111) (.var 141)), true), ((.bin .lt (.var 141) (.var 111)), false), ((.bin .lt (.var 110) (.var 0)), true), ((.bin .lt (.var 110) (.var 143)), false), ((.bin .lt (.var 110) (.var 142)), false), ((.bin .lt (.var 110) (.var 141)), false)], [(.done (.lit (.ofNat 0)))]),
  ([((.bin .lt (.un (.wrap .i64) (.get (.tv 131) (.var 111) 0)) (.lit (.ofNat 100))), true), ((.bin .lt (.un (.wrap .i64) (.get (.tv 131) (.var 111) 0)) (.lit (.ofNat 0))), false), ((.bin .lt (.var 111) (.var 141)), true), ((.bin .lt (.var 141) (.var 111)), false), ((.bin .lt (.var 110) (.var 0)), true), ((.bin .lt (.var 110) (.var 143)), false), ((.bin .lt (.var 110) (.var 142)), false), ((.bin .lt (.var 110) (.var 141)), false)], [(.fact (.sem 0 sem0 [(.upd (.tv 120) (.un (.wrap .i64) (.get (.tv 131) (.var 111) 0)) 0 (.bin (.add .i64) (.un (.wrap .i64) (.get (.tv 120) (.un (.wrap .i64) (.get (.tv 131) (.var 111) 0)) 0)) (.lit (.ofNat 1)))), (.tv 131), (.tv 132), (.tv 133)] [(.var 110), (.bin (.add .i64) (.var 111) (.lit (.ofNat 1))), (.var 141), (.lit (.ofNat 0)), (.var 142), (.lit (.ofNat 0)), (.var 143)])), (.fact (.sem 1 sem1 [(.tv 121)] [(.var 110)]))]),
  ([((.bin .lt (.var 111) (.var 141)), false), ((.bin .lt (.var 141) (.var 111)), false), ((.bin .lt (.var 110) (.var 0)), true), ((.bin .lt (.var 110) (.var 143)), false), ((.bin .lt (.var 110) (.var 142)), false), ((.bin .lt (.var 110) (.var 141)), false)], [(.fact (.sem 0 sem0 [(.tv 120), (.tv 132), (.tv 133)] [(.var 110), (.lit (.ofNat 0)), (.var 142), (.lit (.ofNat 0)), (.var 143)])), (.fact (.sem 1 sem1 [(.tv 121)] [(.var 110)]))])], by kernel_rfl, by
  intro ρ hk ob hob hp rr hr
  have hF : ∀ g ∈ F_J1, Fact.holds ρ g := fun g hg => hk g (List.mem_append_left _ hg)
  have h0 : waits (((.tv 120) : E).tden ρ) [((((.tv 131) : E).tden ρ), (((.var 111) : E).den ρ), (((.var 141) : E).den ρ)), ((((.tv 132) : E).tden ρ), (0 : Int), (((.var 142) : E).den ρ)), ((((.tv 133) : E).tden ρ), (0 : Int), (((.var 143) : E).den ρ))] (((.var 110) : E).den ρ) := hF (.sem 0 sem0 [(.tv 120), (.tv 131), (.tv 132), (.tv 133)] [(.var 110), (.var 111), (.var 141), z, (.var 142), z, (.var 143)]) (by simp [F_J1])
  have h1 : rows (((.tv 121) : E).tden ρ) (((.var 110) : E).den ρ) := hF (.sem 1 sem1 [(.tv 121)] [(.var 110)]) (by simp [F_J1])
  have b110_100 : 0 ≤ ρ.v 110 ∧ ρ.v 110 ≤ 100 := rng_iff.1 (hF (r 110 0 100) (by simp [F_J1]))
  have b141_100 : 1 ≤ ρ.v 141 ∧ ρ.v 141 ≤ 100 := rng_iff.1 (hF (r 141 1 100) (by simp [F_J1]))
  have b142_100 : 1 ≤ ρ.v 142 ∧ ρ.v 142 ≤ 100 := rng_iff.1 (hF (r 142 1 100) (by simp [F_J1]))
  have b143_100 : 1 ≤ ρ.v 143 ∧ ρ.v 143 ≤ 100 := rng_iff.1 (hF (r 143 1 100) (by simp [F_J1]))
  have b110_99 : 0 ≤ ρ.v 110 ∧ ρ.v 110 ≤ 99 := rng_iff.1 (hF (r 110 0 99) (by simp [F_J1]))
  have b112_1 : 1 ≤ ρ.v 112 ∧ ρ.v 112 ≤ 1 := rng_iff.1 (hF (r 112 1 1) (by simp [F_J1]))
  have b111_100 : 0 ≤ ρ.v 111 ∧ ρ.v 111 ≤ 100 := rng_iff.1 (hF (r 111 0 100) (by simp [F_J1]))
  simp only [List.mem_cons, List.not_mem_nil, or_false] at hob
  rcases hob with rfl | rfl | rfl | rfl
  · simp only [List.mem_cons, List.not_mem_nil, or_false] at hr
    have t0 := lt_iff.1 (hp ((.bin .lt (.un (.wrap .i64) (.get (.tv 131) (.var 111) 0)) (.lit (.ofNat 0))), true) (by simp))
    simp only [E.den, UO.den, iff_true, Int.ofNat_eq_natCast] at t0
    have t1 := lt_iff.1 (hp ((.bin .lt (.var 111) (.var 141)), true) (by simp))
    simp only [E.den, UO.den, iff_true, Int.ofNat_eq_natCast] at t1
    have t2 := lt_iff.1 (hp ((.bin .lt (.var 141) (.var 111)), false) (by simp))
    simp only [E.den, UO.den, Bool.false_eq_true, iff_false, Int.ofNat_eq_natCast] at t2
    rcases hr with rfl
    · exfalso
      have h3 := h0.2.2 _ (List.mem_cons_self ..) (ρ.v 111) (Int.le_refl _) (by simp only [E.den]; omega)
      simp only [rd, E.den, E.tden] at h3
      simp only [E.tden] at t0
      omega
  · simp only [List.mem_cons, List.not_mem_nil, or_false] at hr
    have t0 := lt_iff.1 (hp ((.bin .lt (.un (.wrap .i64) (.get (.tv 131) (.var 111) 0)) (.lit (.ofNat 100))), false) (by simp))
    simp only [E.den, UO.den, Bool.false_eq_true, iff_false, Int.ofNat_eq_natCast] at t0
    have t1 := lt_iff.1 (hp ((.bin .lt (.un (.wrap .i64) (.get (.tv 131) (.var 111) 0)) (.lit (.ofNat 0))), false) (by simp))
    simp only [E.den, UO.den, Bool.false_eq_true, iff_false, Int.ofNat_eq_natCast] at t1
    have t2 := lt_iff.1 (hp ((.bin .lt (.var 111) (.var 141)), true) (by simp))
    simp only [E.den, UO.den, iff_true, Int.ofNat_eq_natCast] at t2
    have t3 := lt_iff.1 (hp ((.bin .lt (.var 141) (.var 111)), false) (by simp))
    simp only [E.den, UO.den, Bool.false_eq_true, iff_false, Int.ofNat_eq_natCast] at t3
    rcases hr with rfl
    · exfalso
      have h3 := h0.2.2 _ (List.mem_cons_self ..) (ρ.v 111) (Int.le_refl _) (by simp only [E.den]; omega)
      simp only [rd, E.den, E.tden] at h3
      simp only [E.tden] at t0
      omega
  · simp only [List.mem_cons, List.not_mem_nil, or_false] at hr
    have t0 := lt_iff.1 (hp ((.bin .lt (.un (.wrap .i64) (.get (.tv 131) (.var 111) 0)) (.lit (.ofNat 100))), true) (by simp))
    simp only [E.den, UO.den, iff_true, Int.ofNat_eq_natCast] at t0
    have t1 := lt_iff.1 (hp ((.bin .lt (.un (.wrap .i64) (.get (.tv 131) (.var 111) 0)) (.lit (.ofNat 0))), false) (by simp))
    simp only [E.den, UO.den, Bool.false_eq_true, iff_false, Int.ofNat_eq_natCast] at t1
    have t2 := lt_iff.1 (hp ((.bin .lt (.var 111) (.var 141)), true) (by simp))
    simp only [E.den, UO.den, iff_true, Int.ofNat_eq_natCast] at t2
    have t3 := lt_iff.1 (hp ((.bin .lt (.var 141) (.var 111)), false) (by simp))
    simp only [E.den, UO.den, Bool.false_eq_true, iff_false, Int.ofNat_eq_natCast] at t3
    rcases hr with rfl | rfl
    · show waits (((.upd (.tv 120) (.un (.wrap .i64) (.get (.tv 131) (.var 111) 0)) 0 (.bin (.add .i64) (.un (.wrap .i64) (.get (.tv 120) (.un (.wrap .i64) (.get (.tv 131) (.var 111) 0)) 0)) (.lit (.ofNat 1)))) : E).tden ρ) [((((.tv 131) : E).tden ρ), (((.bin (.add .i64) (.var 111) (.lit (.ofNat 1))) : E).den ρ), (((.var 141) : E).den ρ)), ((((.tv 132) : E).tden ρ), (0 : Int), (((.var 142) : E).den ρ)), ((((.tv 133) : E).tden ρ), (0 : Int), (((.var 143) : E).den ρ))] (((.var 110) : E).den ρ)
      exact waits_step h0 (by simp only [E.den]; omega) (by simp only [E.den, BO.den]; exact add_i64 (by omega) (by omega)) (by simp only [E.den]; omega) (fun r => by simp only [E.tden, E.den, BO.den, UO.den, rd, and_true]; rfl)
    · exact h1
  · simp only [List.mem_cons, List.not_mem_nil, or_false] at hr
    have t0 := lt_iff.1 (hp ((.bin .lt (.var 111) (.var 141)), false) (by simp))
    simp only [E.den, UO.den, Bool.false_eq_true, iff_false, Int.ofNat_eq_natCast] at t0
    have t1 := lt_iff.1 (hp ((.bin .lt (.var 141) (.var 111)), false) (by simp))
    simp only [E.den, UO.den, Bool.false_eq_true, iff_false, Int.ofNat_eq_natCast] at t1
    rcases hr with rfl | rfl
    · exact waits_drop h0 (by simp only [E.den]; omega)
    · exact h1
⟩
theorem good_l1_43_0 : GoodP rnL (cd5.drop 3) (F_Kn1 ++ lem_l1_43) T_Kn1.toS (some ⟨T_K0, F_K0, [(112, some 5), (110, none)], fm12⟩) [(2, ⟨T_L, F_L, [(110, none)], []⟩), (1, ⟨T_C1, F_C1, [(110, none)], fm8⟩), (0, ⟨T_E0, F_E0, [], fm1⟩)] [] := ⟨[([((.bin .lt (.var 110) (.var 0)), true), ((.bin .lt (.var 110) (.var 143)), false), ((.bin .lt (.var 110) (.var 142)), false)], [(.fact (.sem 0 sem0 [(.tv 120), (.tv 132), (.tv 133)] [(.var 110), (.lit (.ofNat 0)), (.var 142), (.lit (.ofNat 0)), (.var 143)])), (.fact (.sem 1 sem1 [(.tv 121)] [(.var 110)]))])], by kernel_rfl, by
  intro ρ hk ob hob hp rr hr
  have hF : ∀ g ∈ F_Kn1, Fact.holds ρ g := fun g hg => hk g (List.mem_append_left _ hg)
  have h0 : waits (((.tv 120) : E).tden ρ) [((((.tv 132) : E).tden ρ), (0 : Int), (((.var 142) : E).den ρ)), ((((.tv 133) : E).tden ρ), (0 : Int), (((.var 143) : E).den ρ))] (((.var 110) : E).den ρ) := hF (.sem 0 sem0 [(.tv 120), (.tv 132), (.tv 133)] [(.var 110), z, (.var 142), z, (.var 143)]) (by simp [F_Kn1])
  have h1 : rows (((.tv 121) : E).tden ρ) (((.var 110) : E).den ρ) := hF (.sem 1 sem1 [(.tv 121)] [(.var 110)]) (by simp [F_Kn1])
  have b110_100 : 0 ≤ ρ.v 110 ∧ ρ.v 110 ≤ 100 := rng_iff.1 (hF (r 110 0 100) (by simp [F_Kn1]))
  have b142_100 : 1 ≤ ρ.v 142 ∧ ρ.v 142 ≤ 100 := rng_iff.1 (hF (r 142 1 100) (by simp [F_Kn1]))
  have b143_100 : 1 ≤ ρ.v 143 ∧ ρ.v 143 ≤ 100 := rng_iff.1 (hF (r 143 1 100) (by simp [F_Kn1]))
  have b110_99 : 0 ≤ ρ.v 110 ∧ ρ.v 110 ≤ 99 := rng_iff.1 (hF (r 110 0 99) (by simp [F_Kn1]))
  have b112_1 : 1 ≤ ρ.v 112 ∧ ρ.v 112 ≤ 1 := rng_iff.1 (hF (r 112 1 1) (by simp [F_Kn1]))
  simp only [List.mem_cons, List.not_mem_nil, or_false] at hob
  rcases hob with rfl
  · simp only [List.mem_cons, List.not_mem_nil, or_false] at hr
    rcases hr with rfl | rfl
    · exact h0
    · exact h1
⟩
theorem good_l1_44_0 : GoodP rnL (cd5.take 2) (F_K2 ++ lem_l1_44) T_K2.toS (some ⟨T_K2, F_K2, [(112, none), (110, none)], []⟩) [(2, ⟨T_L, F_L, [(110, none)], []⟩), (1, ⟨T_C1, F_C1, [(110, none)], fm8⟩), (0, ⟨T_E0, F_E0, [], fm1⟩)] [] := ⟨[([((.bin .lt (.var 110) (.var 0)), true), ((.bin .lt (.var 110) (.var 143)), false), ((.bin .lt (.var 110) (.var 142)), false)], [(.fact (.sem 0 sem0 [(.tv 120), (.tv 132), (.tv 133)] [(.var 110), (.lit (.ofNat 0)), (.var 142), (.lit (.ofNat 0)), (.var 143)])), (.fact (.sem 1 sem1 [(.tv 121)] [(.var 110)]))])], by kernel_rfl, by
  intro ρ hk ob hob hp rr hr
  have hF : ∀ g ∈ F_K2, Fact.holds ρ g := fun g hg => hk g (List.mem_append_left _ hg)
  have h0 : waits (((.tv 120) : E).tden ρ) [((((.tv 132) : E).tden ρ), (0 : Int), (((.var 142) : E).den ρ)), ((((.tv 133) : E).tden ρ), (0 : Int), (((.var 143) : E).den ρ))] (((.var 110) : E).den ρ) := hF (.sem 0 sem0 [(.tv 120), (.tv 132), (.tv 133)] [(.var 110), z, (.var 142), z, (.var 143)]) (by simp [F_K2])
  have h1 : rows (((.tv 121) : E).tden ρ) (((.var 110) : E).den ρ) := hF (.sem 1 sem1 [(.tv 121)] [(.var 110)]) (by simp [F_K2])
  have b110_100 : 0 ≤ ρ.v 110 ∧ ρ.v 110 ≤ 100 := rng_iff.1 (hF (r 110 0 100) (by simp [F_K2]))
  have b142_100 : 1 ≤ ρ.v 142 ∧ ρ.v 142 ≤ 100 := rng_iff.1 (hF (r 142 1 100) (by simp [F_K2]))
  have b143_100 : 1 ≤ ρ.v 143 ∧ ρ.v 143 ≤ 100 := rng_iff.1 (hF (r 143 1 100) (by simp [F_K2]))
  have b110_99 : 0 ≤ ρ.v 110 ∧ ρ.v 110 ≤ 99 := rng_iff.1 (hF (r 110 0 99) (by simp [F_K2]))
  have b112_2 : 2 ≤ ρ.v 112 ∧ ρ.v 112 ≤ 2 := rng_iff.1 (hF (r 112 2 2) (by simp [F_K2]))
  simp only [List.mem_cons, List.not_mem_nil, or_false] at hob
  rcases hob with rfl
  · simp only [List.mem_cons, List.not_mem_nil, or_false] at hr
    rcases hr with rfl | rfl
    · exact h0
    · exact h1
⟩
theorem good_l1_45_0 : GoodP rnL (cd6.take 4) (F_K2 ++ lem_l1_45) T_K2.toS (some ⟨T_J2, F_J2, [(112, none), (110, none)], []⟩) [(3, ⟨T_Kn2, F_Kn2, [(112, none), (110, none)], []⟩), (2, ⟨T_L, F_L, [(110, none)], []⟩), (1, ⟨T_C1, F_C1, [(110, none)], fm8⟩), (0, ⟨T_E0, F_E0, [], fm1⟩)] [] := ⟨[([((.bin .lt (.var 110) (.var 0)), true), ((.bin .lt (.var 110) (.var 143)), false), ((.bin .lt (.var 110) (.var 142)), false)], [(.fact (.sem 0 sem0 [(.tv 120), (.tv 132), (.tv 133)] [(.var 110), (.lit (.ofNat 0)), (.var 142), (.lit (.ofNat 0)), (.var 143)])), (.fact (.sem 1 sem1 [(.tv 121)] [(.var 110)]))])], by kernel_rfl, by
  intro ρ hk ob hob hp rr hr
  have hF : ∀ g ∈ F_K2, Fact.holds ρ g := fun g hg => hk g (List.mem_append_left _ hg)
  have h0 : waits (((.tv 120) : E).tden ρ) [((((.tv 132) : E).tden ρ), (0 : Int), (((.var 142) : E).den ρ)), ((((.tv 133) : E).tden ρ), (0 : Int), (((.var 143) : E).den ρ))] (((.var 110) : E).den ρ) := hF (.sem 0 sem0 [(.tv 120), (.tv 132), (.tv 133)] [(.var 110), z, (.var 142), z, (.var 143)]) (by simp [F_K2])
  have h1 : rows (((.tv 121) : E).tden ρ) (((.var 110) : E).den ρ) := hF (.sem 1 sem1 [(.tv 121)] [(.var 110)]) (by simp [F_K2])
  have b110_100 : 0 ≤ ρ.v 110 ∧ ρ.v 110 ≤ 100 := rng_iff.1 (hF (r 110 0 100) (by simp [F_K2]))
  have b142_100 : 1 ≤ ρ.v 142 ∧ ρ.v 142 ≤ 100 := rng_iff.1 (hF (r 142 1 100) (by simp [F_K2]))
  have b143_100 : 1 ≤ ρ.v 143 ∧ ρ.v 143 ≤ 100 := rng_iff.1 (hF (r 143 1 100) (by simp [F_K2]))
  have b110_99 : 0 ≤ ρ.v 110 ∧ ρ.v 110 ≤ 99 := rng_iff.1 (hF (r 110 0 99) (by simp [F_K2]))
  have b112_2 : 2 ≤ ρ.v 112 ∧ ρ.v 112 ≤ 2 := rng_iff.1 (hF (r 112 2 2) (by simp [F_K2]))
  simp only [List.mem_cons, List.not_mem_nil, or_false] at hob
  rcases hob with rfl
  · simp only [List.mem_cons, List.not_mem_nil, or_false] at hr
    rcases hr with rfl | rfl
    · exact h0
    · exact h1
⟩
theorem good_l1_46_0 : GoodP rnL cd7 (F_J2 ++ lem_l1_46) T_J2.toS (some ⟨T_J2, F_J2, [(111, some 101), (112, none), (110, none)], []⟩) [(4, ⟨T_Kn2, F_Kn2, [(112, none), (110, none)], []⟩), (3, ⟨T_Kn2, F_Kn2, [(112, none), (110, none)], []⟩), (2, ⟨T_L, F_L, [(110, none)], []⟩), (1, ⟨T_C1, F_C1, [(110, none)], fm8⟩), (0, ⟨T_E0, F_E0, [], fm1⟩)] [] := ⟨[([((.bin .lt (.un (.wrap .i64) (.get (.tv 132) (.var 111) 0)) (.lit (.ofNat 0))), true), ((.bin .lt (.var 111) (.var 142)), true), ((.bin .lt (.var 142) (.var 111)), false), ((.bin .lt (.var 110) (.var 0)), true), ((.bin .lt (.var 110) (.var 143)), false), ((.bin .lt (.var 110) (.var 142)), false)], [(.done (.lit (.ofNat 0)))]),
  ([((.bin .lt (.un (.wrap .i64) (.get (.tv 132) (.var 111) 0)) (.lit (.ofNat 100))), false), ((.bin .lt (.un (.wrap .i64) (.get (.tv 132) (.var 111) 0)) (.lit (.ofNat 0))), false), ((.bin .lt (.var 111) (.var 142)), true), ((.bin .lt (.var 142) (.var 111)), false), ((.bin .lt (.var 110) (.var 0)), true), ((.bin .lt (.var 110) (.var 143)), false), ((.bin .lt (.var 110) (.var 142)), false)], [(.done (.lit (.ofNat 0)))]),
  ([((.bin .lt (.un (.wrap .i64) (.get (.tv 132) (.var 111) 0)) (.lit (.ofNat 100))), true), ((.bin .lt (.un (.wrap .i64) (.get (.tv 132) (.var 111) 0)) (.lit (.ofNat 0))), false), ((.bin .lt (.var 111) (.var 142)), true), ((.bin .lt (.var 142) (.var 111)), false), ((.bin .lt (.var 110) (.var 0)), true), ((.bin .lt (.var 110) (.var 143)), false), ((.bin .lt (.var 110) (.var 142)), false)], [(.fact (.sem 0 sem0 [(.upd (.tv 120) (.un (.wrap .i64) (.get (.tv 132) (.var 111) 0)) 0 (.bin (.add .i64) (.un (.wrap .i64) (.get (.tv 120) (.un (.wrap .i64) (.get (.tv 132) (.var 111) 0)) 0)) (.lit (.ofNat 1)))), (.tv 132), (.tv 133)] [(.var 110), (.bin (.add .i64) (.var 111) (.lit (.ofNat 1))), (.var 142), (.lit (.ofNat 0)), (.var 143)])), (.fact (.sem 1 sem1 [(.tv 121)] [(.var 110)]))]),
  ([((.bin .lt (.var 111) (.var 142)), false), ((.bin .lt (.var 142) (.var 111)), false), ((.bin .lt (.var 110) (.var 0)), true), ((.bin .lt (.var 110) (.var 143)), false), ((.bin .lt (.var 110) (.var 142)), false)], [(.fact (.sem 0 sem0 [(.tv 120), (.tv 133)] [(.var 110), (.lit (.ofNat 0)), (.var 143)])), (.fact (.sem 1 sem1 [(.tv 121)] [(.var 110)]))])], by kernel_rfl, by
  intro ρ hk ob hob hp rr hr
  have hF : ∀ g ∈ F_J2, Fact.holds ρ g := fun g hg => hk g (List.mem_append_left _ hg)
  have h0 : waits (((.tv 120) : E).tden ρ) [((((.tv 132) : E).tden ρ), (((.var 111) : E).den ρ), (((.var 142) : E).den ρ)), ((((.tv 133) : E).tden ρ), (0 : Int), (((.var 143) : E).den ρ))] (((.var 110) : E).den ρ) := hF (.sem 0 sem0 [(.tv 120), (.tv 132), (.tv 133)] [(.var 110), (.var 111), (.var 142), z, (.var 143)]) (by simp [F_J2])
  have h1 : rows (((.tv 121) : E).tden ρ) (((.var 110) : E).den ρ) := hF (.sem 1 sem1 [(.tv 121)] [(.var 110)]) (by simp [F_J2])
  have b110_100 : 0 ≤ ρ.v 110 ∧ ρ.v 110 ≤ 100 := rng_iff.1 (hF (r 110 0 100) (by simp [F_J2]))
  have b142_100 : 1 ≤ ρ.v 142 ∧ ρ.v 142 ≤ 100 := rng_iff.1 (hF (r 142 1 100) (by simp [F_J2]))
  have b143_100 : 1 ≤ ρ.v 143 ∧ ρ.v 143 ≤ 100 := rng_iff.1 (hF (r 143 1 100) (by simp [F_J2]))
  have b110_99 : 0 ≤ ρ.v 110 ∧ ρ.v 110 ≤ 99 := rng_iff.1 (hF (r 110 0 99) (by simp [F_J2]))
  have b112_2 : 2 ≤ ρ.v 112 ∧ ρ.v 112 ≤ 2 := rng_iff.1 (hF (r 112 2 2) (by simp [F_J2]))
  have b111_100 : 0 ≤ ρ.v 111 ∧ ρ.v 111 ≤ 100 := rng_iff.1 (hF (r 111 0 100) (by simp [F_J2]))
  simp only [List.mem_cons, List.not_mem_nil, or_false] at hob
  rcases hob with rfl | rfl | rfl | rfl
  · simp only [List.mem_cons, List.not_mem_nil, or_false] at hr
    have t0 := lt_iff.1 (hp ((.bin .lt (.un (.wrap .i64) (.get (.tv 132) (.var 111) 0)) (.lit (.ofNat 0))), true) (by simp))
    simp only [E.den, UO.den, iff_true, Int.ofNat_eq_natCast] at t0
    have t1 := lt_iff.1 (hp ((.bin .lt (.var 111) (.var 142)), true) (by simp))
    simp only [E.den, UO.den, iff_true, Int.ofNat_eq_natCast] at t1
    have t2 := lt_iff.1 (hp ((.bin .lt (.var 142) (.var 111)), false) (by simp))
    simp only [E.den, UO.den, Bool.false_eq_true, iff_false, Int.ofNat_eq_natCast] at t2
    rcases hr with rfl
    · exfalso
      have h3 := h0.2.2 _ (List.mem_cons_self ..) (ρ.v 111) (Int.le_refl _) (by simp only [E.den]; omega)
      simp only [rd, E.den, E.tden] at h3
      simp only [E.tden] at t0
      omega
  · simp only [List.mem_cons, List.not_mem_nil, or_false] at hr
    have t0 := lt_iff.1 (hp ((.bin .lt (.un (.wrap .i64) (.get (.tv 132) (.var 111) 0)) (.lit (.ofNat 100))), false) (by simp))
    simp only [E.den, UO.den, Bool.false_eq_true, iff_false, Int.ofNat_eq_natCast] at t0
    have t1 := lt_iff.1 (hp ((.bin .lt (.un (.wrap .i64) (.get (.tv 132) (.var 111) 0)) (.lit (.ofNat 0))), false) (by simp))
    simp only [E.den, UO.den, Bool.false_eq_true, iff_false, Int.ofNat_eq_natCast] at t1
    have t2 := lt_iff.1 (hp ((.bin .lt (.var 111) (.var 142)), true) (by simp))
    simp only [E.den, UO.den, iff_true, Int.ofNat_eq_natCast] at t2
    have t3 := lt_iff.1 (hp ((.bin .lt (.var 142) (.var 111)), false) (by simp))
    simp only [E.den, UO.den, Bool.false_eq_true, iff_false, Int.ofNat_eq_natCast] at t3
    rcases hr with rfl
    · exfalso
      have h3 := h0.2.2 _ (List.mem_cons_self ..) (ρ.v 111) (Int.le_refl _) (by simp only [E.den]; omega)
      simp only [rd, E.den, E.tden] at h3
      simp only [E.tden] at t0
      omega
  · simp only [List.mem_cons, List.not_mem_nil, or_false] at hr
    have t0 := lt_iff.1 (hp ((.bin .lt (.un (.wrap .i64) (.get (.tv 132) (.var 111) 0)) (.lit (.ofNat 100))), true) (by simp))
    simp only [E.den, UO.den, iff_true, Int.ofNat_eq_natCast] at t0
    have t1 := lt_iff.1 (hp ((.bin .lt (.un (.wrap .i64) (.get (.tv 132) (.var 111) 0)) (.lit (.ofNat 0))), false) (by simp))
    simp only [E.den, UO.den, Bool.false_eq_true, iff_false, Int.ofNat_eq_natCast] at t1
    have t2 := lt_iff.1 (hp ((.bin .lt (.var 111) (.var 142)), true) (by simp))
    simp only [E.den, UO.den, iff_true, Int.ofNat_eq_natCast] at t2
    have t3 := lt_iff.1 (hp ((.bin .lt (.var 142) (.var 111)), false) (by simp))
    simp only [E.den, UO.den, Bool.false_eq_true, iff_false, Int.ofNat_eq_natCast] at t3
    rcases hr with rfl | rfl
    · show waits (((.upd (.tv 120) (.un (.wrap .i64) (.get (.tv 132) (.var 111) 0)) 0 (.bin (.add .i64) (.un (.wrap .i64) (.get (.tv 120) (.un (.wrap .i64) (.get (.tv 132) (.var 111) 0)) 0)) (.lit (.ofNat 1)))) : E).tden ρ) [((((.tv 132) : E).tden ρ), (((.bin (.add .i64) (.var 111) (.lit (.ofNat 1))) : E).den ρ), (((.var 142) : E).den ρ)), ((((.tv 133) : E).tden ρ), (0 : Int), (((.var 143) : E).den ρ))] (((.var 110) : E).den ρ)
      exact waits_step h0 (by simp only [E.den]; omega) (by simp only [E.den, BO.den]; exact add_i64 (by omega) (by omega)) (by simp only [E.den]; omega) (fun r => by simp only [E.tden, E.den, BO.den, UO.den, rd, and_true]; rfl)
    · exact h1
  · simp only [List.mem_cons, List.not_mem_nil, or_false] at hr
    have t0 := lt_iff.1 (hp ((.bin .lt (.var 111) (.var 142)), false) (by simp))
    simp only [E.den, UO.den, Bool.false_eq_true, iff_false, Int.ofNat_eq_natCast] at t0
    have t1 := lt_iff.1 (hp ((.bin .lt (.var 142) (.var 111)), false) (by simp))
    simp only [E.den, UO.den, Bool.false_eq_true, iff_false, Int.ofNat_eq_natCast] at t1
    rcases hr with rfl | rfl
    · exact waits_drop h0 (by simp only [E.den]; omega)
    · exact h1
⟩
theorem good_l1_47_0 : GoodP rnL (cd5.drop 3) (F_Kn2 ++ lem_l1_47) T_Kn2.toS (some ⟨T_K0, F_K0, [(112, some 5), (110, none)], fm12⟩) [(2, ⟨T_L, F_L, [(110, none)], []⟩), (1, ⟨T_C1, F_C1, [(110, none)], fm8⟩), (0, ⟨T_E0, F_E0, [], fm1⟩)] [] := ⟨[([((.bin .lt (.var 110) (.var 0)), true), ((.bin .lt (.var 110) (.var 143)), false)], [(.fact (.sem 0 sem0 [(.tv 120), (.tv 133)] [(.var 110), (.lit (.ofNat 0)), (.var 143)])), (.fact (.sem 1 sem1 [(.tv 121)] [(.var 110)]))])], by kernel_rfl, by
  intro ρ hk ob hob hp rr hr
  have hF : ∀ g ∈ F_Kn2, Fact.holds ρ g := fun g hg => hk g (List.mem_append_left _ hg)
  have h0 : waits (((.tv 120) : E).tden ρ) [((((.tv 133) : E).tden ρ), (0 : Int), (((.var 143) : E).den ρ))] (((.var 110) : E).den ρ) := hF (.sem 0 sem0 [(.tv 120), (.tv 133)] [(.var 110), z, (.var 143)]) (by simp [F_Kn2])
  have h1 : rows (((.tv 121) : E).tden ρ) (((.var 110) : E).den ρ) := hF (.sem 1 sem1 [(.tv 121)] [(.var 110)]) (by simp [F_Kn2])
  have b110_100 : 0 ≤ ρ.v 110 ∧ ρ.v 110 ≤ 100 := rng_iff.1 (hF (r 110 0 100) (by simp [F_Kn2]))
  have b143_100 : 1 ≤ ρ.v 143 ∧ ρ.v 143 ≤ 100 := rng_iff.1 (hF (r 143 1 100) (by simp [F_Kn2]))
  have b110_99 : 0 ≤ ρ.v 110 ∧ ρ.v 110 ≤ 99 := rng_iff.1 (hF (r 110 0 99) (by simp [F_Kn2]))
  have b112_2 : 2 ≤ ρ.v 112 ∧ ρ.v 112 ≤ 2 := rng_iff.1 (hF (r 112 2 2) (by simp [F_Kn2]))
  simp only [List.mem_cons, List.not_mem_nil, or_false] at hob
  rcases hob with rfl
  · simp only [List.mem_cons, List.not_mem_nil, or_false] at hr
    rcases hr with rfl | rfl
    · exact h0
    · exact h1
⟩
theorem good_l1_48_0 : GoodP rnL (cd5.take 2) (F_K3 ++ lem_l1_48) T_K3.toS (some ⟨T_K3, F_K3, [(112, none), (110, none)], []⟩) [(2, ⟨T_L, F_L, [(110, none)], []⟩), (1, ⟨T_C1, F_C1, [(110, none)], fm8⟩), (0, ⟨T_E0, F_E0, [], fm1⟩)] [] := ⟨[([((.bin .lt (.var 110) (.var 0)), true), ((.bin .lt (.var 110) (.var 143)), false)], [(.fact (.sem 0 sem0 [(.tv 120), (.tv 133)] [(.var 110), (.lit (.ofNat 0)), (.var 143)])), (.fact (.sem 1 sem1 [(.tv 121)] [(.var 110)]))])], by kernel_rfl, by
  intro ρ hk ob hob hp rr hr
  have hF : ∀ g ∈ F_K3, Fact.holds ρ g := fun g hg => hk g (List.mem_append_left _ hg)
  have h0 : waits (((.tv 120) : E).tden ρ) [((((.tv 133) : E).tden ρ), (0 : Int), (((.var 143) : E).den ρ))] (((.var 110) : E).den ρ) := hF (.sem 0 sem0 [(.tv 120), (.tv 133)] [(.var 110), z, (.var 143)]) (by simp [F_K3])
  have h1 : rows (((.tv 121) : E).tden ρ) (((.var 110) : E).den ρ) := hF (.sem 1 sem1 [(.tv 121)] [(.var 110)]) (by simp [F_K3])
  have b110_100 : 0 ≤ ρ.v 110 ∧ ρ.v 110 ≤ 100 := rng_iff.1 (hF (r 110 0 100) (by simp [F_K3]))
  have b143_100 : 1 ≤ ρ.v 143 ∧ ρ.v 143 ≤ 100 := rng_iff.1 (hF (r 143 1 100) (by simp [F_K3]))
  have b110_99 : 0 ≤ ρ.v 110 ∧ ρ.v 110 ≤ 99 := rng_iff.1 (hF (r 110 0 99) (by simp [F_K3]))
  have b112_3 : 3 ≤ ρ.v 112 ∧ ρ.v 112 ≤ 3 := rng_iff.1 (hF (r 112 3 3) (by simp [F_K3]))
  simp only [List.mem_cons, List.not_mem_nil, or_false] at hob
  rcases hob with rfl
  · simp only [List.mem_cons, List.not_mem_nil, or_false] at hr
    rcases hr with rfl | rfl
    · exact h0
    · exact h1
⟩
theorem good_l1_49_0 : GoodP rnL (cd6.take 4) (F_K3 ++ lem_l1_49) T_K3.toS (some ⟨T_J3, F_J3, [(112, none), (110, none)], []⟩) [(3, ⟨T_Kn3, F_Kn3, [(112, none), (110, none)], []⟩), (2, ⟨T_L, F_L, [(110, none)], []⟩), (1, ⟨T_C1, F_C1, [(110, none)], fm8⟩), (0, ⟨T_E0, F_E0, [], fm1⟩)] [] := ⟨[([((.bin .lt (.var 110) (.var 0)), true), ((.bin .lt (.var 110) (.var 143)), false)], [(.fact (.sem 0 sem0 [(.tv 120), (.tv 133)] [(.var 110), (.lit (.ofNat 0)), (.var 143)])), (.fact (.sem 1 sem1 [(.tv 121)] [(.var 110)]))])], by kernel_rfl, by
  intro ρ hk ob hob hp rr hr
  have hF : ∀ g ∈ F_K3, Fact.holds ρ g := fun g hg => hk g (List.mem_append_left _ hg)
  have h0 : waits (((.tv 120) : E).tden ρ) [((((.tv 133) : E).tden ρ), (0 : Int), (((.var 143) : E).den ρ))] (((.var 110) : E).den ρ) := hF (.sem 0 sem0 [(.tv 120), (.tv 133)] [(.var 110), z, (.var 143)]) (by simp [F_K3])
  have h1 : rows (((.tv 121) : E).tden ρ) (((.var 110) : E).den ρ) := hF (.sem 1 sem1 [(.tv 121)] [(.var 110)]) (by simp [F_K3])
  have b110_100 : 0 ≤ ρ.v 110 ∧ ρ.v 110 ≤ 100 := rng_iff.1 (hF (r 110 0 100) (by simp [F_K3]))
  have b143_100 : 1 ≤ ρ.v 143 ∧ ρ.v 143 ≤ 100 := rng_iff.1 (hF (r 143 1 100) (by simp [F_K3]))
  have b110_99 : 0 ≤ ρ.v 110 ∧ ρ.v 110 ≤ 99 := rng_iff.1 (hF (r 110 0 99) (by simp [F_K3]))
  have b112_3 : 3 ≤ ρ.v 112 ∧ ρ.v 112 ≤ 3 := rng_iff.1 (hF (r 112 3 3) (by simp [F_K3]))
  simp only [List.mem_cons, List.not_mem_nil, or_false] at hob
  rcases hob with rfl
  · simp only [List.mem_cons, List.not_mem_nil, or_false] at hr
    rcases hr with rfl | rfl
    · exact h0
    · exact h1
⟩
end Go.Proofs.Ytdicippbniglpaa.mshrWaits
