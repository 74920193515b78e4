/-
  'MshrWaits': runs of its parts, checked by the kernel. Printed by program.
-/
import Derived.Test.YtdicippbniglpaaMshrWaitsL
namespace Go.Proofs.Ytdicippbniglpaa.mshrWaits
open Go.ChangeShapes Go.WideShapes Go.ChangeAt Go.RowKit Go.Sx
set_option linter.unusedVariables false
set_option linter.unusedSimpArgs false
set_option maxRecDepth 100000
set_option maxHeartbeats 1600000
theorem good_l1_78_0 : GoodP rnL (cd8.take 2) (F_M04 ++ lem_l1_78) T_M04.toS (some ⟨T_M04, F_M04, [(112, none)], []⟩) [(6, ⟨T_Q, F_Q, [], []⟩)] [] := ⟨[([((.bin .lt (.var 110) (.var 143)), false), ((.bin .lt (.var 110) (.var 142)), false), ((.bin .lt (.var 110) (.var 141)), false), ((.bin .lt (.var 110) (.var 140)), false)], [(.fact (.sem 0 sem0 [(.tv 120), (.tv 130), (.tv 131), (.tv 132), (.tv 133)] [(.var 110), (.lit (.ofNat 0)), (.var 140), (.lit (.ofNat 0)), (.var 141), (.lit (.ofNat 0)), (.var 142), (.lit (.ofNat 0)), (.var 143)])), (.fact (.sem 1 sem1 [(.tv 121)] [(.var 110)]))])], by kernel_rfl, by
  intro ρ hk ob hob hp rr hr
  have hF : ∀ g ∈ F_M04, Fact.holds ρ g := fun g hg => hk g (List.mem_append_left _ hg)
  have h0 : waits (((.tv 120) : E).tden ρ) [((((.tv 130) : E).tden ρ), (0 : Int), (((.var 140) : E).den ρ)), ((((.tv 131) : E).tden ρ), (0 : Int), (((.var 141) : E).den ρ)), ((((.tv 132) : E).tden ρ), (0 : Int), (((.var 142) : E).den ρ)), ((((.tv 133) : E).tden ρ), (0 : Int), (((.var 143) : E).den ρ))] (((.var 110) : E).den ρ) := hF (.sem 0 sem0 [(.tv 120), (.tv 130), (.tv 131), (.tv 132), (.tv 133)] [(.var 110), z, (.var 140), z, (.var 141), z, (.var 142), z, (.var 143)]) (by simp [F_M04])
  have h1 : rows (((.tv 121) : E).tden ρ) (((.var 110) : E).den ρ) := hF (.sem 1 sem1 [(.tv 121)] [(.var 110)]) (by simp [F_M04])
  have b110_100 : 0 ≤ ρ.v 110 ∧ ρ.v 110 ≤ 100 := rng_iff.1 (hF (r 110 0 100) (by simp [F_M04]))
  have b140_100 : 1 ≤ ρ.v 140 ∧ ρ.v 140 ≤ 100 := rng_iff.1 (hF (r 140 1 100) (by simp [F_M04]))
  have b141_100 : 1 ≤ ρ.v 141 ∧ ρ.v 141 ≤ 100 := rng_iff.1 (hF (r 141 1 100) (by simp [F_M04]))
  have b142_100 : 1 ≤ ρ.v 142 ∧ ρ.v 142 ≤ 100 := rng_iff.1 (hF (r 142 1 100) (by simp [F_M04]))
  have b143_100 : 1 ≤ ρ.v 143 ∧ ρ.v 143 ≤ 100 := rng_iff.1 (hF (r 143 1 100) (by simp [F_M04]))
  have b112_0 : 0 ≤ ρ.v 112 ∧ ρ.v 112 ≤ 0 := rng_iff.1 (hF (r 112 0 0) (by simp [F_M04]))
  simp only [List.mem_cons, List.not_mem_nil, or_false] at hob
  rcases hob with rfl
  · simp only [List.mem_cons, List.not_mem_nil, or_false] at hr
    rcases hr with rfl | rfl
    · exact h0
    · exact h1
⟩
theorem good_l1_79_0 : GoodP rnL (cd9.take 2) (F_M04 ++ lem_l1_79) T_M04.toS (some ⟨T_I04, F_I04, [(112, none)], []⟩) [(7, ⟨T_N04, F_N04, [(112, none)], []⟩), (6, ⟨T_Q, F_Q, [], []⟩)] [] := ⟨[([((.bin .lt (.var 110) (.var 143)), false), ((.bin .lt (.var 110) (.var 142)), false), ((.bin .lt (.var 110) (.var 141)), false), ((.bin .lt (.var 110) (.var 140)), false)], [(.fact (.sem 0 sem0 [(.tv 120), (.tv 130), (.tv 131), (.tv 132), (.tv 133)] [(.var 110), (.lit (.ofNat 0)), (.var 140), (.lit (.ofNat 0)), (.var 141), (.lit (.ofNat 0)), (.var 142), (.lit (.ofNat 0)), (.var 143)])), (.fact (.sem 1 sem1 [(.tv 121)] [(.var 110)]))])], by kernel_rfl, by
  intro ρ hk ob hob hp rr hr
  have hF : ∀ g ∈ F_M04, Fact.holds ρ g := fun g hg => hk g (List.mem_append_left _ hg)
  have h0 : waits (((.tv 120) : E).tden ρ) [((((.tv 130) : E).tden ρ), (0 : Int), (((.var 140) : E).den ρ)), ((((.tv 131) : E).tden ρ), (0 : Int), (((.var 141) : E).den ρ)), ((((.tv 132) : E).tden ρ), (0 : Int), (((.var 142) : E).den ρ)), ((((.tv 133) : E).tden ρ), (0 : Int), (((.var 143) : E).den ρ))] (((.var 110) : E).den ρ) := hF (.sem 0 sem0 [(.tv 120), (.tv 130), (.tv 131), (.tv 132), (.tv 133)] [(.var 110), z, (.var 140), z, (.var 141), z, (.var 142), z, (.var 143)]) (by simp [F_M04])
  have h1 : rows (((.tv 121) : E).tden ρ) (((.var 110) : E).den ρ) := hF (.sem 1 sem1 [(.tv 121)] [(.var 110)]) (by simp [F_M04])
  have b110_100 : 0 ≤ ρ.v 110 ∧ ρ.v 110 ≤ 100 := rng_iff.1 (hF (r 110 0 100) (by simp [F_M04]))
  have b140_100 : 1 ≤ ρ.v 140 ∧ ρ.v 140 ≤ 100 := rng_iff.1 (hF (r 140 1 100) (by simp [F_M04]))
  have b141_100 : 1 ≤ ρ.v 141 ∧ ρ.v 141 ≤ 100 := rng_iff.1 (hF (r 141 1 100) (by simp [F_M04]))
  have b142_100 : 1 ≤ ρ.v 142 ∧ ρ.v 142 ≤ 100 := rng_iff.1 (hF (r 142 1 100) (by simp [F_M04]))
  have b143_100 : 1 ≤ ρ.v 143 ∧ ρ.v 143 ≤ 100 := rng_iff.1 (hF (r 143 1 100) (by simp [F_M04]))
  have b112_0 : 0 ≤ ρ.v 112 ∧ ρ.v 112 ≤ 0 := rng_iff.1 (hF (r 112 0 0) (by simp [F_M04]))
  simp only [List.mem_cons, List.not_mem_nil, or_false] at hob
  rcases hob with rfl
  · simp only [List.mem_cons, List.not_mem_nil, or_false] at hr
    rcases hr with rfl | rfl
    · exact h0
    · exact h1
⟩
theorem good_l1_80_0 : GoodP rnL cd10 (F_I04 ++ lem_l1_80) T_I04.toS (some ⟨T_I04, F_I04, [(111, some 101), (112, none)], []⟩) [(8, ⟨T_N04, F_N04, [(112, none)], []⟩), (7, ⟨T_N04, F_N04, [(112, none)], []⟩), (6, ⟨T_Q, F_Q, [], []⟩)] [] := ⟨[([((.bin .lt (.un (.wrap .i64) (.get (.tv 130) (.var 111) 0)) (.lit (.ofNat 0))), true), ((.bin .lt (.var 111) (.var 140)), true), ((.bin .lt (.var 140) (.var 111)), false), ((.bin .lt (.var 110) (.var 143)), false), ((.bin .lt (.var 110) (.var 142)), false), ((.bin .lt (.var 110) (.var 141)), false), ((.bin .lt (.var 110) (.var 140)), false)], [(.done (.lit (.ofNat 0)))]),
  ([((.bin .lt (.un (.wrap .i64) (.get (.tv 130) (.var 111) 0)) (.lit (.ofNat 100))), false), ((.bin .lt (.un (.wrap .i64) (.get (.tv 130) (.var 111) 0)) (.lit (.ofNat 0))), false), ((.bin .lt (.var 111) (.var 140)), true), ((.bin .lt (.var 140) (.var 111)), false), ((.bin .lt (.var 110) (.var 143)), false), ((.bin .lt (.var 110) (.var 142)), false), ((.bin .lt (.var 110) (.var 141)), false), ((.bin .lt (.var 110) (.var 140)), false)], [(.done (.lit (.ofNat 0)))]),
  ([((.bin .lt (.un (.wrap .i64) (.get (.tv 130) (.var 111) 0)) (.lit (.ofNat 100))), true), ((.bin .lt (.un (.wrap .i64) (.get (.tv 130) (.var 111) 0)) (.lit (.ofNat 0))), false), ((.bin .lt (.var 111) (.var 140)), true), ((.bin .lt (.var 140) (.var 111)), false), ((.bin .lt (.var 110) (.var 143)), false), ((.bin .lt (.var 110) (.var 142)), false), ((.bin .lt (.var 110) (.var 141)), false), ((.bin .lt (.var 110) (.var 140)), false)], [(.fact (.sem 0 sem0 [(.upd (.tv 120) (.un (.wrap .i64) (.get (.tv 130) (.var 111) 0)) 0 (.bin (.add .i64) (.un (.wrap .i64) (.get (.tv 120) (.un (.wrap .i64) (.get (.tv 130) (.var 111) 0)) 0)) (.lit (.ofNat 1)))), (.tv 130), (.tv 131), (.tv 132), (.tv 133)] [(.var 110), (.bin (.add .i64) (.var 111) (.lit (.ofNat 1))), (.var 140), (.lit (.ofNat 0)), (.var 141), (.lit (.ofNat 0)), (.var 142), (.lit (.ofNat 0)), (.var 143)])), (.fact (.sem 1 sem1 [(.tv 121)] [(.var 110)]))]),
  ([((.bin .lt (.var 111) (.var 140)), false), ((.bin .lt (.var 140) (.var 111)), false), ((.bin .lt (.var 110) (.var 143)), false), ((.bin .lt (.var 110) (.var 142)), false), ((.bin .lt (.var 110) (.var 141)), false), ((.bin .lt (.var 110) (.var 140)), false)], [(.fact (.sem 0 sem0 [(.tv 120), (.tv 131), (.tv 132), (.tv 133)] [(.var 110), (.lit (.ofNat 0)), (.var 141), (.lit (.ofNat 0)), (.var 142), (.lit (.ofNat 0)), (.var 143)])), (.fact (.sem 1 sem1 [(.tv 121)] [(.var 110)]))])], by kernel_rfl, by
  intro ρ hk ob hob hp rr hr
  have hF : ∀ g ∈ F_I04, Fact.holds ρ g := fun g hg => hk g (List.mem_append_left _ hg)
  have h0 : waits (((.tv 120) : E).tden ρ) [((((.tv 130) : E).tden ρ), (((.var 111) : E).den ρ), (((.var 140) : E).den ρ)), ((((.tv 131) : E).tden ρ), (0 : Int), (((.var 141) : E).den ρ)), ((((.tv 132) : E).tden ρ), (0 : Int), (((.var 142) : E).den ρ)), ((((.tv 133) : E).tden ρ), (0 : Int), (((.var 143) : E).den ρ))] (((.var 110) : E).den ρ) := hF (.sem 0 sem0 [(.tv 120), (.tv 130), (.tv 131), (.tv 132), (.tv 133)] [(.var 110), (.var 111), (.var 140), z, (.var 141), z, (.var 142), z, (.var 143)]) (by simp [F_I04])
  have h1 : rows (((.tv 121) : E).tden ρ) (((.var 110) : E).den ρ) := hF (.sem 1 sem1 [(.tv 121)] [(.var 110)]) (by simp [F_I04])
  have b110_100 : 0 ≤ ρ.v 110 ∧ ρ.v 110 ≤ 100 := rng_iff.1 (hF (r 110 0 100) (by simp [F_I04]))
  have b140_100 : 1 ≤ ρ.v 140 ∧ ρ.v 140 ≤ 100 := rng_iff.1 (hF (r 140 1 100) (by simp [F_I04]))
  have b141_100 : 1 ≤ ρ.v 141 ∧ ρ.v 141 ≤ 100 := rng_iff.1 (hF (r 141 1 100) (by simp [F_I04]))
  have b142_100 : 1 ≤ ρ.v 142 ∧ ρ.v 142 ≤ 100 := rng_iff.1 (hF (r 142 1 100) (by simp [F_I04]))
  have b143_100 : 1 ≤ ρ.v 143 ∧ ρ.v 143 ≤ 100 := rng_iff.1 (hF (r 143 1 100) (by simp [F_I04]))
  have b112_0 : 0 ≤ ρ.v 112 ∧ ρ.v 112 ≤ 0 := rng_iff.1 (hF (r 112 0 0) (by simp [F_I04]))
  have b111_100 : 0 ≤ ρ.v 111 ∧ ρ.v 111 ≤ 100 := rng_iff.1 (hF (r 111 0 100) (by simp [F_I04]))
  simp only [List.mem_cons, List.not_mem_nil, or_false] at hob
  rcases hob with rfl | rfl | rfl | rfl
  · simp only [List.mem_cons, List.not_mem_nil, or_false] at hr
    have t0 := lt_iff.1 (hp ((.bin .lt (.un (.wrap .i64) (.get (.tv 130) (.var 111) 0)) (.lit (.ofNat 0))), true) (by simp))
    simp only [E.den, UO.den, iff_true, Int.ofNat_eq_natCast] at t0
    have t1 := lt_iff.1 (hp ((.bin .lt (.var 111) (.var 140)), true) (by simp))
    simp only [E.den, UO.den, iff_true, Int.ofNat_eq_natCast] at t1
    have t2 := lt_iff.1 (hp ((.bin .lt (.var 140) (.var 111)), false) (by simp))
    simp only [E.den, UO.den, Bool.false_eq_true, iff_false, Int.ofNat_eq_natCast] at t2
    rcases hr with rfl
    · exfalso
      have h3 := h0.2.2 _ (List.mem_cons_self ..) (ρ.v 111) (Int.le_refl _) (by simp only [E.den]; omega)
      simp only [rd, E.den, E.tden] at h3
      simp only [E.tden] at t0
      omega
  · simp only [List.mem_cons, List.not_mem_nil, or_false] at hr
    have t0 := lt_iff.1 (hp ((.bin .lt (.un (.wrap .i64) (.get (.tv 130) (.var 111) 0)) (.lit (.ofNat 100))), false) (by simp))
    simp only [E.den, UO.den, Bool.false_eq_true, iff_false, Int.ofNat_eq_natCast] at t0
    have t1 := lt_iff.1 (hp ((.bin .lt (.un (.wrap .i64) (.get (.tv 130) (.var 111) 0)) (.lit (.ofNat 0))), false) (by simp))
    simp only [E.den, UO.den, Bool.false_eq_true, iff_false, Int.ofNat_eq_natCast] at t1
    have t2 := lt_iff.1 (hp ((.bin .lt (.var 111) (.var 140)), true) (by simp))
    simp only [E.den, UO.den, iff_true, Int.ofNat_eq_natCast] at t2
    have t3 := lt_iff.1 (hp ((.bin .lt (.var 140) (.var 111)), false) (by simp))
    simp only [E.den, UO.den, Bool.false_eq_true, iff_false, Int.ofNat_eq_natCast] at t3
    rcases hr with rfl
    · exfalso
      have h3 := h0.2.2 _ (List.mem_cons_self ..) (ρ.v 111) (Int.le_refl _) (by simp only [E.den]; omega)
      simp only [rd, E.den, E.tden] at h3
      simp only [E.tden] at t0
      omega
  · simp only [List.mem_cons, List.not_mem_nil, or_false] at hr
    have t0 := lt_iff.1 (hp ((.bin .lt (.un (.wrap .i64) (.get (.tv 130) (.var 111) 0)) (.lit (.ofNat 100))), true) (by simp))
    simp only [E.den, UO.den, iff_true, Int.ofNat_eq_natCast] at t0
    have t1 := lt_iff.1 (hp ((.bin .lt (.un (.wrap .i64) (.get (.tv 130) (.var 111) 0)) (.lit (.ofNat 0))), false) (by simp))
    simp only [E.den, UO.den, Bool.false_eq_true, iff_false, Int.ofNat_eq_natCast] at t1
    have t2 := lt_iff.1 (hp ((.bin .lt (.var 111) (.var 140)), true) (by simp))
    simp only [E.den, UO.den, iff_true, Int.ofNat_eq_natCast] at t2
    have t3 := lt_iff.1 (hp ((.bin .lt (.var 140) (.var 111)), false) (by simp))
    simp only [E.den, UO.den, Bool.false_eq_true, iff_false, Int.ofNat_eq_natCast] at t3
    rcases hr with rfl | rfl
    · show waits (((.upd (.tv 120) (.un (.wrap .i64) (.get (.tv 130) (.var 111) 0)) 0 (.bin (.add .i64) (.un (.wrap .i64) (.get (.tv 120) (.un (.wrap .i64) (.get (.tv 130) (.var 111) 0)) 0)) (.lit (.ofNat 1)))) : E).tden ρ) [((((.tv 130) : E).tden ρ), (((.bin (.add .i64) (.var 111) (.lit (.ofNat 1))) : E).den ρ), (((.var 140) : E).den ρ)), ((((.tv 131) : E).tden ρ), (0 : Int), (((.var 141) : E).den ρ)), ((((.tv 132) : E).tden ρ), (0 : Int), (((.var 142) : E).den ρ)), ((((.tv 133) : E).tden ρ), (0 : Int), (((.var 143) : E).den ρ))] (((.var 110) : E).den ρ)
      exact waits_step h0 (by simp only [E.den]; omega) (by simp only [E.den, BO.den]; exact add_i64 (by omega) (by omega)) (by simp only [E.den]; omega) (fun r => by simp only [E.tden, E.den, BO.den, UO.den, rd, and_true]; rfl)
    · exact h1
  · simp only [List.mem_cons, List.not_mem_nil, or_false] at hr
    have t0 := lt_iff.1 (hp ((.bin .lt (.var 111) (.var 140)), false) (by simp))
    simp only [E.den, UO.den, Bool.false_eq_true, iff_false, Int.ofNat_eq_natCast] at t0
    have t1 := lt_iff.1 (hp ((.bin .lt (.var 140) (.var 111)), false) (by simp))
    simp only [E.den, UO.den, Bool.false_eq_true, iff_false, Int.ofNat_eq_natCast] at t1
    rcases hr with rfl | rfl
    · exact waits_drop h0 (by simp only [E.den]; omega)
    · exact h1
⟩
theorem good_l1_81_0 : GoodP rnL (cd8.drop 3) (F_N04 ++ lem_l1_81) T_N04.toS (some ⟨T_M00, F_M00, [(112, some 5)], fm13⟩) [(6, ⟨T_Q, F_Q, [], []⟩)] [] := ⟨[([((.bin .lt (.var 110) (.var 143)), false), ((.bin .lt (.var 110) (.var 142)), false), ((.bin .lt (.var 110) (.var 141)), false)], [(.fact (.sem 0 sem0 [(.tv 120), (.tv 131), (.tv 132), (.tv 133)] [(.var 110), (.lit (.ofNat 0)), (.var 141), (.lit (.ofNat 0)), (.var 142), (.lit (.ofNat 0)), (.var 143)])), (.fact (.sem 1 sem1 [(.tv 121)] [(.var 110)]))])], by kernel_rfl, by
  intro ρ hk ob hob hp rr hr
  have hF : ∀ g ∈ F_N04, Fact.holds ρ g := fun g hg => hk g (List.mem_append_left _ hg)
  have h0 : waits (((.tv 120) : E).tden ρ) [((((.tv 131) : E).tden ρ), (0 : Int), (((.var 141) : E).den ρ)), ((((.tv 132) : E).tden ρ), (0 : Int), (((.var 142) : E).den ρ)), ((((.tv 133) : E).tden ρ), (0 : Int), (((.var 143) : E).den ρ))] (((.var 110) : E).den ρ) := hF (.sem 0 sem0 [(.tv 120), (.tv 131), (.tv 132), (.tv 133)] [(.var 110), z, (.var 141), z, (.var 142), z, (.var 143)]) (by simp [F_N04])
  have h1 : rows (((.tv 121) : E).tden ρ) (((.var 110) : E).den ρ) := hF (.sem 1 sem1 [(.tv 121)] [(.var 110)]) (by simp [F_N04])
  have b110_100 : 0 ≤ ρ.v 110 ∧ ρ.v 110 ≤ 100 := rng_iff.1 (hF (r 110 0 100) (by simp [F_N04]))
  have b141_100 : 1 ≤ ρ.v 141 ∧ ρ.v 141 ≤ 100 := rng_iff.1 (hF (r 141 1 100) (by simp [F_N04]))
  have b142_100 : 1 ≤ ρ.v 142 ∧ ρ.v 142 ≤ 100 := rng_iff.1 (hF (r 142 1 100) (by simp [F_N04]))
  have b143_100 : 1 ≤ ρ.v 143 ∧ ρ.v 143 ≤ 100 := rng_iff.1 (hF (r 143 1 100) (by simp [F_N04]))
  have b112_0 : 0 ≤ ρ.v 112 ∧ ρ.v 112 ≤ 0 := rng_iff.1 (hF (r 112 0 0) (by simp [F_N04]))
  simp only [List.mem_cons, List.not_mem_nil, or_false] at hob
  rcases hob with rfl
  · simp only [List.mem_cons, List.not_mem_nil, or_false] at hr
    rcases hr with rfl | rfl
    · exact h0
    · exact h1
⟩
theorem good_l1_82_0 : GoodP rnL (cd8.take 2) (F_M10 ++ lem_l1_82) T_M10.toS (some ⟨T_M10, F_M10, [(112, none)], []⟩) [(6, ⟨T_Q, F_Q, [], []⟩)] [] := ⟨[([], [(.fact (.sem 0 sem0 [(.tv 120)] [(.var 110)])), (.fact (.sem 1 sem1 [(.tv 121)] [(.var 110)]))])], by kernel_rfl, by
  intro ρ hk ob hob hp rr hr
  have hF : ∀ g ∈ F_M10, Fact.holds ρ g := fun g hg => hk g (List.mem_append_left _ hg)
  have h0 : waits (((.tv 120) : E).tden ρ) [] (((.var 110) : E).den ρ) := hF (.sem 0 sem0 [(.tv 120)] [(.var 110)]) (by simp [F_M10])
  have h1 : rows (((.tv 121) : E).tden ρ) (((.var 110) : E).den ρ) := hF (.sem 1 sem1 [(.tv 121)] [(.var 110)]) (by simp [F_M10])
  have b110_100 : 0 ≤ ρ.v 110 ∧ ρ.v 110 ≤ 100 := rng_iff.1 (hF (r 110 0 100) (by simp [F_M10]))
  have b112_1 : 1 ≤ ρ.v 112 ∧ ρ.v 112 ≤ 1 := rng_iff.1 (hF (r 112 1 1) (by simp [F_M10]))
  simp only [List.mem_cons, List.not_mem_nil, or_false] at hob
  rcases hob with rfl
  · simp only [List.mem_cons, List.not_mem_nil, or_false] at hr
    rcases hr with rfl | rfl
    · exact h0
    · exact h1
⟩
theorem good_l1_83_0 : GoodP rnL cd9 (F_M10 ++ lem_l1_83) T_M10.toS (some ⟨T_N10, F_N10, [(112, none)], []⟩) [(7, ⟨T_N10, F_N10, [(112, none)], []⟩), (6, ⟨T_Q, F_Q, [], []⟩)] [] := ⟨[([], [(.fact (.sem 0 sem0 [(.tv 120)] [(.var 110)])), (.fact (.sem 1 sem1 [(.tv 121)] [(.var 110)]))])], by kernel_rfl, by
  intro ρ hk ob hob hp rr hr
  have hF : ∀ g ∈ F_M10, Fact.holds ρ g := fun g hg => hk g (List.mem_append_left _ hg)
  have h0 : waits (((.tv 120) : E).tden ρ) [] (((.var 110) : E).den ρ) := hF (.sem 0 sem0 [(.tv 120)] [(.var 110)]) (by simp [F_M10])
  have h1 : rows (((.tv 121) : E).tden ρ) (((.var 110) : E).den ρ) := hF (.sem 1 sem1 [(.tv 121)] [(.var 110)]) (by simp [F_M10])
  have b110_100 : 0 ≤ ρ.v 110 ∧ ρ.v 110 ≤ 100 := rng_iff.1 (hF (r 110 0 100) (by simp [F_M10]))
  have b112_1 : 1 ≤ ρ.v 112 ∧ ρ.v 112 ≤ 1 := rng_iff.1 (hF (r 112 1 1) (by simp [F_M10]))
  simp only [List.mem_cons, List.not_mem_nil, or_false] at hob
  rcases hob with rfl
  · simp only [List.mem_cons, List.not_mem_nil, or_false] at hr
    rcases hr with rfl | rfl
    · exact h0
    · exact h1
⟩
theorem good_l1_84_0 : GoodP rnL (cd8.drop 3) (F_N10 ++ lem_l1_84) T_N10.toS (some ⟨T_M00, F_M00, [(112, some 5)], fm13⟩) [(6, ⟨T_Q, F_Q, [], []⟩)] [] := ⟨[([], [(.fact (.sem 0 sem0 [(.tv 120)] [(.var 110)])), (.fact (.sem 1 sem1 [(.tv 121)] [(.var 110)]))])], by kernel_rfl, by
  intro ρ hk ob hob hp rr hr
  have hF : ∀ g ∈ F_N10, Fact.holds ρ g := fun g hg => hk g (List.mem_append_left _ hg)
  have h0 : waits (((.tv 120) : E).tden ρ) [] (((.var 110) : E).den ρ) := hF (.sem 0 sem0 [(.tv 120)] [(.var 110)]) (by simp [F_N10])
  have h1 : rows (((.tv 121) : E).tden ρ) (((.var 110) : E).den ρ) := hF (.sem 1 sem1 [(.tv 121)] [(.var 110)]) (by simp [F_N10])
  have b110_100 : 0 ≤ ρ.v 110 ∧ ρ.v 110 ≤ 100 := rng_iff.1 (hF (r 110 0 100) (by simp [F_N10]))
  have b112_1 : 1 ≤ ρ.v 112 ∧ ρ.v 112 ≤ 1 := rng_iff.1 (hF (r 112 1 1) (by simp [F_N10]))
  simp only [List.mem_cons, List.not_mem_nil, or_false] at hob
  rcases hob with rfl
  · simp only [List.mem_cons, List.not_mem_nil, or_false] at hr
    rcases hr with rfl | rfl
    · exact h0
    · exact h1
⟩
theorem good_l1_85_0 : GoodP rnL (cd8.take 2) (F_M11 ++ lem_l1_85) T_M11.toS (some ⟨T_M11, F_M11, [(112, none)], []⟩) [(6, ⟨T_Q, F_Q, [], []⟩)] [] := ⟨[([((.bin .lt (.var 110) (.var 141)), false)], [(.fact (.sem 0 sem0 [(.tv 120), (.tv 131)] [(.var 110), (.lit (.ofNat 0)), (.var 141)])), (.fact (.sem 1 sem1 [(.tv 121)] [(.var 110)]))])], by kernel_rfl, by
  intro ρ hk ob hob hp rr hr
  have hF : ∀ g ∈ F_M11, Fact.holds ρ g := fun g hg => hk g (List.mem_append_left _ hg)
  have h0 : waits (((.tv 120) : E).tden ρ) [((((.tv 131) : E).tden ρ), (0 : Int), (((.var 141) : E).den ρ))] (((.var 110) : E).den ρ) := hF (.sem 0 sem0 [(.tv 120), (.tv 131)] [(.var 110), z, (.var 141)]) (by simp [F_M11])
  have h1 : rows (((.tv 121) : E).tden ρ) (((.var 110) : E).den ρ) := hF (.sem 1 sem1 [(.tv 121)] [(.var 110)]) (by simp [F_M11])
  have b110_100 : 0 ≤ ρ.v 110 ∧ ρ.v 110 ≤ 100 := rng_iff.1 (hF (r 110 0 100) (by simp [F_M11]))
  have b141_100 : 1 ≤ ρ.v 141 ∧ ρ.v 141 ≤ 100 := rng_iff.1 (hF (r 141 1 100) (by simp [F_M11]))
  have b112_1 : 1 ≤ ρ.v 112 ∧ ρ.v 112 ≤ 1 := rng_iff.1 (hF (r 112 1 1) (by simp [F_M11]))
  simp only [List.mem_cons, List.not_mem_nil, or_false] at hob
  rcases hob with rfl
  · simp only [List.mem_cons, List.not_mem_nil, or_false] at hr
    rcases hr with rfl | rfl
    · exact h0
    · exact h1
⟩
theorem good_l1_86_0 : GoodP rnL (cd9.take 2) (F_M11 ++ lem_l1_86) T_M11.toS (some ⟨T_I11, F_I11, [(112, none)], []⟩) [(7, ⟨T_N11, F_N11, [(112, none)], []⟩), (6, ⟨T_Q, F_Q, [], []⟩)] [] := ⟨[([((.bin .lt (.var 110) (.var 141)), false)], [(.fact (.sem 0 sem0 [(.tv 120), (.tv 131)] [(.var 110), (.lit (.ofNat 0)), (.var 141)])), (.fact (.sem 1 sem1 [(.tv 121)] [(.var 110)]))])], by kernel_rfl, by
  intro ρ hk ob hob hp rr hr
  have hF : ∀ g ∈ F_M11, Fact.holds ρ g := fun g hg => hk g (List.mem_append_left _ hg)
  have h0 : waits (((.tv 120) : E).tden ρ) [((((.tv 131) : E).tden ρ), (0 : Int), (((.var 141) : E).den ρ))] (((.var 110) : E).den ρ) := hF (.sem 0 sem0 [(.tv 120), (.tv 131)] [(.var 110), z, (.var 141)]) (by simp [F_M11])
  have h1 : rows (((.tv 121) : E).tden ρ) (((.var 110) : E).den ρ) := hF (.sem 1 sem1 [(.tv 121)] [(.var 110)]) (by simp [F_M11])
  have b110_100 : 0 ≤ ρ.v 110 ∧ ρ.v 110 ≤ 100 := rng_iff.1 (hF (r 110 0 100) (by simp [F_M11]))
  have b141_100 : 1 ≤ ρ.v 141 ∧ ρ.v 141 ≤ 100 := rng_iff.1 (hF (r 141 1 100) (by simp [F_M11]))
  have b112_1 : 1 ≤ ρ.v 112 ∧ ρ.v 112 ≤ 1 := rng_iff.1 (hF (r 112 1 1) (by simp [F_M11]))
  simp only [List.mem_cons, List.not_mem_nil, or_false] at hob
  rcases hob with rfl
  · simp only [List.mem_cons, List.not_mem_nil, or_false] at hr
    rcases hr with rfl | rfl
    · exact h0
    · exact h1
⟩
theorem good_l1_87_0 : GoodP rnL cd10 (F_I11 ++ lem_l1_87) T_I11.toS (some ⟨T_I11, F_I11, [(111, some 101), (112, none)], []⟩) [(8, ⟨T_N11, F_N11, [(112, none)], []⟩), (7, ⟨T_N11, F_N11, [(112, none)], []⟩), (6, ⟨T_Q, F_Q, [], []⟩)] [] := ⟨[([((.bin .lt (.un (.wrap .i64) (.get (.tv 131) (.var 111) 0)) (.lit (.ofNat 0))), true), ((.bin .lt (.var 111) (.var 141)), true), ((.bin .lt (.var 141) (.var 111)), false), ((.bin .lt (.var 110) (.var 141)), false)], [(.done (.lit (.ofNat 0)))]),
  ([((.bin .lt (.un (.wrap .i64) (.get (.tv 131) (.var 111) 0)) (.lit (.ofNat 100))), false), ((.bin .lt (.un (.wrap .i64) (.get (.tv 131) (.var 111) 0)) (.lit (.ofNat 0))), false), ((.bin .lt (.var 111) (.var 141)), true), ((.bin .lt (.var 141) (.var 111)), false), ((.bin .lt (.var 110) (.var 141)), false)], [(.done (.lit (.ofNat 0)))]),
  ([((.bin .lt (.un (.wrap .i64) (.get (.tv 131) (.var 111) 0)) (.lit (.ofNat 100))), true), ((.bin .lt (.un (.wrap .i64) (.get (.tv 131) (.var 111) 0)) (.lit (.ofNat 0))), false), ((.bin .lt (.var 111) (.var 141)), true), ((.bin .lt (.var 141) (.var 111)), false), ((.bin .lt (.var 110) (.var 141)), false)], [(.fact (.sem 0 sem0 [(.upd (.tv 120) (.un (.wrap .i64) (.get (.tv 131) (.var 111) 0)) 0 (.bin (.add .i64) (.un (.wrap .i64) (.get (.tv 120) (.un (.wrap .i64) (.get (.tv 131) (.var 111) 0)) 0)) (.lit (.ofNat 1)))), (.tv 131)] [(.var 110), (.bin (.add .i64) (.var 111) (.lit (.ofNat 1))), (.var 141)])), (.fact (.sem 1 sem1 [(.tv 121)] [(.var 110)]))]),
  ([((.bin .lt (.var 111) (.var 141)), false), ((.bin .lt (.var 141) (.var 111)), false), ((.bin .lt (.var 110) (.var 141)), false)], [(.fact (.sem 0 sem0 [(.tv 120)] [(.var 110)])), (.fact (.sem 1 sem1 [(.tv 121)] [(.var 110)]))])], by kernel_rfl, by
  intro ρ hk ob hob hp rr hr
  have hF : ∀ g ∈ F_I11, Fact.holds ρ g := fun g hg => hk g (List.mem_append_left _ hg)
  have h0 : waits (((.tv 120) : E).tden ρ) [((((.tv 131) : E).tden ρ), (((.var 111) : E).den ρ), (((.var 141) : E).den ρ))] (((.var 110) : E).den ρ) := hF (.sem 0 sem0 [(.tv 120), (.tv 131)] [(.var 110), (.var 111), (.var 141)]) (by simp [F_I11])
  have h1 : rows (((.tv 121) : E).tden ρ) (((.var 110) : E).den ρ) := hF (.sem 1 sem1 [(.tv 121)] [(.var 110)]) (by simp [F_I11])
  have b110_100 : 0 ≤ ρ.v 110 ∧ ρ.v 110 ≤ 100 := rng_iff.1 (hF (r 110 0 100) (by simp [F_I11]))
  have b141_100 : 1 ≤ ρ.v 141 ∧ ρ.v 141 ≤ 100 := rng_iff.1 (hF (r 141 1 100) (by simp [F_I11]))
  have b112_1 : 1 ≤ ρ.v 112 ∧ ρ.v 112 ≤ 1 := rng_iff.1 (hF (r 112 1 1) (by simp [F_I11]))
  have b111_100 : 0 ≤ ρ.v 111 ∧ ρ.v 111 ≤ 100 := rng_iff.1 (hF (r 111 0 100) (by simp [F_I11]))
  simp only [List.mem_cons, List.not_mem_nil, or_false] at hob
  rcases hob with rfl | rfl | rfl | rfl
  · simp only [List.mem_cons, List.not_mem_nil, or_false] at hr
    have t0 := lt_iff.1 (hp ((.bin .lt (.un (.wrap .i64) (.get (.tv 131) (.var 111) 0)) (.lit (.ofNat 0))), true) (by simp))
    simp only [E.den, UO.den, iff_true, Int.ofNat_eq_natCast] at t0
    have t1 := lt_iff.1 (hp ((.bin .lt (.var 111) (.var 141)), true) (by simp))
    simp only [E.den, UO.den, iff_true, Int.ofNat_eq_natCast] at t1
    have t2 := lt_iff.1 (hp ((.bin .lt (.var 141) (.var 111)), false) (by simp))
    simp only [E.den, UO.den, Bool.false_eq_true, iff_false, Int.ofNat_eq_natCast] at t2
    rcases hr with rfl
    · exfalso
      have h3 := h0.2.2 _ (List.mem_cons_self ..) (ρ.v 111) (Int.le_refl _) (by simp only [E.den]; omega)
      simp only [rd, E.den, E.tden] at h3
      simp only [E.tden] at t0
      omega
  · simp only [List.mem_cons, List.not_mem_nil, or_false] at hr
    have t0 := lt_iff.1 (hp ((.bin .lt (.un (.wrap .i64) (.get (.tv 131) (.var 111) 0)) (.lit (.ofNat 100))), false) (by simp))
    simp only [E.den, UO.den, Bool.false_eq_true, iff_false, Int.ofNat_eq_natCast] at t0
    have t1 := lt_iff.1 (hp ((.bin .lt (.un (.wrap .i64) (.get (.tv 131) (.var 111) 0)) (.lit (.ofNat 0))), false) (by simp))
    simp only [E.den, UO.den, Bool.false_eq_true, iff_false, Int.ofNat_eq_natCast] at t1
    have t2 := lt_iff.1 (hp ((.bin .lt (.var 111) (.var 141)), true) (by simp))
    simp only [E.den, UO.den, iff_true, Int.ofNat_eq_natCast] at t2
    have t3 := lt_iff.1 (hp ((.bin .lt (.var 141) (.var 111)), false) (by simp))
    simp only [E.den, UO.den, Bool.false_eq_true, iff_false, Int.ofNat_eq_natCast] at t3
    rcases hr with rfl
    · exfalso
      have h3 := h0.2.2 _ (List.mem_cons_self ..) (ρ.v 111) (Int.le_refl _) (by simp only [E.den]; omega)
      simp only [rd, E.den, E.tden] at h3
      simp only [E.tden] at t0
      omega
  · simp only [List.mem_cons, List.not_mem_nil, or_false] at hr
    have t0 := lt_iff.1 (hp ((.bin .lt (.un (.wrap .i64) (.get (.tv 131) (.var 111) 0)) (.lit (.ofNat 100))), true) (by simp))
    simp only [E.den, UO.den, iff_true, Int.ofNat_eq_natCast] at t0
    have t1 := lt_iff.1 (hp ((.bin .lt (.un (.wrap .i64) (.get (.tv 131) (.var 111) 0)) (.lit (.ofNat 0))), false) (by simp))
    simp only [E.den, UO.den, Bool.false_eq_true, iff_false, Int.ofNat_eq_natCast] at t1
    have t2 := lt_iff.1 (hp ((.bin .lt (.var 111) (.var 141)), true) (by simp))
    simp only [E.den, UO.den, iff_true, Int.ofNat_eq_natCast] at t2
    have t3 := lt_iff.1 (hp ((.bin .lt (.var 141) (.var 111)), false) (by simp))
    simp only [E.den, UO.den, Bool.false_eq_true, iff_false, Int.ofNat_eq_natCast] at t3
    rcases hr with rfl | rfl
    · show waits (((.upd (.tv 120) (.un (.wrap .i64) (.get (.tv 131) (.var 111) 0)) 0 (.bin (.add .i64) (.un (.wrap .i64) (.get (.tv 120) (.un (.wrap .i64) (.get (.tv 131) (.var 111) 0)) 0)) (.lit (.ofNat 1)))) : E).tden ρ) [((((.tv 131) : E).tden ρ), (((.bin (.add .i64) (.var 111) (.lit (.ofNat 1))) : E).den ρ), (((.var 141) : E).den ρ))] (((.var 110) : E).den ρ)
      exact waits_step h0 (by simp only [E.den]; omega) (by simp only [E.den, BO.den]; exact add_i64 (by omega) (by omega)) (by simp only [E.den]; omega) (fun r => by simp only [E.tden, E.den, BO.den, UO.den, rd, and_true]; rfl)
    · exact h1
  · simp only [List.mem_cons, List.not_mem_nil, or_false] at hr
    have t0 := lt_iff.1 (hp ((.bin .lt (.var 111) (.var 141)), false) (by simp))
    simp only [E.den, UO.den, Bool.false_eq_true, iff_false, Int.ofNat_eq_natCast] at t0
    have t1 := lt_iff.1 (hp ((.bin .lt (.var 141) (.var 111)), false) (by simp))
    simp only [E.den, UO.den, Bool.false_eq_true, iff_false, Int.ofNat_eq_natCast] at t1
    rcases hr with rfl | rfl
    · exact waits_drop h0 (by simp only [E.den]; omega)
    · exact h1
⟩
theorem good_l1_88_0 : GoodP rnL (cd8.drop 3) (F_N11 ++ lem_l1_88) T_N11.toS (some ⟨T_M00, F_M00, [(112, some 5)], fm13⟩) [(6, ⟨T_Q, F_Q, [], []⟩)] [] := ⟨[([], [(.fact (.sem 0 sem0 [(.tv 120)] [(.var 110)])), (.fact (.sem 1 sem1 [(.tv 121)] [(.var 110)]))])], by kernel_rfl, by
  intro ρ hk ob hob hp rr hr
  have hF : ∀ g ∈ F_N11, Fact.holds ρ g := fun g hg => hk g (List.mem_append_left _ hg)
  have h0 : waits (((.tv 120) : E).tden ρ) [] (((.var 110) : E).den ρ) := hF (.sem 0 sem0 [(.tv 120)] [(.var 110)]) (by simp [F_N11])
  have h1 : rows (((.tv 121) : E).tden ρ) (((.var 110) : E).den ρ) := hF (.sem 1 sem1 [(.tv 121)] [(.var 110)]) (by simp [F_N11])
  have b110_100 : 0 ≤ ρ.v 110 ∧ ρ.v 110 ≤ 100 := rng_iff.1 (hF (r 110 0 100) (by simp [F_N11]))
  have b112_1 : 1 ≤ ρ.v 112 ∧ ρ.v 112 ≤ 1 := rng_iff.1 (hF (r 112 1 1) (by simp [F_N11]))
  simp only [List.mem_cons, List.not_mem_nil, or_false] at hob
  rcases hob with rfl
  · simp only [List.mem_cons, List.not_mem_nil, or_false] at hr
    rcases hr with rfl | rfl
    · exact h0
    · exact h1
⟩
theorem good_l1_89_0 : GoodP rnL (cd8.take 2) (F_M12 ++ lem_l1_89) T_M12.toS (some ⟨T_M12, F_M12, [(112, none)], []⟩) [(6, ⟨T_Q, F_Q, [], []⟩)] [] := ⟨[([((.bin .lt (.var 110) (.var 142)), false), ((.bin .lt (.var 110) (.var 141)), false)], [(.fact (.sem 0 sem0 [(.tv 120), (.tv 131), (.tv 132)] [(.var 110), (.lit (.ofNat 0)), (.var 141), (.lit (.ofNat 0)), (.var 142)])), (.fact (.sem 1 sem1 [(.tv 121)] [(.var 110)]))])], by kernel_rfl, by
  intro ρ hk ob hob hp rr hr
  have hF : ∀ g ∈ F_M12, Fact.holds ρ g := fun g hg => hk g (List.mem_append_left _ hg)
  have h0 : waits (((.tv 120) : E).tden ρ) [((((.tv 131) : E).tden ρ), (0 : Int), (((.var 141) : E).den ρ)), ((((.tv 132) : E).tden ρ), (0 : Int), (((.var 142) : E).den ρ))] (((.var 110) : E).den ρ) := hF (.sem 0 sem0 [(.tv 120), (.tv 131), (.tv 132)] [(.var 110), z, (.var 141), z, (.var 142)]) (by simp [F_M12])
  have h1 : rows (((.tv 121) : E).tden ρ) (((.var 110) : E).den ρ) := hF (.sem 1 sem1 [(.tv 121)] [(.var 110)]) (by simp [F_M12])
  have b110_100 : 0 ≤ ρ.v 110 ∧ ρ.v 110 ≤ 100 := rng_iff.1 (hF (r 110 0 100) (by simp [F_M12]))
  have b141_100 : 1 ≤ ρ.v 141 ∧ ρ.v 141 ≤ 100 := rng_iff.1 (hF (r 141 1 100) (by simp [F_M12]))
  have b142_100 : 1 ≤ ρ.v 142 ∧ ρ.v 142 ≤ 100 := rng_iff.1 (hF (r 142 1 100) (by simp [F_M12]))
  have b112_1 : 1 ≤ ρ.v 112 ∧ ρ.v 112 ≤ 1 := rng_iff.1 (hF (r 112 1 1) (by simp [F_M12]))
  simp only [List.mem_cons, List.not_mem_nil, or_false] at hob
  rcases hob with rfl
  · simp only [List.mem_cons, List.not_mem_nil, or_false] at hr
    rcases hr with rfl | rfl
    · exact h0
    · exact h1
⟩
theorem good_l1_90_0 : GoodP rnL (cd9.take 2) (F_M12 ++ lem_l1_90) T_M12.toS (some ⟨T_I12, F_I12, [(112, none)], []⟩) [(7, ⟨T_N12, F_N12, [(112, none)], []⟩), (6, ⟨T_Q, F_Q, [], []⟩)] [] := ⟨[([((.bin .lt (.var 110) (.var 142)), false), ((.bin .lt (.var 110) (.var 141)), false)], [(.fact (.sem 0 sem0 [(.tv 120), (.tv 131), (.tv 132)] [(.var 110), (.lit (.ofNat 0)), (.var 141), (.lit (.ofNat 0)), (.var 142)])), (.fact (.sem 1 sem1 [(.tv 121)] [(.var 110)]))])], by kernel_rfl, by
  intro ρ hk ob hob hp rr hr
  have hF : ∀ g ∈ F_M12, Fact.holds ρ g := fun g hg => hk g (List.mem_append_left _ hg)
  have h0 : waits (((.tv 120) : E).tden ρ) [((((.tv 131) : E).tden ρ), (0 : Int), (((.var 141) : E).den ρ)), ((((.tv 132) : E).tden ρ), (0 : Int), (((.var 142) : E).den ρ))] (((.var 110) : E).den ρ) := hF (.sem 0 sem0 [(.tv 120), (.tv 131), (.tv 132)] [(.var 110), z, (.var 141), z, (.var 142)]) (by simp [F_M12])
  have h1 : rows (((.tv 121) : E).tden ρ) (((.var 110) : E).den ρ) := hF (.sem 1 sem1 [(.tv 121)] [(.var 110)]) (by simp [F_M12])
  have b110_100 : 0 ≤ ρ.v 110 ∧ ρ.v 110 ≤ 100 := rng_iff.1 (hF (r 110 0 100) (by simp [F_M12]))
  have b141_100 : 1 ≤ ρ.v 141 ∧ ρ.v 141 ≤ 100 := rng_iff.1 (hF (r 141 1 100) (by simp [F_M12]))
  have b142_100 : 1 ≤ ρ.v 142 ∧ ρ.v 142 ≤ 100 := rng_iff.1 (hF (r 142 1 100) (by simp [F_M12]))
  have b112_1 : 1 ≤ ρ.v 112 ∧ ρ.v 112 ≤ 1 := rng_iff.1 (hF (r 112 1 1) (by simp [F_M12]))
  simp only [List.mem_cons, List.not_mem_nil, or_false] at hob
  rcases hob with rfl
  · simp only [List.mem_cons, List.not_mem_nil, or_false] at hr
    rcases hr with rfl | rfl
    · exact h0
    · exact h1
⟩
theorem good_l1_91_0 : GoodP rnL cd10 (F_I12 ++ lem_l1_91) T_I12.toS (some ⟨T_I12, F_I12, [(111, some 101), (112, none)], []⟩) [(8, ⟨T_N12, F_N12, [(112, none)], []⟩), (7, ⟨T_N12, F_N12, [(112, none)], []⟩), (6, ⟨T_Q, F_Q, [], []⟩)] [] := ⟨[([((.bin .lt (.un (.wrap .i64) (.get (.tv 131) (.var 111) 0)) (.lit (.ofNat 0))), true), ((.bin .lt (.var 111) (.var 141)), true), ((.bin .lt (.var 141) (.var 111)), false), ((.bin .lt (.var 110) (.var 142)), false), ((.bin .lt (.var 110) (.var 141)), false)], [(.done (.lit (.ofNat 0)))]),
  ([((.bin .lt (.un (.wrap .i64) (.get (.tv 131) (.var 111) 0)) (.lit (.ofNat 100))), false), ((.bin .lt (.un (.wrap .i64) (.get (.tv 131) (.var 111) 0)) (.lit (.ofNat 0))), false), ((.bin .lt (.var 111) (.var 141)), true), ((.bin .lt (.var 141) (.var 111)), false), ((.bin .lt (.var 110) (.var 142)), false), ((.bin .lt (.var 110) (.var 141)), false)], [(.done (.lit (.ofNat 0)))]),
  ([((.bin .lt (.un (.wrap .i64) (.get (.tv 131) (.var 111) 0)) (.lit (.ofNat 100))), true), ((.bin .lt (.un (.wrap .i64) (.get (.tv 131) (.var 111) 0)) (.lit (.ofNat 0))), false), ((.bin .lt (.var 111) (.var 141)), true), ((.bin .lt (.var 141) (.var 111)), false), ((.bin .lt (.var 110) (.var 142)), false), ((.bin .lt (.var 110) (.var 141)), false)], [(.fact (.sem 0 sem0 [(.upd (.tv 120) (.un (.wrap .i64) (.get (.tv 131) (.var 111) 0)) 0 (.bin (.add .i64) (.un (.wrap .i64) (.get (.tv 120) (.un (.wrap .i64) (.get (.tv 131) (.var 111) 0)) 0)) (.lit (.ofNat 1)))), (.tv 131), (.tv 132)] [(.var 110), (.bin (.add .i64) (.var 111) (.lit (.ofNat 1))), (.var 141), (.lit (.ofNat 0)), (.var 142)])), (.fact (.sem 1 sem1 [(.tv 121)] [(.var 110)]))]),
  ([((.bin .lt (.var 111) (.var 141)), false), ((.bin .lt (.var 141) (.var 111)), false), ((.bin .lt (.var 110) (.var 142)), false), ((.bin .lt (.var 110) (.var 141)), false)], [(.fact (.sem 0 sem0 [(.tv 120), (.tv 132)] [(.var 110), (.lit (.ofNat 0)), (.var 142)])), (.fact (.sem 1 sem1 [(.tv 121)] [(.var 110)]))])], by kernel_rfl, by
  intro ρ hk ob hob hp rr hr
  have hF : ∀ g ∈ F_I12, Fact.holds ρ g := fun g hg => hk g (List.mem_append_left _ hg)
  have h0 : waits (((.tv 120) : E).tden ρ) [((((.tv 131) : E).tden ρ), (((.var 111) : E).den ρ), (((.var 141) : E).den ρ)), ((((.tv 132) : E).tden ρ), (0 : Int), (((.var 142) : E).den ρ))] (((.var 110) : E).den ρ) := hF (.sem 0 sem0 [(.tv 120), (.tv 131), (.tv 132)] [(.var 110), (.var 111), (.var 141), z, (.var 142)]) (by simp [F_I12])
  have h1 : rows (((.tv 121) : E).tden ρ) (((.var 110) : E).den ρ) := hF (.sem 1 sem1 [(.tv 121)] [(.var 110)]) (by simp [F_I12])
  have b110_100 : 0 ≤ ρ.v 110 ∧ ρ.v 110 ≤ 100 := rng_iff.1 (hF (r 110 0 100) (by simp [F_I12]))
  have b141_100 : 1 ≤ ρ.v 141 ∧ ρ.v 141 ≤ 100 := rng_iff.1 (hF (r 141 1 100) (by simp [F_I12]))
  have b142_100 : 1 ≤ ρ.v 142 ∧ ρ.v 142 ≤ 100 := rng_iff.1 (hF (r 142 1 100) (by simp [F_I12]))
  have b112_1 : 1 ≤ ρ.v 112 ∧ ρ.v 112 ≤ 1 := rng_iff.1 (hF (r 112 1 1) (by simp [F_I12]))
  have b111_100 : 0 ≤ ρ.v 111 ∧ ρ.v 111 ≤ 100 := rng_iff.1 (hF (r 111 0 100) (by simp [F_I12]))
  simp only [List.mem_cons, List.not_mem_nil, or_false] at hob
  rcases hob with rfl | rfl | rfl | rfl
  · simp only [List.mem_cons, List.not_mem_nil, or_false] at hr
    have t0 := lt_iff.1 (hp ((.bin .lt (.un (.wrap .i64) (.get (.tv 131) (.var 111) 0)) (.lit (.ofNat 0))), true) (by simp))
    simp only [E.den, UO.den, iff_true, Int.ofNat_eq_natCast] at t0
    have t1 := lt_iff.1 (hp ((.bin .lt (.var 111) (.var 141)), true) (by simp))
    simp only [E.den, UO.den, iff_true, Int.ofNat_eq_natCast] at t1
    have t2 := lt_iff.1 (hp ((.bin .lt (.var 141) (.var 111)), false) (by simp))
    simp only [E.den, UO.den, Bool.false_eq_true, iff_false, Int.ofNat_eq_natCast] at t2
    rcases hr with rfl
    · exfalso
      have h3 := h0.2.2 _ (List.mem_cons_self ..) (ρ.v 111) (Int.le_refl _) (by simp only [E.den]; omega)
      simp only [rd, E.den, E.tden] at h3
      simp only [E.tden] at t0
      omega
  · simp only [List.mem_cons, List.not_mem_nil, or_false] at hr
    have t0 := lt_iff.1 (hp ((.bin .lt (.un (.wrap .i64) (.get (.tv 131) (.var 111) 0)) (.lit (.ofNat 100))), false) (by simp))
    simp only [E.den, UO.den, Bool.false_eq_true, iff_false, Int.ofNat_eq_natCast] at t0
    have t1 := lt_iff.1 (hp ((.bin .lt (.un (.wrap .i64) (.get (.tv 131) (.var 111) 0)) (.lit (.ofNat 0))), false) (by simp))
    simp only [E.den, UO.den, Bool.false_eq_true, iff_false, Int.ofNat_eq_natCast] at t1
    have t2 := lt_iff.1 (hp ((.bin .lt (.var 111) (.var 141)), true) (by simp))
    simp only [E.den, UO.den, iff_true, Int.ofNat_eq_natCast] at t2
    have t3 := lt_iff.1 (hp ((.bin .lt (.var 141) (.var 111)), false) (by simp))
    simp only [E.den, UO.den, Bool.false_eq_true, iff_false, Int.ofNat_eq_natCast] at t3
    rcases hr with rfl
    · exfalso
      have h3 := h0.2.2 _ (List.mem_cons_self ..) (ρ.v 111) (Int.le_refl _) (by simp only [E.den]; omega)
      simp only [rd, E.den, E.tden] at h3
      simp only [E.tden] at t0
      omega
  · simp only [List.mem_cons, List.not_mem_nil, or_false] at hr
    have t0 := lt_iff.1 (hp ((.bin .lt (.un (.wrap .i64) (.get (.tv 131) (.var 111) 0)) (.lit (.ofNat 100))), true) (by simp))
    simp only [E.den, UO.den, iff_true, Int.ofNat_eq_natCast] at t0
    have t1 := lt_iff.1 (hp ((.bin .lt (.un (.wrap .i64) (.get (.tv 131) (.var 111) 0)) (.lit (.ofNat 0))), false) (by simp))
    simp only [E.den, UO.den, Bool.false_eq_true, iff_false, Int.ofNat_eq_natCast] at t1
    have t2 := lt_iff.1 (hp ((.bin .lt (.var 111) (.var 141)), true) (by simp))
    simp only [E.den, UO.den, iff_true, Int.ofNat_eq_natCast] at t2
    have t3 := lt_iff.1 (hp ((.bin .lt (.var 141) (.var 111)), false) (by simp))
    simp only [E.den, UO.den, Bool.false_eq_true, iff_false, Int.ofNat_eq_natCast] at t3
    rcases hr with rfl | rfl
    · show waits (((.upd (.tv 120) (.un (.wrap .i64) (.get (.tv 131) (.var 111) 0)) 0 (.bin (.add .i64) (.un (.wrap .i64) (.get (.tv 120) (.un (.wrap .i64) (.get (.tv 131) (.var 111) 0)) 0)) (.lit (.ofNat 1)))) : E).tden ρ) [((((.tv 131) : E).tden ρ), (((.bin (.add .i64) (.var 111) (.lit (.ofNat 1))) : E).den ρ), (((.var 141) : E).den ρ)), ((((.tv 132) : E).tden ρ), (0 : Int), (((.var 142) : E).den ρ))] (((.var 110) : E).den ρ)
      exact waits_step h0 (by simp only [E.den]; omega) (by simp only [E.den, BO.den]; exact add_i64 (by omega) (by omega)) (by simp only [E.den]; omega) (fun r => by simp only [E.tden, E.den, BO.den, UO.den, rd, and_true]; rfl)
    · exact h1
  · simp only [List.mem_cons, List.not_mem_nil, or_false] at hr
    have t0 := lt_iff.1 (hp ((.bin .lt (.var 111) (.var 141)), false) (by simp))
    simp only [E.den, UO.den, Bool.false_eq_true, iff_false, Int.ofNat_eq_natCast] at t0
    have t1 := lt_iff.1 (hp ((.bin .lt (.var 141) (.var 111)), false) (by simp))
    simp only [E.den, UO.den, Bool.false_eq_true, iff_false, Int.ofNat_eq_natCast] at t1
    rcases hr with rfl | rfl
    · exact waits_drop h0 (by simp only [E.den]; omega)
    · exact h1
⟩
theorem good_l1_92_0 : GoodP rnL (cd8.drop 3) (F_N12 ++ lem_l1_92) T_N12.toS (some ⟨T_M00, F_M00, [(112, some 5)], fm13⟩) [(6, ⟨T_Q, F_Q, [], []⟩)] [] := ⟨[([((.bin .lt (.var 110) (.var 142)), false)], [(.fact (.sem 0 sem0 [(.tv 120), (.tv 132)] [(.var 110), (.lit (.ofNat 0)), (.var 142)])), (.fact (.sem 1 sem1 [(.tv 121)] [(.var 110)]))])], by kernel_rfl, by
  intro ρ hk ob hob hp rr hr
  have hF : ∀ g ∈ F_N12, Fact.holds ρ g := fun g hg => hk g (List.mem_append_left _ hg)
  have h0 : waits (((.tv 120) : E).tden ρ) [((((.tv 132) : E).tden ρ), (0 : Int), (((.var 142) : E).den ρ))] (((.var 110) : E).den ρ) := hF (.sem 0 sem0 [(.tv 120), (.tv 132)] [(.var 110), z, (.var 142)]) (by simp [F_N12])
  have h1 : rows (((.tv 121) : E).tden ρ) (((.var 110) : E).den ρ) := hF (.sem 1 sem1 [(.tv 121)] [(.var 110)]) (by simp [F_N12])
  have b110_100 : 0 ≤ ρ.v 110 ∧ ρ.v 110 ≤ 100 := rng_iff.1 (hF (r 110 0 100) (by simp [F_N12]))
  have b142_100 : 1 ≤ ρ.v 142 ∧ ρ.v 142 ≤ 100 := rng_iff.1 (hF (r 142 1 100) (by simp [F_N12]))
  have b112_1 : 1 ≤ ρ.v 112 ∧ ρ.v 112 ≤ 1 := rng_iff.1 (hF (r 112 1 1) (by simp [F_N12]))
  simp only [List.mem_cons, List.not_mem_nil, or_false] at hob
  rcases hob with rfl
  · simp only [List.mem_cons, List.not_mem_nil, or_false] at hr
    rcases hr with rfl | rfl
    · exact h0
    · exact h1
⟩
theorem good_l1_93_0 : GoodP rnL (cd8.take 2) (F_M13 ++ lem_l1_93) T_M13.toS (some ⟨T_M13, F_M13, [(112, none)], []⟩) [(6, ⟨T_Q, F_Q, [], []⟩)] [] := ⟨[([((.bin .lt (.var 110) (.var 143)), false), ((.bin .lt (.var 110) (.var 142)), false), ((.bin .lt (.var 110) (.var 141)), false)], [(.fact (.sem 0 sem0 [(.tv 120), (.tv 131), (.tv 132), (.tv 133)] [(.var 110), (.lit (.ofNat 0)), (.var 141), (.lit (.ofNat 0)), (.var 142), (.lit (.ofNat 0)), (.var 143)])), (.fact (.sem 1 sem1 [(.tv 121)] [(.var 110)]))])], by kernel_rfl, by
  intro ρ hk ob hob hp rr hr
  have hF : ∀ g ∈ F_M13, Fact.holds ρ g := fun g hg => hk g (List.mem_append_left _ hg)
  have h0 : waits (((.tv 120) : E).tden ρ) [((((.tv 131) : E).tden ρ), (0 : Int), (((.var 141) : E).den ρ)), ((((.tv 132) : E).tden ρ), (0 : Int), (((.var 142) : E).den ρ)), ((((.tv 133) : E).tden ρ), (0 : Int), (((.var 143) : E).den ρ))] (((.var 110) : E).den ρ) := hF (.sem 0 sem0 [(.tv 120), (.tv 131), (.tv 132), (.tv 133)] [(.var 110), z, (.var 141), z, (.var 142), z, (.var 143)]) (by simp [F_M13])
  have h1 : rows (((.tv 121) : E).tden ρ) (((.var 110) : E).den ρ) := hF (.sem 1 sem1 [(.tv 121)] [(.var 110)]) (by simp [F_M13])
  have b110_100 : 0 ≤ ρ.v 110 ∧ ρ.v 110 ≤ 100 := rng_iff.1 (hF (r 110 0 100) (by simp [F_M13]))
  have b141_100 : 1 ≤ ρ.v 141 ∧ ρ.v 141 ≤ 100 := rng_iff.1 (hF (r 141 1 100) (by simp [F_M13]))
  have b142_100 : 1 ≤ ρ.v 142 ∧ ρ.v 142 ≤ 100 := rng_iff.1 (hF (r 142 1 100) (by simp [F_M13]))
  have b143_100 : 1 ≤ ρ.v 143 ∧ ρ.v 143 ≤ 100 := rng_iff.1 (hF (r 143 1 100) (by simp [F_M13]))
  have b112_1 : 1 ≤ ρ.v 112 ∧ ρ.v 112 ≤ 1 := rng_iff.1 (hF (r 112 1 1) (by simp [F_M13]))
  simp only [List.mem_cons, List.not_mem_nil, or_false] at hob
  rcases hob with rfl
  · simp only [List.mem_cons, List.not_mem_nil, or_false] at hr
    rcases hr with rfl | rfl
    · exact h0
    · exact h1
⟩
theorem good_l1_94_0 : GoodP rnL (cd9.take 2) (F_M13 ++ lem_l1_94) T_M13.toS (some ⟨T_I13, F_I13, [(112, none)], []⟩) [(7, ⟨T_N13, F_N13, [(112, none)], []⟩), (6, ⟨T_Q, F_Q, [], []⟩)] [] := ⟨[([((.bin .lt (.var 110) (.var 143)), false), ((.bin .lt (.var 110) (.var 142)), false), ((.bin .lt (.var 110) (.var 141)), false)], [(.fact (.sem 0 sem0 [(.tv 120), (.tv 131), (.tv 132), (.tv 133)] [(.var 110), (.lit (.ofNat 0)), (.var 141), (.lit (.ofNat 0)), (.var 142), (.lit (.ofNat 0)), (.var 143)])), (.fact (.sem 1 sem1 [(.tv 121)] [(.var 110)]))])], by kernel_rfl, by
  intro ρ hk ob hob hp rr hr
  have hF : ∀ g ∈ F_M13, Fact.holds ρ g := fun g hg => hk g (List.mem_append_left _ hg)
  have h0 : waits (((.tv 120) : E).tden ρ) [((((.tv 131) : E).tden ρ), (0 : Int), (((.var 141) : E).den ρ)), ((((.tv 132) : E).tden ρ), (0 : Int), (((.var 142) : E).den ρ)), ((((.tv 133) : E).tden ρ), (0 : Int), (((.var 143) : E).den ρ))] (((.var 110) : E).den ρ) := hF (.sem 0 sem0 [(.tv 120), (.tv 131), (.tv 132), (.tv 133)] [(.var 110), z, (.var 141), z, (.var 142), z, (.var 143)]) (by simp [F_M13])
  have h1 : rows (((.tv 121) : E).tden ρ) (((.var 110) : E).den ρ) := hF (.sem 1 sem1 [(.tv 121)] [(.var 110)]) (by simp [F_M13])
  have b110_100 : 0 ≤ ρ.v 110 ∧ ρ.v 110 ≤ 100 := rng_iff.1 (hF (r 110 0 100) (by simp [F_M13]))
  have b141_100 : 1 ≤ ρ.v 141 ∧ ρ.v 141 ≤ 100 := rng_iff.1 (hF (r 141 1 100) (by simp [F_M13]))
  have b142_100 : 1 ≤ ρ.v 142 ∧ ρ.v 142 ≤ 100 := rng_iff.1 (hF (r 142 1 100) (by simp [F_M13]))
  have b143_100 : 1 ≤ ρ.v 143 ∧ ρ.v 143 ≤ 100 := rng_iff.1 (hF (r 143 1 100) (by simp [F_M13]))
  have b112_1 : 1 ≤ ρ.v 112 ∧ ρ.v 112 ≤ 1 := rng_iff.1 (hF (r 112 1 1) (by simp [F_M13]))
  simp only [List.mem_cons, List.not_mem_nil, or_false] at hob
  rcases hob with rfl
  · simp only [List.mem_cons, List.not_mem_nil, or_false] at hr
    rcases hr with rfl | rfl
    · exact h0
    · exact h1
⟩
theorem good_l1_95_0 : GoodP rnL cd10 (F_I13 ++ lem_l1_95) T_I13.toS (some ⟨T_I13, F_I13, [(111, some 101), (112, none)], []⟩) [(8, ⟨T_N13, F_N13, [(112, none)], []⟩), (7, ⟨T_N13, F_N13, [(112, none)], []⟩), (6, ⟨T_Q, F_Q, [], []⟩)] [] := ⟨[([((.bin .lt (.un (.wrap .i64) (.get (.tv 131) (.var 111) 0)) (.lit (.ofNat 0))), true), ((.bin .lt (.var 111) (.var 141)), true), ((.bin .lt (.var 141) (.var 111)), false), ((.bin .lt (.var 110) (.var 143)), false), ((.bin .lt (.var 110) (.var 142)), false), ((.bin .lt (.var 110) (.var 141)), false)], [(.done (.lit (.ofNat 0)))]),
  ([((.bin .lt (.un (.wrap .i64) (.get (.tv 131) (.var 111) 0)) (.lit (.ofNat 100))), false), ((.bin .lt (.un (.wrap .i64) (.get (.tv 131) (.var 111) 0)) (.lit (.ofNat 0))), false), ((.bin .lt (.var 111) (.var 141)), true), ((.bin .lt (.var 141) (.var 111)), false), ((.bin .lt (.var 110) (.var 143)), false), ((.bin .lt (.var 110) (.var 142)), false), ((.bin .lt (.var 110) (.var 141)), false)], [(.done (.lit (.ofNat 0)))]),
  ([((.bin .lt (.un (.wrap .i64) (.get (.tv 131) (.var 111) 0)) (.lit (.ofNat 100))), true), ((.bin .lt (.un (.wrap .i64) (.get (.tv 131) (.var 111) 0)) (.lit (.ofNat 0))), false), ((.bin .lt (.var 111) (.var 141)), true), ((.bin .lt (.var 141) (.var 111)), false), ((.bin .lt (.var 110) (.var 143)), false), ((.bin .lt (.var 110) (.var 142)), false), ((.bin .lt (.var 110) (.var 141)), false)], [(.fact (.sem 0 sem0 [(.upd (.tv 120) (.un (.wrap .i64) (.get (.tv 131) (.var 111) 0)) 0 (.bin (.add .i64) (.un (.wrap .i64) (.get (.tv 120) (.un (.wrap .i64) (.get (.tv 131) (.var 111) 0)) 0)) (.lit (.ofNat 1)))), (.tv 131), (.tv 132), (.tv 133)] [(.var 110), (.bin (.add .i64) (.var 111) (.lit (.ofNat 1))), (.var 141), (.lit (.ofNat 0)), (.var 142), (.lit (.ofNat 0)), (.var 143)])), (.fact (.sem 1 sem1 [(.tv 121)] [(.var 110)]))]),
  ([((.bin .lt (.var 111) (.var 141)), false), ((.bin .lt (.var 141) (.var 111)), false), ((.bin .lt (.var 110) (.var 143)), false), ((.bin .lt (.var 110) (.var 142)), false), ((.bin .lt (.var 110) (.var 141)), false)], [(.fact (.sem 0 sem0 [(.tv 120), (.tv 132), (.tv 133)] [(.var 110), (.lit (.ofNat 0)), (.var 142), (.lit (.ofNat 0)), (.var 143)])), (.fact (.sem 1 sem1 [(.tv 121)] [(.var 110)]))])], by kernel_rfl, by
  intro ρ hk ob hob hp rr hr
  have hF : ∀ g ∈ F_I13, Fact.holds ρ g := fun g hg => hk g (List.mem_append_left _ hg)
  have h0 : waits (((.tv 120) : E).tden ρ) [((((.tv 131) : E).tden ρ), (((.var 111) : E).den ρ), (((.var 141) : E).den ρ)), ((((.tv 132) : E).tden ρ), (0 : Int), (((.var 142) : E).den ρ)), ((((.tv 133) : E).tden ρ), (0 : Int), (((.var 143) : E).den ρ))] (((.var 110) : E).den ρ) := hF (.sem 0 sem0 [(.tv 120), (.tv 131), (.tv 132), (.tv 133)] [(.var 110), (.var 111), (.var 141), z, (.var 142), z, (.var 143)]) (by simp [F_I13])
  have h1 : rows (((.tv 121) : E).tden ρ) (((.var 110) : E).den ρ) := hF (.sem 1 sem1 [(.tv 121)] [(.var 110)]) (by simp [F_I13])
  have b110_100 : 0 ≤ ρ.v 110 ∧ ρ.v 110 ≤ 100 := rng_iff.1 (hF (r 110 0 100) (by simp [F_I13]))
  have b141_100 : 1 ≤ ρ.v 141 ∧ ρ.v 141 ≤ 100 := rng_iff.1 (hF (r 141 1 100) (by simp [F_I13]))
  have b142_100 : 1 ≤ ρ.v 142 ∧ ρ.v 142 ≤ 100 := rng_iff.1 (hF (r 142 1 100) (by simp [F_I13]))
  have b143_100 : 1 ≤ ρ.v 143 ∧ ρ.v 143 ≤ 100 := rng_iff.1 (hF (r 143 1 100) (by simp [F_I13]))
  have b112_1 : 1 ≤ ρ.v 112 ∧ ρ.v 112 ≤ 1 := rng_iff.1 (hF (r 112 1 1) (by simp [F_I13]))
  have b111_100 : 0 ≤ ρ.v 111 ∧ ρ.v 111 ≤ 100 := rng_iff.1 (hF (r 111 0 100) (by simp [F_I13]))
  simp only [List.mem_cons, List.not_mem_nil, or_false] at hob
  rcases hob with rfl | rfl | rfl | rfl
  · simp only [List.mem_cons, List.not_mem_nil, or_false] at hr
    have t0 := lt_iff.1 (hp ((.bin .lt (.un (.wrap .i64) (.get (.tv 131) (.var 111) 0)) (.lit (.ofNat 0))), true) (by simp))
    simp only [E.den, UO.den, iff_true, Int.ofNat_eq_natCast] at t0
    have t1 := lt_iff.1 (hp ((.bin .lt (.var 111) (.var 141)), true) (by simp))
    simp only [E.den, UO.den, iff_true, Int.ofNat_eq_natCast] at t1
    have t2 := lt_iff.1 (hp ((.bin .lt (.var 141) (.var 111)), false) (by simp))
    simp only [E.den, UO.den, Bool.false_eq_true, iff_false, Int.ofNat_eq_natCast] at t2
    rcases hr with rfl
    · exfalso
      have h3 := h0.2.2 _ (List.mem_cons_self ..) (ρ.v 111) (Int.le_refl _) (by simp only [E.den]; omega)
      simp only [rd, E.den, E.tden] at h3
      simp only [E.tden] at t0
      omega
  · simp only [List.mem_cons, List.not_mem_nil, or_false] at hr
    have t0 := lt_iff.1 (hp ((.bin .lt (.un (.wrap .i64) (.get (.tv 131) (.var 111) 0)) (.lit (.ofNat 100))), false) (by simp))
    simp only [E.den, UO.den, Bool.false_eq_true, iff_false, Int.ofNat_eq_natCast] at t0
    have t1 := lt_iff.1 (hp ((.bin .lt (.un (.wrap .i64) (.get (.tv 131) (.var 111) 0)) (.lit (.ofNat 0))), false) (by simp))
    simp only [E.den, UO.den, Bool.false_eq_true, iff_false, Int.ofNat_eq_natCast] at t1
    have t2 := lt_iff.1 (hp ((.bin .lt (.var 111) (.var 141)), true) (by simp))
    simp only [E.den, UO.den, iff_true, Int.ofNat_eq_natCast] at t2
    have t3 := lt_iff.1 (hp ((.bin .lt (.var 141) (.var 111)), false) (by simp))
    simp only [E.den, UO.den, Bool.false_eq_true, iff_false, Int.ofNat_eq_natCast] at t3
    rcases hr with rfl
    · exfalso
      have h3 := h0.2.2 _ (List.mem_cons_self ..) (ρ.v 111) (Int.le_refl _) (by simp only [E.den]; omega)
      simp only [rd, E.den, E.tden] at h3
      simp only [E.tden] at t0
      omega
  · simp only [List.mem_cons, List.not_mem_nil, or_false] at hr
    have t0 := lt_iff.1 (hp ((.bin .lt (.un (.wrap .i64) (.get (.tv 131) (.var 111) 0)) (.lit (.ofNat 100))), true) (by simp))
    simp only [E.den, UO.den, iff_true, Int.ofNat_eq_natCast] at t0
    have t1 := lt_iff.1 (hp ((.bin .lt (.un (.wrap .i64) (.get (.tv 131) (.var 111) 0)) (.lit (.ofNat 0))), false) (by simp))
    simp only [E.den, UO.den, Bool.false_eq_true, iff_false, Int.ofNat_eq_natCast] at t1
    have t2 := lt_iff.1 (hp ((.bin .lt (.var 111) (.var 141)), true) (by simp))
    simp only [E.den, UO.den, iff_true, Int.ofNat_eq_natCast] at t2
    have t3 := lt_iff.1 (hp ((.bin .lt (.var 141) (.var 111)), false) (by simp))
    simp only [E.den, UO.den, Bool.false_eq_true, iff_false, Int.ofNat_eq_natCast] at t3
    rcases hr with rfl | rfl
    · show waits (((.upd (.tv 120) (.un (.wrap .i64) (.get (.tv 131) (.var 111) 0)) 0 (.bin (.add .i64) (.un (.wrap .i64) (.get (.tv 120) (.un (.wrap .i64) (.get (.tv 131) (.var 111) 0)) 0)) (.lit (.ofNat 1)))) : E).tden ρ) [((((.tv 131) : E).tden ρ), (((.bin (.add .i64) (.var 111) (.lit (.ofNat 1))) : E).den ρ), (((.var 141) : E).den ρ)), ((((.tv 132) : E).tden ρ), (0 : Int), (((.var 142) : E).den ρ)), ((((.tv 133) : E).tden ρ), (0 : Int), (((.var 143) : E).den ρ))] (((.var 110) : E).den ρ)
      exact waits_step h0 (by simp only [E.den]; omega) (by simp only [E.den, BO.den]; exact add_i64 (by omega) (by omega)) (by simp only [E.den]; omega) (fun r => by simp only [E.tden, E.den, BO.den, UO.den, rd, and_true]; rfl)
    · exact h1
  · simp only [List.mem_cons, List.not_mem_nil, or_false] at hr
    have t0 := lt_iff.1 (hp ((.bin .lt (.var 111) (.var 141)), false) (by simp))
    simp only [E.den, UO.den, Bool.false_eq_true, iff_false, Int.ofNat_eq_natCast] at t0
    have t1 := lt_iff.1 (hp ((.bin .lt (.var 141) (.var 111)), false) (by simp))
    simp only [E.den, UO.den, Bool.false_eq_true, iff_false, Int.ofNat_eq_natCast] at t1
    rcases hr with rfl | rfl
    · exact waits_drop h0 (by simp only [E.den]; omega)
    · exact h1
⟩
theorem good_l1_96_0 : GoodP rnL (cd8.drop 3) (F_N13 ++ lem_l1_96) T_N13.toS (some ⟨T_M00, F_M00, [(112, some 5)], fm13⟩) [(6, ⟨T_Q, F_Q, [], []⟩)] [] := ⟨[([((.bin .lt (.var 110) (.var 143)), false), ((.bin .lt (.var 110) (.var 142)), false)], [(.fact (.sem 0 sem0 [(.tv 120), (.tv 132), (.tv 133)] [(.var 110), (.lit (.ofNat 0)), (.var 142), (.lit (.ofNat 0)), (.var 143)])), (.fact (.sem 1 sem1 [(.tv 121)] [(.var 110)]))])], by kernel_rfl, by
  intro ρ hk ob hob hp rr hr
  have hF : ∀ g ∈ F_N13, Fact.holds ρ g := fun g hg => hk g (List.mem_append_left _ hg)
  have h0 : waits (((.tv 120) : E).tden ρ) [((((.tv 132) : E).tden ρ), (0 : Int), (((.var 142) : E).den ρ)), ((((.tv 133) : E).tden ρ), (0 : Int), (((.var 143) : E).den ρ))] (((.var 110) : E).den ρ) := hF (.sem 0 sem0 [(.tv 120), (.tv 132), (.tv 133)] [(.var 110), z, (.var 142), z, (.var 143)]) (by simp [F_N13])
  have h1 : rows (((.tv 121) : E).tden ρ) (((.var 110) : E).den ρ) := hF (.sem 1 sem1 [(.tv 121)] [(.var 110)]) (by simp [F_N13])
  have b110_100 : 0 ≤ ρ.v 110 ∧ ρ.v 110 ≤ 100 := rng_iff.1 (hF (r 110 0 100) (by simp [F_N13]))
  have b142_100 : 1 ≤ ρ.v 142 ∧ ρ.v 142 ≤ 100 := rng_iff.1 (hF (r 142 1 100) (by simp [F_N13]))
  have b143_100 : 1 ≤ ρ.v 143 ∧ ρ.v 143 ≤ 100 := rng_iff.1 (hF (r 143 1 100) (by simp [F_N13]))
  have b112_1 : 1 ≤ ρ.v 112 ∧ ρ.v 112 ≤ 1 := rng_iff.1 (hF (r 112 1 1) (by simp [F_N13]))
  simp only [List.mem_cons, List.not_mem_nil, or_false] at hob
  rcases hob with rfl
  · simp only [List.mem_cons, List.not_mem_nil, or_false] at hr
    rcases hr with rfl | rfl
    · exact h0
    · exact h1
⟩
theorem good_l1_97_0 : GoodP rnL (cd8.take 2) (F_M20 ++ lem_l1_97) T_M20.toS (some ⟨T_M20, F_M20, [(112, none)], []⟩) [(6, ⟨T_Q, F_Q, [], []⟩)] [] := ⟨[([], [(.fact (.sem 0 sem0 [(.tv 120)] [(.var 110)])), (.fact (.sem 1 sem1 [(.tv 121)] [(.var 110)]))])], by kernel_rfl, by
  intro ρ hk ob hob hp rr hr
  have hF : ∀ g ∈ F_M20, Fact.holds ρ g := fun g hg => hk g (List.mem_append_left _ hg)
  have h0 : waits (((.tv 120) : E).tden ρ) [] (((.var 110) : E).den ρ) := hF (.sem 0 sem0 [(.tv 120)] [(.var 110)]) (by simp [F_M20])
  have h1 : rows (((.tv 121) : E).tden ρ) (((.var 110) : E).den ρ) := hF (.sem 1 sem1 [(.tv 121)] [(.var 110)]) (by simp [F_M20])
  have b110_100 : 0 ≤ ρ.v 110 ∧ ρ.v 110 ≤ 100 := rng_iff.1 (hF (r 110 0 100) (by simp [F_M20]))
  have b112_2 : 2 ≤ ρ.v 112 ∧ ρ.v 112 ≤ 2 := rng_iff.1 (hF (r 112 2 2) (by simp [F_M20]))
  simp only [List.mem_cons, List.not_mem_nil, or_false] at hob
  rcases hob with rfl
  · simp only [List.mem_cons, List.not_mem_nil, or_false] at hr
    rcases hr with rfl | rfl
    · exact h0
    · exact h1
⟩
theorem good_l1_98_0 : GoodP rnL cd9 (F_M20 ++ lem_l1_98) T_M20.toS (some ⟨T_N20, F_N20, [(112, none)], []⟩) [(7, ⟨T_N20, F_N20, [(112, none)], []⟩), (6, ⟨T_Q, F_Q, [], []⟩)] [] := ⟨[([], [(.fact (.sem 0 sem0 [(.tv 120)] [(.var 110)])), (.fact (.sem 1 sem1 [(.tv 121)] [(.var 110)]))])], by kernel_rfl, by
  intro ρ hk ob hob hp rr hr
  have hF : ∀ g ∈ F_M20, Fact.holds ρ g := fun g hg => hk g (List.mem_append_left _ hg)
  have h0 : waits (((.tv 120) : E).tden ρ) [] (((.var 110) : E).den ρ) := hF (.sem 0 sem0 [(.tv 120)] [(.var 110)]) (by simp [F_M20])
  have h1 : rows (((.tv 121) : E).tden ρ) (((.var 110) : E).den ρ) := hF (.sem 1 sem1 [(.tv 121)] [(.var 110)]) (by simp [F_M20])
  have b110_100 : 0 ≤ ρ.v 110 ∧ ρ.v 110 ≤ 100 := rng_iff.1 (hF (r 110 0 100) (by simp [F_M20]))
  have b112_2 : 2 ≤ ρ.v 112 ∧ ρ.v 112 ≤ 2 := rng_iff.1 (hF (r 112 2 2) (by simp [F_M20]))
  simp only [List.mem_cons, List.not_mem_nil, or_false] at hob
  rcases hob with rfl
  · simp only [List.mem_cons, List.not_mem_nil, or_false] at hr
    rcases hr with rfl | rfl
    · exact h0
    · exact h1
⟩
theorem good_l1_99_0 : GoodP rnL (cd8.drop 3) (F_N20 ++ lem_l1_99) T_N20.toS (some ⟨T_M00, F_M00, [(112, some 5)], fm13⟩) [(6, ⟨T_Q, F_Q, [], []⟩)] [] := ⟨[([], [(.fact (.sem 0 sem0 [(.tv 120)] [(.var 110)])), (.fact (.sem 1 sem1 [(.tv 121)] [(.var 110)]))])], by kernel_rfl, by
  intro ρ hk ob hob hp rr hr
  have hF : ∀ g ∈ F_N20, Fact.holds ρ g := fun g hg => hk g (List.mem_append_left _ hg)
  have h0 : waits (((.tv 120) : E).tden ρ) [] (((.var 110) : E).den ρ) := hF (.sem 0 sem0 [(.tv 120)] [(.var 110)]) (by simp [F_N20])
  have h1 : rows (((.tv 121) : E).tden ρ) (((.var 110) : E).den ρ) := hF (.sem 1 sem1 [(.tv 121)] [(.var 110)]) (by simp [F_N20])
  have b110_100 : 0 ≤ ρ.v 110 ∧ ρ.v 110 ≤ 100 := rng_iff.1 (hF (r 110 0 100) (by simp [F_N20]))
  have b112_2 : 2 ≤ ρ.v 112 ∧ ρ.v 112 ≤ 2 := rng_iff.1 (hF (r 112 2 2) (by simp [F_N20]))
  simp only [List.mem_cons, List.not_mem_nil, or_false] at hob
  rcases hob with rfl
  · simp only [List.mem_cons, List.not_mem_nil, or_false] at hr
    rcases hr with rfl | rfl
    · exact h0
    · exact h1
⟩
theorem good_l1_100_0 : GoodP rnL (cd8.take 2) (F_M21 ++ lem_l1_100) T_M21.toS (some ⟨T_M21, F_M21, [(112, none)], []⟩) [(6, ⟨T_Q, F_Q, [], []⟩)] [] := ⟨[([((.bin .lt (.var 110) (.var 142)), false)], [(.fact (.sem 0 sem0 [(.tv 120), (.tv 132)] [(.var 110), (.lit (.ofNat 0)), (.var 142)])), (.fact (.sem 1 sem1 [(.tv 121)] [(.var 110)]))])], by kernel_rfl, by
  intro ρ hk ob hob hp rr hr
  have hF : ∀ g ∈ F_M21, Fact.holds ρ g := fun g hg => hk g (List.mem_append_left _ hg)
  have h0 : waits (((.tv 120) : E).tden ρ) [((((.tv 132) : E).tden ρ), (0 : Int), (((.var 142) : E).den ρ))] (((.var 110) : E).den ρ) := hF (.sem 0 sem0 [(.tv 120), (.tv 132)] [(.var 110), z, (.var 142)]) (by simp [F_M21])
  have h1 : rows (((.tv 121) : E).tden ρ) (((.var 110) : E).den ρ) := hF (.sem 1 sem1 [(.tv 121)] [(.var 110)]) (by simp [F_M21])
  have b110_100 : 0 ≤ ρ.v 110 ∧ ρ.v 110 ≤ 100 := rng_iff.1 (hF (r 110 0 100) (by simp [F_M21]))
  have b142_100 : 1 ≤ ρ.v 142 ∧ ρ.v 142 ≤ 100 := rng_iff.1 (hF (r 142 1 100) (by simp [F_M21]))
  have b112_2 : 2 ≤ ρ.v 112 ∧ ρ.v 112 ≤ 2 := rng_iff.1 (hF (r 112 2 2) (by simp [F_M21]))
  simp only [List.mem_cons, List.not_mem_nil, or_false] at hob
  rcases hob with rfl
  · simp only [List.mem_cons, List.not_mem_nil, or_false] at hr
    rcases hr with rfl | rfl
    · exact h0
    · exact h1
⟩
theorem good_l1_101_0 : GoodP rnL (cd9.take 2) (F_M21 ++ lem_l1_101) T_M21.toS (some ⟨T_I21, F_I21, [(112, none)], []⟩) [(7, ⟨T_N21, F_N21, [(112, none)], []⟩), (6, ⟨T_Q, F_Q, [], []⟩)] [] := ⟨[([((.bin .lt (.var 110) (.var 142)), false)], [(.fact (.sem 0 sem0 [(.tv 120), (.tv 132)] [(.var 110), (.lit (.ofNat 0)), (.var 142)])), (.fact (.sem 1 sem1 [(.tv 121)] [(.var 110)]))])], by kernel_rfl, by
  intro ρ hk ob hob hp rr hr
  have hF : ∀ g ∈ F_M21, Fact.holds ρ g := fun g hg => hk g (List.mem_append_left _ hg)
  have h0 : waits (((.tv 120) : E).tden ρ) [((((.tv 132) : E).tden ρ), (0 : Int), (((.var 142) : E).den ρ))] (((.var 110) : E).den ρ) := hF (.sem 0 sem0 [(.tv 120), (.tv 132)] [(.var 110), z, (.var 142)]) (by simp [F_M21])
  have h1 : rows (((.tv 121) : E).tden ρ) (((.var 110) : E).den ρ) := hF (.sem 1 sem1 [(.tv 121)] [(.var 110)]) (by simp [F_M21])
  have b110_100 : 0 ≤ ρ.v 110 ∧ ρ.v 110 ≤ 100 := rng_iff.1 (hF (r 110 0 100) (by simp [F_M21]))
  have b142_100 : 1 ≤ ρ.v 142 ∧ ρ.v 142 ≤ 100 := rng_iff.1 (hF (r 142 1 100) (by simp [F_M21]))
  have b112_2 : 2 ≤ ρ.v 112 ∧ ρ.v 112 ≤ 2 := rng_iff.1 (hF (r 112 2 2) (by simp [F_M21]))
  simp only [List.mem_cons, List.not_mem_nil, or_false] at hob
  rcases hob with rfl
  · simp only [List.mem_cons, List.not_mem_nil, or_false] at hr
    rcases hr with rfl | rfl
    · exact h0
    · exact h1
⟩
theorem good_l1_102_0 : GoodP rnL cd10 (F_I21 ++ lem_l1_102) T_I21.toS (some ⟨T_I21, F_I21, [(111, some 101), (112, none)], []⟩) [(8, ⟨T_N21, F_N21, [(112, none)], []⟩), (7, ⟨T_N21, F_N21, [(112, none)], []⟩), (6, ⟨T_Q, F_Q, [], []⟩)] [] := ⟨[([((.bin .lt (.un (.wrap .i64) (.get (.tv 132) (.var 111) 0)) (.lit (.ofNat 0))), true), ((.bin .lt (.var 111) (.var 142)), true), ((.bin .lt (.var 142) (.var 111)), false), ((.bin .lt (.var 110) (.var 142)), false)], [(.done (.lit (.ofNat 0)))]),
  ([((.bin .lt (.un (.wrap .i64) (.get (.tv 132) (.var 111) 0)) (.lit (.ofNat 100))), false), ((.bin .lt (.un (.wrap .i64) (.get (.tv 132) (.var 111) 0)) (.lit (.ofNat 0))), false), ((.bin .lt (.var 111) (.var 142)), true), ((.bin .lt (.var 142) (.var 111)), false), ((.bin .lt (.var 110) (.var 142)), false)], [(.done (.lit (.ofNat 0)))]),
  ([((.bin .lt (.un (.wrap .i64) (.get (.tv 132) (.var 111) 0)) (.lit (.ofNat 100))), true), ((.bin .lt (.un (.wrap .i64) (.get (.tv 132) (.var 111) 0)) (.lit (.ofNat 0))), false), ((.bin .lt (.var 111) (.var 142)), true), ((.bin .lt (.var 142) (.var 111)), false), ((.bin .lt (.var 110) (.var 142)), false)], [(.fact (.sem 0 sem0 [(.upd (.tv 120) (.un (.wrap .i64) (.get (.tv 132) (.var 111) 0)) 0 (.bin (.add .i64) (.un (.wrap .i64) (.get (.tv 120) (.un (.wrap .i64) (.get (.tv 132) (.var 111) 0)) 0)) (.lit (.ofNat 1)))), (.tv 132)] [(.var 110), (.bin (.add .i64) (.var 111) (.lit (.ofNat 1))), (.var 142)])), (.fact (.sem 1 sem1 [(.tv 121)] [(.var 110)]))]),
  ([((.bin .lt (.var 111) (.var 142)), false), ((.bin .lt (.var 142) (.var 111)), false), ((.bin .lt (.var 110) (.var 142)), false)], [(.fact (.sem 0 sem0 [(.tv 120)] [(.var 110)])), (.fact (.sem 1 sem1 [(.tv 121)] [(.var 110)]))])], by kernel_rfl, by
  intro ρ hk ob hob hp rr hr
  have hF : ∀ g ∈ F_I21, Fact.holds ρ g := fun g hg => hk g (List.mem_append_left _ hg)
  have h0 : waits (((.tv 120) : E).tden ρ) [((((.tv 132) : E).tden ρ), (((.var 111) : E).den ρ), (((.var 142) : E).den ρ))] (((.var 110) : E).den ρ) := hF (.sem 0 sem0 [(.tv 120), (.tv 132)] [(.var 110), (.var 111), (.var 142)]) (by simp [F_I21])
  have h1 : rows (((.tv 121) : E).tden ρ) (((.var 110) : E).den ρ) := hF (.sem 1 sem1 [(.tv 121)] [(.var 110)]) (by simp [F_I21])
  have b110_100 : 0 ≤ ρ.v 110 ∧ ρ.v 110 ≤ 100 := rng_iff.1 (hF (r 110 0 100) (by simp [F_I21]))
  have b142_100 : 1 ≤ ρ.v 142 ∧ ρ.v 142 ≤ 100 := rng_iff.1 (hF (r 142 1 100) (by simp [F_I21]))
  have b112_2 : 2 ≤ ρ.v 112 ∧ ρ.v 112 ≤ 2 := rng_iff.1 (hF (r 112 2 2) (by simp [F_I21]))
  have b111_100 : 0 ≤ ρ.v 111 ∧ ρ.v 111 ≤ 100 := rng_iff.1 (hF (r 111 0 100) (by simp [F_I21]))
  simp only [List.mem_cons, List.not_mem_nil, or_false] at hob
  rcases hob with rfl | rfl | rfl | rfl
  · simp only [List.mem_cons, List.not_mem_nil, or_false] at hr
    have t0 := lt_iff.1 (hp ((.bin .lt (.un (.wrap .i64) (.get (.tv 132) (.var 111) 0)) (.lit (.ofNat 0))), true) (by simp))
    simp only [E.den, UO.den, iff_true, Int.ofNat_eq_natCast] at t0
    have t1 := lt_iff.1 (hp ((.bin .lt (.var 111) (.var 142)), true) (by simp))
    simp only [E.den, UO.den, iff_true, Int.ofNat_eq_natCast] at t1
    have t2 := lt_iff.1 (hp ((.bin .lt (.var 142) (.var 111)), false) (by simp))
    simp only [E.den, UO.den, Bool.false_eq_true, iff_false, Int.ofNat_eq_natCast] at t2
    rcases hr with rfl
    · exfalso
      have h3 := h0.2.2 _ (List.mem_cons_self ..) (ρ.v 111) (Int.le_refl _) (by simp only [E.den]; omega)
      simp only [rd, E.den, E.tden] at h3
      simp only [E.tden] at t0
      omega
  · simp only [List.mem_cons, List.not_mem_nil, or_false] at hr
    have t0 := lt_iff.1 (hp ((.bin .lt (.un (.wrap .i64) (.get (.tv 132) (.var 111) 0)) (.lit (.ofNat 100))), false) (by simp))
    simp only [E.den, UO.den, Bool.false_eq_true, iff_false, Int.ofNat_eq_natCast] at t0
    have t1 := lt_iff.1 (hp ((.bin .lt (.un (.wrap .i64) (.get (.tv 132) (.var 111) 0)) (.lit (.ofNat 0))), false) (by simp))
    simp only [E.den, UO.den, Bool.false_eq_true, iff_false, Int.ofNat_eq_natCast] at t1
    have t2 := lt_iff.1 (hp ((.bin .lt (.var 111) (.var 142)), true) (by simp))
    simp only [E.den, UO.den, iff_true, Int.ofNat_eq_natCast] at t2
    have t3 := lt_iff.1 (hp ((.bin .lt (.var 142) (.var 111)), false) (by simp))
    simp only [E.den, UO.den, Bool.false_eq_true, iff_false, Int.ofNat_eq_natCast] at t3
    rcases hr with rfl
    · exfalso
      have h3 := h0.2.2 _ (List.mem_cons_self ..) (ρ.v 111) (Int.le_refl _) (by simp only [E.den]; omega)
      simp only [rd, E.den, E.tden] at h3
      simp only [E.tden] at t0
      omega
  · simp only [List.mem_cons, List.not_mem_nil, or_false] at hr
    have t0 := lt_iff.1 (hp ((.bin .lt (.un (.wrap .i64) (.get (.tv 132) (.var 111) 0)) (.lit (.ofNat 100))), true) (by simp))
    simp only [E.den, UO.den, iff_true, Int.ofNat_eq_natCast] at t0
    have t1 := lt_iff.1 (hp ((.bin .lt (.un (.wrap .i64) (.get (.tv 132) (.var 111) 0)) (.lit (.ofNat 0))), false) (by simp))
    simp only [E.den, UO.den, Bool.false_eq_true, iff_false, Int.ofNat_eq_natCast] at t1
    have t2 := lt_iff.1 (hp ((.bin .lt (.var 111) (.var 142)), true) (by simp))
    simp only [E.den, UO.den, iff_true, Int.ofNat_eq_natCast] at t2
    have t3 := lt_iff.1 (hp ((.bin .lt (.var 142) (.var 111)), false) (by simp))
    simp only [E.den, UO.den, Bool.false_eq_true, iff_false, Int.ofNat_eq_natCast] at t3
    rcases hr with rfl | rfl
    · show waits (((.upd (.tv 120) (.un (.wrap .i64) (.get (.tv 132) (.var 111) 0)) 0 (.bin (.add .i64) (.un (.wrap .i64) (.get (.tv 120) (.un (.wrap .i64) (.get (.tv 132) (.var 111) 0)) 0)) (.lit (.ofNat 1)))) : E).tden ρ) [((((.tv 132) : E).tden ρ), (((.bin (.add .i64) (.var 111) (.lit (.ofNat 1))) : E).den ρ), (((.var 142) : E).den ρ))] (((.var 110) : E).den ρ)
      exact waits_step h0 (by simp only [E.den]; omega) (by simp only [E.den, BO.den]; exact add_i64 (by omega) (by omega)) (by simp only [E.den]; omega) (fun r => by simp only [E.tden, E.den, BO.den, UO.den, rd, and_true]; rfl)
    · exact h1
  · simp only [List.mem_cons, List.not_mem_nil, or_false] at hr
    have t0 := lt_iff.1 (hp ((.bin .lt (.var 111) (.var 142)), false) (by simp))
    simp only [E.den, UO.den, Bool.false_eq_true, iff_false, Int.ofNat_eq_natCast] at t0
    have t1 := lt_iff.1 (hp ((.bin .lt (.var 142) (.var 111)), false) (by simp))
    simp only [E.den, UO.den, Bool.false_eq_true, iff_false, Int.ofNat_eq_natCast] at t1
    rcases hr with rfl | rfl
    · exact waits_drop h0 (by simp only [E.den]; omega)
    · exact h1
⟩
theorem good_l1_103_0 : GoodP rnL (cd8.drop 3) (F_N21 ++ lem_l1_103) T_N21.toS (some ⟨T_M00, F_M00, [(112, some 5)], fm13⟩) [(6, ⟨T_Q, F_Q, [], []⟩)] [] := ⟨[([], [(.fact (.sem 0 sem0 [(.tv 120)] [(.var 110)])), (.fact (.sem 1 sem1 [(.tv 121)] [(.var 110)]))])], by kernel_rfl, by
  intro ρ hk ob hob hp rr hr
  have hF : ∀ g ∈ F_N21, Fact.holds ρ g := fun g hg => hk g (List.mem_append_left _ hg)
  have h0 : waits (((.tv 120) : E).tden ρ) [] (((.var 110) : E).den ρ) := hF (.sem 0 sem0 [(.tv 120)] [(.var 110)]) (by simp [F_N21])
  have h1 : rows (((.tv 121) : E).tden ρ) (((.var 110) : E).den ρ) := hF (.sem 1 sem1 [(.tv 121)] [(.var 110)]) (by simp [F_N21])
  have b110_100 : 0 ≤ ρ.v 110 ∧ ρ.v 110 ≤ 100 := rng_iff.1 (hF (r 110 0 100) (by simp [F_N21]))
  have b112_2 : 2 ≤ ρ.v 112 ∧ ρ.v 112 ≤ 2 := rng_iff.1 (hF (r 112 2 2) (by simp [F_N21]))
  simp only [List.mem_cons, List.not_mem_nil, or_false] at hob
  rcases hob with rfl
  · simp only [List.mem_cons, List.not_mem_nil, or_false] at hr
    rcases hr with rfl | rfl
    · exact h0
    · exact h1
⟩
theorem good_l1_104_0 : GoodP rnL (cd8.take 2) (F_M22 ++ lem_l1_104) T_M22.toS (some ⟨T_M22, F_M22, [(112, none)], []⟩) [(6, ⟨T_Q, F_Q, [], []⟩)] [] := ⟨[([((.bin .lt (.var 110) (.var 143)), false), ((.bin .lt (.var 110) (.var 142)), false)], [(.fact (.sem 0 sem0 [(.tv 120), (.tv 132), (.tv 133)] [(.var 110), (.lit (.ofNat 0)), (.var 142), (.lit (.ofNat 0)), (.var 143)])), (.fact (.sem 1 sem1 [(.tv 121)] [(.var 110)]))])], by kernel_rfl, by
  intro ρ hk ob hob hp rr hr
  have hF : ∀ g ∈ F_M22, Fact.holds ρ g := fun g hg => hk g (List.mem_append_left _ hg)
  have h0 : waits (((.tv 120) : E).tden ρ) [((((.tv 132) : E).tden ρ), (0 : Int), (((.var 142) : E).den ρ)), ((((.tv 133) : E).tden ρ), (0 : Int), (((.var 143) : E).den ρ))] (((.var 110) : E).den ρ) := hF (.sem 0 sem0 [(.tv 120), (.tv 132), (.tv 133)] [(.var 110), z, (.var 142), z, (.var 143)]) (by simp [F_M22])
  have h1 : rows (((.tv 121) : E).tden ρ) (((.var 110) : E).den ρ) := hF (.sem 1 sem1 [(.tv 121)] [(.var 110)]) (by simp [F_M22])
  have b110_100 : 0 ≤ ρ.v 110 ∧ ρ.v 110 ≤ 100 := rng_iff.1 (hF (r 110 0 100) (by simp [F_M22]))
  have b142_100 : 1 ≤ ρ.v 142 ∧ ρ.v 142 ≤ 100 := rng_iff.1 (hF (r 142 1 100) (by simp [F_M22]))
  have b143_100 : 1 ≤ ρ.v 143 ∧ ρ.v 143 ≤ 100 := rng_iff.1 (hF (r 143 1 100) (by simp [F_M22]))
  have b112_2 : 2 ≤ ρ.v 112 ∧ ρ.v 112 ≤ 2 := rng_iff.1 (hF (r 112 2 2) (by simp [F_M22]))
  simp only [List.mem_cons, List.not_mem_nil, or_false] at hob
  rcases hob with rfl
  · simp only [List.mem_cons, List.not_mem_nil, or_false] at hr
    rcases hr with rfl | rfl
    · exact h0
    · exact h1
⟩
theorem good_l1_105_0 : GoodP rnL (cd9.take 2) (F_M22 ++ lem_l1_105) T_M22.toS (some ⟨T_I22, F_I22, [(112, none)], []⟩) [(7, ⟨T_N22, F_N22, [(112, none)], []⟩), (6, ⟨T_Q, F_Q, [], []⟩)] [] := ⟨[([((.bin .lt (.var 110) (.var 143)), false), ((.bin .lt (.var 110) (.var 142)), false)], [(.fact (.sem 0 sem0 [(.tv 120), (.tv 132), (.tv 133)] [(.var 110), (.lit (.ofNat 0)), (.var 142), (.lit (.ofNat 0)), (.var 143)])), (.fact (.sem 1 sem1 [(.tv 121)] [(.var 110)]))])], by kernel_rfl, by
  intro ρ hk ob hob hp rr hr
  have hF : ∀ g ∈ F_M22, Fact.holds ρ g := fun g hg => hk g (List.mem_append_left _ hg)
  have h0 : waits (((.tv 120) : E).tden ρ) [((((.tv 132) : E).tden ρ), (0 : Int), (((.var 142) : E).den ρ)), ((((.tv 133) : E).tden ρ), (0 : Int), (((.var 143) : E).den ρ))] (((.var 110) : E).den ρ) := hF (.sem 0 sem0 [(.tv 120), (.tv 132), (.tv 133)] [(.var 110), z, (.var 142), z, (.var 143)]) (by simp [F_M22])
  have h1 : rows (((.tv 121) : E).tden ρ) (((.var 110) : E).den ρ) := hF (.sem 1 sem1 [(.tv 121)] [(.var 110)]) (by simp [F_M22])
  have b110_100 : 0 ≤ ρ.v 110 ∧ ρ.v 110 ≤ 100 := rng_iff.1 (hF (r 110 0 100) (by simp [F_M22]))
  have b142_100 : 1 ≤ ρ.v 142 ∧ ρ.v 142 ≤ 100 := rng_iff.1 (hF (r 142 1 100) (by simp [F_M22]))
  have b143_100 : 1 ≤ ρ.v 143 ∧ ρ.v 143 ≤ 100 := rng_iff.1 (hF (r 143 1 100) (by simp [F_M22]))
  have b112_2 : 2 ≤ ρ.v 112 ∧ ρ.v 112 ≤ 2 := rng_iff.1 (hF (r 112 2 2) (by simp [F_M22]))
  simp only [List.mem_cons, List.not_mem_nil, or_false] at hob
  rcases hob with rfl
  · simp only [List.mem_cons, List.not_mem_nil, or_false] at hr
    rcases hr with rfl | rfl
    · exact h0
    · exact h1
⟩
end Go.Proofs.Ytdicippbniglpaa.mshrWaits
