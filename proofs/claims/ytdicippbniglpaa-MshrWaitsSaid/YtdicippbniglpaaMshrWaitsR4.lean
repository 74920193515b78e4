/-
  'MshrWaits': runs of its parts, checked by the kernel. Printed by program.
-/
import Derived.Test.YtdicippbniglpaaMshrWaitsL
namespace Go.Proofs.Ytdicippbniglpaa.mshrWaits
open Go.ChangeShapes Go.WideShapes Go.ChangeAt Go.RowKit Go.Sx
set_option linter.unusedVariables false
set_option linter.unusedSimpArgs false
set_option maxRecDepth 100000
set_option maxHeartbeats 1600000
theorem good_l1_106_0 : GoodP rnL cd10 (F_I22 ++ lem_l1_106) T_I22.toS (some ⟨T_I22, F_I22, [(111, some 101), (112, none)], []⟩) [(8, ⟨T_N22, F_N22, [(112, none)], []⟩), (7, ⟨T_N22, F_N22, [(112, none)], []⟩), (6, ⟨T_Q, F_Q, [], []⟩)] [] := ⟨[([((.bin .lt (.un (.wrap .i64) (.get (.tv 132) (.var 111) 0)) (.lit (.ofNat 0))), true), ((.bin .lt (.var 111) (.var 142)), true), ((.bin .lt (.var 142) (.var 111)), false), ((.bin .lt (.var 110) (.var 143)), false), ((.bin .lt (.var 110) (.var 142)), false)], [(.done (.lit (.ofNat 0)))]),
  ([((.bin .lt (.un (.wrap .i64) (.get (.tv 132) (.var 111) 0)) (.lit (.ofNat 100))), false), ((.bin .lt (.un (.wrap .i64) (.get (.tv 132) (.var 111) 0)) (.lit (.ofNat 0))), false), ((.bin .lt (.var 111) (.var 142)), true), ((.bin .lt (.var 142) (.var 111)), false), ((.bin .lt (.var 110) (.var 143)), false), ((.bin .lt (.var 110) (.var 142)), false)], [(.done (.lit (.ofNat 0)))]),
  ([((.bin .lt (.un (.wrap .i64) (.get (.tv 132) (.var 111) 0)) (.lit (.ofNat 100))), true), ((.bin .lt (.un (.wrap .i64) (.get (.tv 132) (.var 111) 0)) (.lit (.ofNat 0))), false), ((.bin .lt (.var 111) (.var 142)), true), ((.bin .lt (.var 142) (.var 111)), false), ((.bin .lt (.var 110) (.var 143)), false), ((.bin .lt (.var 110) (.var 142)), false)], [(.fact (.sem 0 sem0 [(.upd (.tv 120) (.un (.wrap .i64) (.get (.tv 132) (.var 111) 0)) 0 (.bin (.add .i64) (.un (.wrap .i64) (.get (.tv 120) (.un (.wrap .i64) (.get (.tv 132) (.var 111) 0)) 0)) (.lit (.ofNat 1)))), (.tv 132), (.tv 133)] [(.var 110), (.bin (.add .i64) (.var 111) (.lit (.ofNat 1))), (.var 142), (.lit (.ofNat 0)), (.var 143)])), (.fact (.sem 1 sem1 [(.tv 121)] [(.var 110)]))]),
  ([((.bin .lt (.var 111) (.var 142)), false), ((.bin .lt (.var 142) (.var 111)), false), ((.bin .lt (.var 110) (.var 143)), false), ((.bin .lt (.var 110) (.var 142)), false)], [(.fact (.sem 0 sem0 [(.tv 120), (.tv 133)] [(.var 110), (.lit (.ofNat 0)), (.var 143)])), (.fact (.sem 1 sem1 [(.tv 121)] [(.var 110)]))])], by kernel_rfl, by
  intro ρ hk ob hob hp rr hr
  have hF : ∀ g ∈ F_I22, Fact.holds ρ g := fun g hg => hk g (List.mem_append_left _ hg)
  have h0 : waits (((.tv 120) : E).tden ρ) [((((.tv 132) : E).tden ρ), (((.var 111) : E).den ρ), (((.var 142) : E).den ρ)), ((((.tv 133) : E).tden ρ), (0 : Int), (((.var 143) : E).den ρ))] (((.var 110) : E).den ρ) := hF (.sem 0 sem0 [(.tv 120), (.tv 132), (.tv 133)] [(.var 110), (.var 111), (.var 142), z, (.var 143)]) (by simp [F_I22])
  have h1 : rows (((.tv 121) : E).tden ρ) (((.var 110) : E).den ρ) := hF (.sem 1 sem1 [(.tv 121)] [(.var 110)]) (by simp [F_I22])
  have b110_100 : 0 ≤ ρ.v 110 ∧ ρ.v 110 ≤ 100 := rng_iff.1 (hF (r 110 0 100) (by simp [F_I22]))
  have b142_100 : 1 ≤ ρ.v 142 ∧ ρ.v 142 ≤ 100 := rng_iff.1 (hF (r 142 1 100) (by simp [F_I22]))
  have b143_100 : 1 ≤ ρ.v 143 ∧ ρ.v 143 ≤ 100 := rng_iff.1 (hF (r 143 1 100) (by simp [F_I22]))
  have b112_2 : 2 ≤ ρ.v 112 ∧ ρ.v 112 ≤ 2 := rng_iff.1 (hF (r 112 2 2) (by simp [F_I22]))
  have b111_100 : 0 ≤ ρ.v 111 ∧ ρ.v 111 ≤ 100 := rng_iff.1 (hF (r 111 0 100) (by simp [F_I22]))
  simp only [List.mem_cons, List.not_mem_nil, or_false] at hob
  rcases hob with rfl | rfl | rfl | rfl
  · simp only [List.mem_cons, List.not_mem_nil, or_false] at hr
    have t0 := lt_iff.1 (hp ((.bin .lt (.un (.wrap .i64) (.get (.tv 132) (.var 111) 0)) (.lit (.ofNat 0))), true) (by simp))
    simp only [E.den, UO.den, iff_true, Int.ofNat_eq_natCast] at t0
    have t1 := lt_iff.1 (hp ((.bin .lt (.var 111) (.var 142)), true) (by simp))
    simp only [E.den, UO.den, iff_true, Int.ofNat_eq_natCast] at t1
    have t2 := lt_iff.1 (hp ((.bin .lt (.var 142) (.var 111)), false) (by simp))
    simp only [E.den, UO.den, Bool.false_eq_true, iff_false, Int.ofNat_eq_natCast] at t2
    rcases hr with rfl
    · exfalso
      have h3 := h0.2.2 _ (List.mem_cons_self ..) (ρ.v 111) (Int.le_refl _) (by simp only [E.den]; omega)
      simp only [rd, E.den, E.tden] at h3
      simp only [E.tden] at t0
      omega
  · simp only [List.mem_cons, List.not_mem_nil, or_false] at hr
    have t0 := lt_iff.1 (hp ((.bin .lt (.un (.wrap .i64) (.get (.tv 132) (.var 111) 0)) (.lit (.ofNat 100))), false) (by simp))
    simp only [E.den, UO.den, Bool.false_eq_true, iff_false, Int.ofNat_eq_natCast] at t0
    have t1 := lt_iff.1 (hp ((.bin .lt (.un (.wrap .i64) (.get (.tv 132) (.var 111) 0)) (.lit (.ofNat 0))), false) (by simp))
    simp only [E.den, UO.den, Bool.false_eq_true, iff_false, Int.ofNat_eq_natCast] at t1
    have t2 := lt_iff.1 (hp ((.bin .lt (.var 111) (.var 142)), true) (by simp))
    simp only [E.den, UO.den, iff_true, Int.ofNat_eq_natCast] at t2
    have t3 := lt_iff.1 (hp ((.bin .lt (.var 142) (.var 111)), false) (by simp))
    simp only [E.den, UO.den, Bool.false_eq_true, iff_false, Int.ofNat_eq_natCast] at t3
    rcases hr with rfl
    · exfalso
      have h3 := h0.2.2 _ (List.mem_cons_self ..) (ρ.v 111) (Int.le_refl _) (by simp only [E.den]; omega)
      simp only [rd, E.den, E.tden] at h3
      simp only [E.tden] at t0
      omega
  · simp only [List.mem_cons, List.not_mem_nil, or_false] at hr
    have t0 := lt_iff.1 (hp ((.bin .lt (.un (.wrap .i64) (.get (.tv 132) (.var 111) 0)) (.lit (.ofNat 100))), true) (by simp))
    simp only [E.den, UO.den, iff_true, Int.ofNat_eq_natCast] at t0
    have t1 := lt_iff.1 (hp ((.bin .lt (.un (.wrap .i64) (.get (.tv 132) (.var 111) 0)) (.lit (.ofNat 0))), false) (by simp))
    simp only [E.den, UO.den, Bool.false_eq_true, iff_false, Int.ofNat_eq_natCast] at t1
    have t2 := lt_iff.1 (hp ((.bin .lt (.var 111) (.var 142)), true) (by simp))
    simp only [E.den, UO.den, iff_true, Int.ofNat_eq_natCast] at t2
    have t3 := lt_iff.1 (hp ((.bin .lt (.var 142) (.var 111)), false) (by simp))
    simp only [E.den, UO.den, Bool.false_eq_true, iff_false, Int.ofNat_eq_natCast] at t3
    rcases hr with rfl | rfl
    · show waits (((.upd (.tv 120) (.un (.wrap .i64) (.get (.tv 132) (.var 111) 0)) 0 (.bin (.add .i64) (.un (.wrap .i64) (.get (.tv 120) (.un (.wrap .i64) (.get (.tv 132) (.var 111) 0)) 0)) (.lit (.ofNat 1)))) : E).tden ρ) [((((.tv 132) : E).tden ρ), (((.bin (.add .i64) (.var 111) (.lit (.ofNat 1))) : E).den ρ), (((.var 142) : E).den ρ)), ((((.tv 133) : E).tden ρ), (0 : Int), (((.var 143) : E).den ρ))] (((.var 110) : E).den ρ)
      exact waits_step h0 (by simp only [E.den]; omega) (by simp only [E.den, BO.den]; exact add_i64 (by omega) (by omega)) (by simp only [E.den]; omega) (fun r => by simp only [E.tden, E.den, BO.den, UO.den, rd, and_true]; rfl)
    · exact h1
  · simp only [List.mem_cons, List.not_mem_nil, or_false] at hr
    have t0 := lt_iff.1 (hp ((.bin .lt (.var 111) (.var 142)), false) (by simp))
    simp only [E.den, UO.den, Bool.false_eq_true, iff_false, Int.ofNat_eq_natCast] at t0
    have t1 := lt_iff.1 (hp ((.bin .lt (.var 142) (.var 111)), false) (by simp))
    simp only [E.den, UO.den, Bool.false_eq_true, iff_false, Int.ofNat_eq_natCast] at t1
    rcases hr with rfl | rfl
    · exact waits_drop h0 (by simp only [E.den]; omega)
    · exact h1
⟩
theorem good_l1_107_0 : GoodP rnL (cd8.drop 3) (F_N22 ++ lem_l1_107) T_N22.toS (some ⟨T_M00, F_M00, [(112, some 5)], fm13⟩) [(6, ⟨T_Q, F_Q, [], []⟩)] [] := ⟨[([((.bin .lt (.var 110) (.var 143)), false)], [(.fact (.sem 0 sem0 [(.tv 120), (.tv 133)] [(.var 110), (.lit (.ofNat 0)), (.var 143)])), (.fact (.sem 1 sem1 [(.tv 121)] [(.var 110)]))])], by kernel_rfl, by
  intro ρ hk ob hob hp rr hr
  have hF : ∀ g ∈ F_N22, Fact.holds ρ g := fun g hg => hk g (List.mem_append_left _ hg)
  have h0 : waits (((.tv 120) : E).tden ρ) [((((.tv 133) : E).tden ρ), (0 : Int), (((.var 143) : E).den ρ))] (((.var 110) : E).den ρ) := hF (.sem 0 sem0 [(.tv 120), (.tv 133)] [(.var 110), z, (.var 143)]) (by simp [F_N22])
  have h1 : rows (((.tv 121) : E).tden ρ) (((.var 110) : E).den ρ) := hF (.sem 1 sem1 [(.tv 121)] [(.var 110)]) (by simp [F_N22])
  have b110_100 : 0 ≤ ρ.v 110 ∧ ρ.v 110 ≤ 100 := rng_iff.1 (hF (r 110 0 100) (by simp [F_N22]))
  have b143_100 : 1 ≤ ρ.v 143 ∧ ρ.v 143 ≤ 100 := rng_iff.1 (hF (r 143 1 100) (by simp [F_N22]))
  have b112_2 : 2 ≤ ρ.v 112 ∧ ρ.v 112 ≤ 2 := rng_iff.1 (hF (r 112 2 2) (by simp [F_N22]))
  simp only [List.mem_cons, List.not_mem_nil, or_false] at hob
  rcases hob with rfl
  · simp only [List.mem_cons, List.not_mem_nil, or_false] at hr
    rcases hr with rfl | rfl
    · exact h0
    · exact h1
⟩
theorem good_l1_108_0 : GoodP rnL (cd8.take 2) (F_M30 ++ lem_l1_108) T_M30.toS (some ⟨T_M30, F_M30, [(112, none)], []⟩) [(6, ⟨T_Q, F_Q, [], []⟩)] [] := ⟨[([], [(.fact (.sem 0 sem0 [(.tv 120)] [(.var 110)])), (.fact (.sem 1 sem1 [(.tv 121)] [(.var 110)]))])], by kernel_rfl, by
  intro ρ hk ob hob hp rr hr
  have hF : ∀ g ∈ F_M30, Fact.holds ρ g := fun g hg => hk g (List.mem_append_left _ hg)
  have h0 : waits (((.tv 120) : E).tden ρ) [] (((.var 110) : E).den ρ) := hF (.sem 0 sem0 [(.tv 120)] [(.var 110)]) (by simp [F_M30])
  have h1 : rows (((.tv 121) : E).tden ρ) (((.var 110) : E).den ρ) := hF (.sem 1 sem1 [(.tv 121)] [(.var 110)]) (by simp [F_M30])
  have b110_100 : 0 ≤ ρ.v 110 ∧ ρ.v 110 ≤ 100 := rng_iff.1 (hF (r 110 0 100) (by simp [F_M30]))
  have b112_3 : 3 ≤ ρ.v 112 ∧ ρ.v 112 ≤ 3 := rng_iff.1 (hF (r 112 3 3) (by simp [F_M30]))
  simp only [List.mem_cons, List.not_mem_nil, or_false] at hob
  rcases hob with rfl
  · simp only [List.mem_cons, List.not_mem_nil, or_false] at hr
    rcases hr with rfl | rfl
    · exact h0
    · exact h1
⟩
theorem good_l1_109_0 : GoodP rnL cd9 (F_M30 ++ lem_l1_109) T_M30.toS (some ⟨T_N30, F_N30, [(112, none)], []⟩) [(7, ⟨T_N30, F_N30, [(112, none)], []⟩), (6, ⟨T_Q, F_Q, [], []⟩)] [] := ⟨[([], [(.fact (.sem 0 sem0 [(.tv 120)] [(.var 110)])), (.fact (.sem 1 sem1 [(.tv 121)] [(.var 110)]))])], by kernel_rfl, by
  intro ρ hk ob hob hp rr hr
  have hF : ∀ g ∈ F_M30, Fact.holds ρ g := fun g hg => hk g (List.mem_append_left _ hg)
  have h0 : waits (((.tv 120) : E).tden ρ) [] (((.var 110) : E).den ρ) := hF (.sem 0 sem0 [(.tv 120)] [(.var 110)]) (by simp [F_M30])
  have h1 : rows (((.tv 121) : E).tden ρ) (((.var 110) : E).den ρ) := hF (.sem 1 sem1 [(.tv 121)] [(.var 110)]) (by simp [F_M30])
  have b110_100 : 0 ≤ ρ.v 110 ∧ ρ.v 110 ≤ 100 := rng_iff.1 (hF (r 110 0 100) (by simp [F_M30]))
  have b112_3 : 3 ≤ ρ.v 112 ∧ ρ.v 112 ≤ 3 := rng_iff.1 (hF (r 112 3 3) (by simp [F_M30]))
  simp only [List.mem_cons, List.not_mem_nil, or_false] at hob
  rcases hob with rfl
  · simp only [List.mem_cons, List.not_mem_nil, or_false] at hr
    rcases hr with rfl | rfl
    · exact h0
    · exact h1
⟩
theorem good_l1_110_0 : GoodP rnL (cd8.drop 3) (F_N30 ++ lem_l1_110) T_N30.toS (some ⟨T_M00, F_M00, [(112, some 5)], fm13⟩) [(6, ⟨T_Q, F_Q, [], []⟩)] [] := ⟨[([], [(.fact (.sem 0 sem0 [(.tv 120)] [(.var 110)])), (.fact (.sem 1 sem1 [(.tv 121)] [(.var 110)]))])], by kernel_rfl, by
  intro ρ hk ob hob hp rr hr
  have hF : ∀ g ∈ F_N30, Fact.holds ρ g := fun g hg => hk g (List.mem_append_left _ hg)
  have h0 : waits (((.tv 120) : E).tden ρ) [] (((.var 110) : E).den ρ) := hF (.sem 0 sem0 [(.tv 120)] [(.var 110)]) (by simp [F_N30])
  have h1 : rows (((.tv 121) : E).tden ρ) (((.var 110) : E).den ρ) := hF (.sem 1 sem1 [(.tv 121)] [(.var 110)]) (by simp [F_N30])
  have b110_100 : 0 ≤ ρ.v 110 ∧ ρ.v 110 ≤ 100 := rng_iff.1 (hF (r 110 0 100) (by simp [F_N30]))
  have b112_3 : 3 ≤ ρ.v 112 ∧ ρ.v 112 ≤ 3 := rng_iff.1 (hF (r 112 3 3) (by simp [F_N30]))
  simp only [List.mem_cons, List.not_mem_nil, or_false] at hob
  rcases hob with rfl
  · simp only [List.mem_cons, List.not_mem_nil, or_false] at hr
    rcases hr with rfl | rfl
    · exact h0
    · exact h1
⟩
theorem good_l1_111_0 : GoodP rnL (cd8.take 2) (F_M31 ++ lem_l1_111) T_M31.toS (some ⟨T_M31, F_M31, [(112, none)], []⟩) [(6, ⟨T_Q, F_Q, [], []⟩)] [] := ⟨[([((.bin .lt (.var 110) (.var 143)), false)], [(.fact (.sem 0 sem0 [(.tv 120), (.tv 133)] [(.var 110), (.lit (.ofNat 0)), (.var 143)])), (.fact (.sem 1 sem1 [(.tv 121)] [(.var 110)]))])], by kernel_rfl, by
  intro ρ hk ob hob hp rr hr
  have hF : ∀ g ∈ F_M31, Fact.holds ρ g := fun g hg => hk g (List.mem_append_left _ hg)
  have h0 : waits (((.tv 120) : E).tden ρ) [((((.tv 133) : E).tden ρ), (0 : Int), (((.var 143) : E).den ρ))] (((.var 110) : E).den ρ) := hF (.sem 0 sem0 [(.tv 120), (.tv 133)] [(.var 110), z, (.var 143)]) (by simp [F_M31])
  have h1 : rows (((.tv 121) : E).tden ρ) (((.var 110) : E).den ρ) := hF (.sem 1 sem1 [(.tv 121)] [(.var 110)]) (by simp [F_M31])
  have b110_100 : 0 ≤ ρ.v 110 ∧ ρ.v 110 ≤ 100 := rng_iff.1 (hF (r 110 0 100) (by simp [F_M31]))
  have b143_100 : 1 ≤ ρ.v 143 ∧ ρ.v 143 ≤ 100 := rng_iff.1 (hF (r 143 1 100) (by simp [F_M31]))
  have b112_3 : 3 ≤ ρ.v 112 ∧ ρ.v 112 ≤ 3 := rng_iff.1 (hF (r 112 3 3) (by simp [F_M31]))
  simp only [List.mem_cons, List.not_mem_nil, or_false] at hob
  rcases hob with rfl
  · simp only [List.mem_cons, List.not_mem_nil, or_false] at hr
    rcases hr with rfl | rfl
    · exact h0
    · exact h1
⟩
theorem good_l1_112_0 : GoodP rnL (cd9.take 2) (F_M31 ++ lem_l1_112) T_M31.toS (some ⟨T_I31, F_I31, [(112, none)], []⟩) [(7, ⟨T_N31, F_N31, [(112, none)], []⟩), (6, ⟨T_Q, F_Q, [], []⟩)] [] := ⟨[([((.bin .lt (.var 110) (.var 143)), false)], [(.fact (.sem 0 sem0 [(.tv 120), (.tv 133)] [(.var 110), (.lit (.ofNat 0)), (.var 143)])), (.fact (.sem 1 sem1 [(.tv 121)] [(.var 110)]))])], by kernel_rfl, by
  intro ρ hk ob hob hp rr hr
  have hF : ∀ g ∈ F_M31, Fact.holds ρ g := fun g hg => hk g (List.mem_append_left _ hg)
  have h0 : waits (((.tv 120) : E).tden ρ) [((((.tv 133) : E).tden ρ), (0 : Int), (((.var 143) : E).den ρ))] (((.var 110) : E).den ρ) := hF (.sem 0 sem0 [(.tv 120), (.tv 133)] [(.var 110), z, (.var 143)]) (by simp [F_M31])
  have h1 : rows (((.tv 121) : E).tden ρ) (((.var 110) : E).den ρ) := hF (.sem 1 sem1 [(.tv 121)] [(.var 110)]) (by simp [F_M31])
  have b110_100 : 0 ≤ ρ.v 110 ∧ ρ.v 110 ≤ 100 := rng_iff.1 (hF (r 110 0 100) (by simp [F_M31]))
  have b143_100 : 1 ≤ ρ.v 143 ∧ ρ.v 143 ≤ 100 := rng_iff.1 (hF (r 143 1 100) (by simp [F_M31]))
  have b112_3 : 3 ≤ ρ.v 112 ∧ ρ.v 112 ≤ 3 := rng_iff.1 (hF (r 112 3 3) (by simp [F_M31]))
  simp only [List.mem_cons, List.not_mem_nil, or_false] at hob
  rcases hob with rfl
  · simp only [List.mem_cons, List.not_mem_nil, or_false] at hr
    rcases hr with rfl | rfl
    · exact h0
    · exact h1
⟩
theorem good_l1_113_0 : GoodP rnL cd10 (F_I31 ++ lem_l1_113) T_I31.toS (some ⟨T_I31, F_I31, [(111, some 101), (112, none)], []⟩) [(8, ⟨T_N31, F_N31, [(112, none)], []⟩), (7, ⟨T_N31, F_N31, [(112, none)], []⟩), (6, ⟨T_Q, F_Q, [], []⟩)] [] := ⟨[([((.bin .lt (.un (.wrap .i64) (.get (.tv 133) (.var 111) 0)) (.lit (.ofNat 0))), true), ((.bin .lt (.var 111) (.var 143)), true), ((.bin .lt (.var 143) (.var 111)), false), ((.bin .lt (.var 110) (.var 143)), false)], [(.done (.lit (.ofNat 0)))]),
  ([((.bin .lt (.un (.wrap .i64) (.get (.tv 133) (.var 111) 0)) (.lit (.ofNat 100))), false), ((.bin .lt (.un (.wrap .i64) (.get (.tv 133) (.var 111) 0)) (.lit (.ofNat 0))), false), ((.bin .lt (.var 111) (.var 143)), true), ((.bin .lt (.var 143) (.var 111)), false), ((.bin .lt (.var 110) (.var 143)), false)], [(.done (.lit (.ofNat 0)))]),
  ([((.bin .lt (.un (.wrap .i64) (.get (.tv 133) (.var 111) 0)) (.lit (.ofNat 100))), true), ((.bin .lt (.un (.wrap .i64) (.get (.tv 133) (.var 111) 0)) (.lit (.ofNat 0))), false), ((.bin .lt (.var 111) (.var 143)), true), ((.bin .lt (.var 143) (.var 111)), false), ((.bin .lt (.var 110) (.var 143)), false)], [(.fact (.sem 0 sem0 [(.upd (.tv 120) (.un (.wrap .i64) (.get (.tv 133) (.var 111) 0)) 0 (.bin (.add .i64) (.un (.wrap .i64) (.get (.tv 120) (.un (.wrap .i64) (.get (.tv 133) (.var 111) 0)) 0)) (.lit (.ofNat 1)))), (.tv 133)] [(.var 110), (.bin (.add .i64) (.var 111) (.lit (.ofNat 1))), (.var 143)])), (.fact (.sem 1 sem1 [(.tv 121)] [(.var 110)]))]),
  ([((.bin .lt (.var 111) (.var 143)), false), ((.bin .lt (.var 143) (.var 111)), false), ((.bin .lt (.var 110) (.var 143)), false)], [(.fact (.sem 0 sem0 [(.tv 120)] [(.var 110)])), (.fact (.sem 1 sem1 [(.tv 121)] [(.var 110)]))])], by kernel_rfl, by
  intro ρ hk ob hob hp rr hr
  have hF : ∀ g ∈ F_I31, Fact.holds ρ g := fun g hg => hk g (List.mem_append_left _ hg)
  have h0 : waits (((.tv 120) : E).tden ρ) [((((.tv 133) : E).tden ρ), (((.var 111) : E).den ρ), (((.var 143) : E).den ρ))] (((.var 110) : E).den ρ) := hF (.sem 0 sem0 [(.tv 120), (.tv 133)] [(.var 110), (.var 111), (.var 143)]) (by simp [F_I31])
  have h1 : rows (((.tv 121) : E).tden ρ) (((.var 110) : E).den ρ) := hF (.sem 1 sem1 [(.tv 121)] [(.var 110)]) (by simp [F_I31])
  have b110_100 : 0 ≤ ρ.v 110 ∧ ρ.v 110 ≤ 100 := rng_iff.1 (hF (r 110 0 100) (by simp [F_I31]))
  have b143_100 : 1 ≤ ρ.v 143 ∧ ρ.v 143 ≤ 100 := rng_iff.1 (hF (r 143 1 100) (by simp [F_I31]))
  have b112_3 : 3 ≤ ρ.v 112 ∧ ρ.v 112 ≤ 3 := rng_iff.1 (hF (r 112 3 3) (by simp [F_I31]))
  have b111_100 : 0 ≤ ρ.v 111 ∧ ρ.v 111 ≤ 100 := rng_iff.1 (hF (r 111 0 100) (by simp [F_I31]))
  simp only [List.mem_cons, List.not_mem_nil, or_false] at hob
  rcases hob with rfl | rfl | rfl | rfl
  · simp only [List.mem_cons, List.not_mem_nil, or_false] at hr
    have t0 := lt_iff.1 (hp ((.bin .lt (.un (.wrap .i64) (.get (.tv 133) (.var 111) 0)) (.lit (.ofNat 0))), true) (by simp))
    simp only [E.den, UO.den, iff_true, Int.ofNat_eq_natCast] at t0
    have t1 := lt_iff.1 (hp ((.bin .lt (.var 111) (.var 143)), true) (by simp))
    simp only [E.den, UO.den, iff_true, Int.ofNat_eq_natCast] at t1
    have t2 := lt_iff.1 (hp ((.bin .lt (.var 143) (.var 111)), false) (by simp))
    simp only [E.den, UO.den, Bool.false_eq_true, iff_false, Int.ofNat_eq_natCast] at t2
    rcases hr with rfl
    · exfalso
      have h3 := h0.2.2 _ (List.mem_cons_self ..) (ρ.v 111) (Int.le_refl _) (by simp only [E.den]; omega)
      simp only [rd, E.den, E.tden] at h3
      simp only [E.tden] at t0
      omega
  · simp only [List.mem_cons, List.not_mem_nil, or_false] at hr
    have t0 := lt_iff.1 (hp ((.bin .lt (.un (.wrap .i64) (.get (.tv 133) (.var 111) 0)) (.lit (.ofNat 100))), false) (by simp))
    simp only [E.den, UO.den, Bool.false_eq_true, iff_false, Int.ofNat_eq_natCast] at t0
    have t1 := lt_iff.1 (hp ((.bin .lt (.un (.wrap .i64) (.get (.tv 133) (.var 111) 0)) (.lit (.ofNat 0))), false) (by simp))
    simp only [E.den, UO.den, Bool.false_eq_true, iff_false, Int.ofNat_eq_natCast] at t1
    have t2 := lt_iff.1 (hp ((.bin .lt (.var 111) (.var 143)), true) (by simp))
    simp only [E.den, UO.den, iff_true, Int.ofNat_eq_natCast] at t2
    have t3 := lt_iff.1 (hp ((.bin .lt (.var 143) (.var 111)), false) (by simp))
    simp only [E.den, UO.den, Bool.false_eq_true, iff_false, Int.ofNat_eq_natCast] at t3
    rcases hr with rfl
    · exfalso
      have h3 := h0.2.2 _ (List.mem_cons_self ..) (ρ.v 111) (Int.le_refl _) (by simp only [E.den]; omega)
      simp only [rd, E.den, E.tden] at h3
      simp only [E.tden] at t0
      omega
  · simp only [List.mem_cons, List.not_mem_nil, or_false] at hr
    have t0 := lt_iff.1 (hp ((.bin .lt (.un (.wrap .i64) (.get (.tv 133) (.var 111) 0)) (.lit (.ofNat 100))), true) (by simp))
    simp only [E.den, UO.den, iff_true, Int.ofNat_eq_natCast] at t0
    have t1 := lt_iff.1 (hp ((.bin .lt (.un (.wrap .i64) (.get (.tv 133) (.var 111) 0)) (.lit (.ofNat 0))), false) (by simp))
    simp only [E.den, UO.den, Bool.false_eq_true, iff_false, Int.ofNat_eq_natCast] at t1
    have t2 := lt_iff.1 (hp ((.bin .lt (.var 111) (.var 143)), true) (by simp))
    simp only [E.den, UO.den, iff_true, Int.ofNat_eq_natCast] at t2
    have t3 := lt_iff.1 (hp ((.bin .lt (.var 143) (.var 111)), false) (by simp))
    simp only [E.den, UO.den, Bool.false_eq_true, iff_false, Int.ofNat_eq_natCast] at t3
    rcases hr with rfl | rfl
    · show waits (((.upd (.tv 120) (.un (.wrap .i64) (.get (.tv 133) (.var 111) 0)) 0 (.bin (.add .i64) (.un (.wrap .i64) (.get (.tv 120) (.un (.wrap .i64) (.get (.tv 133) (.var 111) 0)) 0)) (.lit (.ofNat 1)))) : E).tden ρ) [((((.tv 133) : E).tden ρ), (((.bin (.add .i64) (.var 111) (.lit (.ofNat 1))) : E).den ρ), (((.var 143) : E).den ρ))] (((.var 110) : E).den ρ)
      exact waits_step h0 (by simp only [E.den]; omega) (by simp only [E.den, BO.den]; exact add_i64 (by omega) (by omega)) (by simp only [E.den]; omega) (fun r => by simp only [E.tden, E.den, BO.den, UO.den, rd, and_true]; rfl)
    · exact h1
  · simp only [List.mem_cons, List.not_mem_nil, or_false] at hr
    have t0 := lt_iff.1 (hp ((.bin .lt (.var 111) (.var 143)), false) (by simp))
    simp only [E.den, UO.den, Bool.false_eq_true, iff_false, Int.ofNat_eq_natCast] at t0
    have t1 := lt_iff.1 (hp ((.bin .lt (.var 143) (.var 111)), false) (by simp))
    simp only [E.den, UO.den, Bool.false_eq_true, iff_false, Int.ofNat_eq_natCast] at t1
    rcases hr with rfl | rfl
    · exact waits_drop h0 (by simp only [E.den]; omega)
    · exact h1
⟩
theorem good_l1_114_0 : GoodP rnL (cd8.drop 3) (F_N31 ++ lem_l1_114) T_N31.toS (some ⟨T_M00, F_M00, [(112, some 5)], fm13⟩) [(6, ⟨T_Q, F_Q, [], []⟩)] [] := ⟨[([], [(.fact (.sem 0 sem0 [(.tv 120)] [(.var 110)])), (.fact (.sem 1 sem1 [(.tv 121)] [(.var 110)]))])], by kernel_rfl, by
  intro ρ hk ob hob hp rr hr
  have hF : ∀ g ∈ F_N31, Fact.holds ρ g := fun g hg => hk g (List.mem_append_left _ hg)
  have h0 : waits (((.tv 120) : E).tden ρ) [] (((.var 110) : E).den ρ) := hF (.sem 0 sem0 [(.tv 120)] [(.var 110)]) (by simp [F_N31])
  have h1 : rows (((.tv 121) : E).tden ρ) (((.var 110) : E).den ρ) := hF (.sem 1 sem1 [(.tv 121)] [(.var 110)]) (by simp [F_N31])
  have b110_100 : 0 ≤ ρ.v 110 ∧ ρ.v 110 ≤ 100 := rng_iff.1 (hF (r 110 0 100) (by simp [F_N31]))
  have b112_3 : 3 ≤ ρ.v 112 ∧ ρ.v 112 ≤ 3 := rng_iff.1 (hF (r 112 3 3) (by simp [F_N31]))
  simp only [List.mem_cons, List.not_mem_nil, or_false] at hob
  rcases hob with rfl
  · simp only [List.mem_cons, List.not_mem_nil, or_false] at hr
    rcases hr with rfl | rfl
    · exact h0
    · exact h1
⟩
theorem good_l1_115_0 : GoodP rnL cd8 (F_M40 ++ lem_l1_115) T_M40.toS (some ⟨T_M00, F_M00, [(112, some 5)], fm13⟩) [(6, ⟨T_Q, F_Q, [], []⟩)] [] := ⟨[([], [(.fact (.sem 0 sem0 [(.tv 120)] [(.var 110)])), (.fact (.sem 1 sem1 [(.tv 121)] [(.var 110)]))])], by kernel_rfl, by
  intro ρ hk ob hob hp rr hr
  have hF : ∀ g ∈ F_M40, Fact.holds ρ g := fun g hg => hk g (List.mem_append_left _ hg)
  have h0 : waits (((.tv 120) : E).tden ρ) [] (((.var 110) : E).den ρ) := hF (.sem 0 sem0 [(.tv 120)] [(.var 110)]) (by simp [F_M40])
  have h1 : rows (((.tv 121) : E).tden ρ) (((.var 110) : E).den ρ) := hF (.sem 1 sem1 [(.tv 121)] [(.var 110)]) (by simp [F_M40])
  have b110_100 : 0 ≤ ρ.v 110 ∧ ρ.v 110 ≤ 100 := rng_iff.1 (hF (r 110 0 100) (by simp [F_M40]))
  have b112_4 : 4 ≤ ρ.v 112 ∧ ρ.v 112 ≤ 4 := rng_iff.1 (hF (r 112 4 4) (by simp [F_M40]))
  simp only [List.mem_cons, List.not_mem_nil, or_false] at hob
  rcases hob with rfl
  · simp only [List.mem_cons, List.not_mem_nil, or_false] at hr
    rcases hr with rfl | rfl
    · exact h0
    · exact h1
⟩
theorem good_l1_116_0 : GoodP rnL (((cd0.drop 8).drop 2).take 1) (F_Q ++ lem_l1_116) T_Q.toS (some ⟨T_R, F_R, [], []⟩) [] [] := ⟨[([], [(.fact (.sem 0 sem0 [(.tv 120)] [(.var 110)])), (.fact (.sem 1 sem1 [(.tv 121)] [(.var 110)]))])], by kernel_rfl, by
  intro ρ hk ob hob hp rr hr
  have hF : ∀ g ∈ F_Q, Fact.holds ρ g := fun g hg => hk g (List.mem_append_left _ hg)
  have h0 : waits (((.tv 120) : E).tden ρ) [] (((.var 110) : E).den ρ) := hF (.sem 0 sem0 [(.tv 120)] [(.var 110)]) (by simp [F_Q])
  have h1 : rows (((.tv 121) : E).tden ρ) (((.var 110) : E).den ρ) := hF (.sem 1 sem1 [(.tv 121)] [(.var 110)]) (by simp [F_Q])
  have b110_100 : 0 ≤ ρ.v 110 ∧ ρ.v 110 ≤ 100 := rng_iff.1 (hF (r 110 0 100) (by simp [F_Q]))
  simp only [List.mem_cons, List.not_mem_nil, or_false] at hob
  rcases hob with rfl
  · simp only [List.mem_cons, List.not_mem_nil, or_false] at hr
    rcases hr with rfl | rfl
    · exact h0
    · exact h1
⟩
theorem good_l1_117_0 : GoodP rnL cd11 (F_R ++ lem_l1_117) T_R.toS (some ⟨T_R, F_R, [(113, some 101)], []⟩) [(10, ⟨T_S, F_S, [], []⟩)] [] := ⟨[([((.bin .eq (.un (.wrap .i64) (.get (.tv 120) (.get (.tv 121) (.var 113) 0) 0)) (.lit (.ofNat 1))), false), ((.bin .lt (.var 113) (.var 110)), true)], [(.done (.lit (.ofNat 0)))]),
  ([((.bin .eq (.un (.wrap .i64) (.get (.tv 120) (.get (.tv 121) (.var 113) 0) 0)) (.lit (.ofNat 1))), true), ((.bin .lt (.var 113) (.var 110)), true)], [(.fact (.sem 0 sem0 [(.tv 120)] [(.var 110)])), (.fact (.sem 1 sem1 [(.tv 121)] [(.var 110)]))])], by kernel_rfl, by
  intro ρ hk ob hob hp rr hr
  have hF : ∀ g ∈ F_R, Fact.holds ρ g := fun g hg => hk g (List.mem_append_left _ hg)
  have h0 : waits (((.tv 120) : E).tden ρ) [] (((.var 110) : E).den ρ) := hF (.sem 0 sem0 [(.tv 120)] [(.var 110)]) (by simp [F_R])
  have h1 : rows (((.tv 121) : E).tden ρ) (((.var 110) : E).den ρ) := hF (.sem 1 sem1 [(.tv 121)] [(.var 110)]) (by simp [F_R])
  have b110_100 : 0 ≤ ρ.v 110 ∧ ρ.v 110 ≤ 100 := rng_iff.1 (hF (r 110 0 100) (by simp [F_R]))
  have b113_100 : 0 ≤ ρ.v 113 ∧ ρ.v 113 ≤ 100 := rng_iff.1 (hF (r 113 0 100) (by simp [F_R]))
  simp only [List.mem_cons, List.not_mem_nil, or_false] at hob
  rcases hob with rfl | rfl
  · simp only [List.mem_cons, List.not_mem_nil, or_false] at hr
    have t0 := eq_iff.1 (hp ((.bin .eq (.un (.wrap .i64) (.get (.tv 120) (.get (.tv 121) (.var 113) 0) 0)) (.lit (.ofNat 1))), false) (by simp))
    simp only [E.den, E.tden, UO.den, Bool.false_eq_true, iff_false, Int.ofNat_eq_natCast] at t0
    have t1 := lt_iff.1 (hp ((.bin .lt (.var 113) (.var 110)), true) (by simp))
    simp only [E.den, UO.den, iff_true, Int.ofNat_eq_natCast] at t1
    rcases hr with rfl
    · exfalso
      have h2 := (h1 (ρ.v 113)).2 (by omega) (by simp only [E.den]; omega)
      have h3 := h0.1 (ρ.v 113) (by omega) (by simp only [E.den]; omega)
      simp only [cnts, rd, E.tden] at h2 h3
      rw [h2] at t0
      simp only [Int.add_zero] at h3
      exact t0 h3
  · simp only [List.mem_cons, List.not_mem_nil, or_false] at hr
    have t0 := eq_iff.1 (hp ((.bin .eq (.un (.wrap .i64) (.get (.tv 120) (.get (.tv 121) (.var 113) 0) 0)) (.lit (.ofNat 1))), true) (by simp))
    simp only [E.den, E.tden, UO.den, iff_true, Int.ofNat_eq_natCast] at t0
    have t1 := lt_iff.1 (hp ((.bin .lt (.var 113) (.var 110)), true) (by simp))
    simp only [E.den, UO.den, iff_true, Int.ofNat_eq_natCast] at t1
    rcases hr with rfl | rfl
    · exact h0
    · exact h1
⟩
theorem good_l1_118_0 : GoodP rnL (((cd0.drop 8).drop 2).drop 2) (F_S ++ lem_l1_118) T_S.toS none [] [] := ⟨[], by kernel_rfl, fun ρ _ ob h => absurd h List.not_mem_nil⟩
end Go.Proofs.Ytdicippbniglpaa.mshrWaits
