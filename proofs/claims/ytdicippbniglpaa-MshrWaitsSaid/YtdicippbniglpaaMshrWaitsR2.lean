/-
  'MshrWaits': runs of its parts, checked by the kernel. Printed by program.
-/
import Derived.Test.YtdicippbniglpaaMshrWaitsL
namespace Go.Proofs.Ytdicippbniglpaa.mshrWaits
open Go.ChangeShapes Go.WideShapes Go.ChangeAt Go.RowKit Go.Sx
set_option linter.unusedVariables false
set_option linter.unusedSimpArgs false
set_option maxRecDepth 100000
set_option maxHeartbeats 1600000
theorem good_l1_50_0 : GoodP rnL cd7 (F_J3 ++ lem_l1_50) T_J3.toS (some ⟨T_J3, F_J3, [(111, some 101), (112, none), (110, none)], []⟩) [(4, ⟨T_Kn3, F_Kn3, [(112, none), (110, none)], []⟩), (3, ⟨T_Kn3, F_Kn3, [(112, none), (110, none)], []⟩), (2, ⟨T_L, F_L, [(110, none)], []⟩), (1, ⟨T_C1, F_C1, [(110, none)], fm8⟩), (0, ⟨T_E0, F_E0, [], fm1⟩)] [] := ⟨[([((.bin .lt (.un (.wrap .i64) (.get (.tv 133) (.var 111) 0)) (.lit (.ofNat 0))), true), ((.bin .lt (.var 111) (.var 143)), true), ((.bin .lt (.var 143) (.var 111)), false), ((.bin .lt (.var 110) (.var 0)), true), ((.bin .lt (.var 110) (.var 143)), false)], [(.done (.lit (.ofNat 0)))]),
  ([((.bin .lt (.un (.wrap .i64) (.get (.tv 133) (.var 111) 0)) (.lit (.ofNat 100))), false), ((.bin .lt (.un (.wrap .i64) (.get (.tv 133) (.var 111) 0)) (.lit (.ofNat 0))), false), ((.bin .lt (.var 111) (.var 143)), true), ((.bin .lt (.var 143) (.var 111)), false), ((.bin .lt (.var 110) (.var 0)), true), ((.bin .lt (.var 110) (.var 143)), false)], [(.done (.lit (.ofNat 0)))]),
  ([((.bin .lt (.un (.wrap .i64) (.get (.tv 133) (.var 111) 0)) (.lit (.ofNat 100))), true), ((.bin .lt (.un (.wrap .i64) (.get (.tv 133) (.var 111) 0)) (.lit (.ofNat 0))), false), ((.bin .lt (.var 111) (.var 143)), true), ((.bin .lt (.var 143) (.var 111)), false), ((.bin .lt (.var 110) (.var 0)), true), ((.bin .lt (.var 110) (.var 143)), false)], [(.fact (.sem 0 sem0 [(.upd (.tv 120) (.un (.wrap .i64) (.get (.tv 133) (.var 111) 0)) 0 (.bin (.add .i64) (.un (.wrap .i64) (.get (.tv 120) (.un (.wrap .i64) (.get (.tv 133) (.var 111) 0)) 0)) (.lit (.ofNat 1)))), (.tv 133)] [(.var 110), (.bin (.add .i64) (.var 111) (.lit (.ofNat 1))), (.var 143)])), (.fact (.sem 1 sem1 [(.tv 121)] [(.var 110)]))]),
  ([((.bin .lt (.var 111) (.var 143)), false), ((.bin .lt (.var 143) (.var 111)), false), ((.bin .lt (.var 110) (.var 0)), true), ((.bin .lt (.var 110) (.var 143)), false)], [(.fact (.sem 0 sem0 [(.tv 120)] [(.var 110)])), (.fact (.sem 1 sem1 [(.tv 121)] [(.var 110)]))])], by kernel_rfl, by
  intro ρ hk ob hob hp rr hr
  have hF : ∀ g ∈ F_J3, Fact.holds ρ g := fun g hg => hk g (List.mem_append_left _ hg)
  have h0 : waits (((.tv 120) : E).tden ρ) [((((.tv 133) : E).tden ρ), (((.var 111) : E).den ρ), (((.var 143) : E).den ρ))] (((.var 110) : E).den ρ) := hF (.sem 0 sem0 [(.tv 120), (.tv 133)] [(.var 110), (.var 111), (.var 143)]) (by simp [F_J3])
  have h1 : rows (((.tv 121) : E).tden ρ) (((.var 110) : E).den ρ) := hF (.sem 1 sem1 [(.tv 121)] [(.var 110)]) (by simp [F_J3])
  have b110_100 : 0 ≤ ρ.v 110 ∧ ρ.v 110 ≤ 100 := rng_iff.1 (hF (r 110 0 100) (by simp [F_J3]))
  have b143_100 : 1 ≤ ρ.v 143 ∧ ρ.v 143 ≤ 100 := rng_iff.1 (hF (r 143 1 100) (by simp [F_J3]))
  have b110_99 : 0 ≤ ρ.v 110 ∧ ρ.v 110 ≤ 99 := rng_iff.1 (hF (r 110 0 99) (by simp [F_J3]))
  have b112_3 : 3 ≤ ρ.v 112 ∧ ρ.v 112 ≤ 3 := rng_iff.1 (hF (r 112 3 3) (by simp [F_J3]))
  have b111_100 : 0 ≤ ρ.v 111 ∧ ρ.v 111 ≤ 100 := rng_iff.1 (hF (r 111 0 100) (by simp [F_J3]))
  simp only [List.mem_cons, List.not_mem_nil, or_false] at hob
  rcases hob with rfl | rfl | rfl | rfl
  · simp only [List.mem_cons, List.not_mem_nil, or_false] at hr
    have t0 := lt_iff.1 (hp ((.bin .lt (.un (.wrap .i64) (.get (.tv 133) (.var 111) 0)) (.lit (.ofNat 0))), true) (by simp))
    simp only [E.den, UO.den, iff_true, Int.ofNat_eq_natCast] at t0
    have t1 := lt_iff.1 (hp ((.bin .lt (.var 111) (.var 143)), true) (by simp))
    simp only [E.den, UO.den, iff_true, Int.ofNat_eq_natCast] at t1
    have t2 := lt_iff.1 (hp ((.bin .lt (.var 143) (.var 111)), false) (by simp))
    simp only [E.den, UO.den, Bool.false_eq_true, iff_false, Int.ofNat_eq_natCast] at t2
    rcases hr with rfl
    · exfalso
      have h3 := h0.2.2 _ (List.mem_cons_self ..) (ρ.v 111) (Int.le_refl _) (by simp only [E.den]; omega)
      simp only [rd, E.den, E.tden] at h3
      simp only [E.tden] at t0
      omega
  · simp only [List.mem_cons, List.not_mem_nil, or_false] at hr
    have t0 := lt_iff.1 (hp ((.bin .lt (.un (.wrap .i64) (.get (.tv 133) (.var 111) 0)) (.lit (.ofNat 100))), false) (by simp))
    simp only [E.den, UO.den, Bool.false_eq_true, iff_false, Int.ofNat_eq_natCast] at t0
    have t1 := lt_iff.1 (hp ((.bin .lt (.un (.wrap .i64) (.get (.tv 133) (.var 111) 0)) (.lit (.ofNat 0))), false) (by simp))
    simp only [E.den, UO.den, Bool.false_eq_true, iff_false, Int.ofNat_eq_natCast] at t1
    have t2 := lt_iff.1 (hp ((.bin .lt (.var 111) (.var 143)), true) (by simp))
    simp only [E.den, UO.den, iff_true, Int.ofNat_eq_natCast] at t2
    have t3 := lt_iff.1 (hp ((.bin .lt (.var 143) (.var 111)), false) (by simp))
    simp only [E.den, UO.den, Bool.false_eq_true, iff_false, Int.ofNat_eq_natCast] at t3
    rcases hr with rfl
    · exfalso
      have h3 := h0.2.2 _ (List.mem_cons_self ..) (ρ.v 111) (Int.le_refl _) (by simp only [E.den]; omega)
      simp only [rd, E.den, E.tden] at h3
      simp only [E.tden] at t0
      omega
  · simp only [List.mem_cons, List.not_mem_nil, or_false] at hr
    have t0 := lt_iff.1 (hp ((.bin .lt (.un (.wrap .i64) (.get (.tv 133) (.var 111) 0)) (.lit (.ofNat 100))), true) (by simp))
    simp only [E.den, UO.den, iff_true, Int.ofNat_eq_natCast] at t0
    have t1 := lt_iff.1 (hp ((.bin .lt (.un (.wrap .i64) (.get (.tv 133) (.var 111) 0)) (.lit (.ofNat 0))), false) (by simp))
    simp only [E.den, UO.den, Bool.false_eq_true, iff_false, Int.ofNat_eq_natCast] at t1
    have t2 := lt_iff.1 (hp ((.bin .lt (.var 111) (.var 143)), true) (by simp))
    simp only [E.den, UO.den, iff_true, Int.ofNat_eq_natCast] at t2
    have t3 := lt_iff.1 (hp ((.bin .lt (.var 143) (.var 111)), false) (by simp))
    simp only [E.den, UO.den, Bool.false_eq_true, iff_false, Int.ofNat_eq_natCast] at t3
    rcases hr with rfl | rfl
    · show waits (((.upd (.tv 120) (.un (.wrap .i64) (.get (.tv 133) (.var 111) 0)) 0 (.bin (.add .i64) (.un (.wrap .i64) (.get (.tv 120) (.un (.wrap .i64) (.get (.tv 133) (.var 111) 0)) 0)) (.lit (.ofNat 1)))) : E).tden ρ) [((((.tv 133) : E).tden ρ), (((.bin (.add .i64) (.var 111) (.lit (.ofNat 1))) : E).den ρ), (((.var 143) : E).den ρ))] (((.var 110) : E).den ρ)
      exact waits_step h0 (by simp only [E.den]; omega) (by simp only [E.den, BO.den]; exact add_i64 (by omega) (by omega)) (by simp only [E.den]; omega) (fun r => by simp only [E.tden, E.den, BO.den, UO.den, rd, and_true]; rfl)
    · exact h1
  · simp only [List.mem_cons, List.not_mem_nil, or_false] at hr
    have t0 := lt_iff.1 (hp ((.bin .lt (.var 111) (.var 143)), false) (by simp))
    simp only [E.den, UO.den, Bool.false_eq_true, iff_false, Int.ofNat_eq_natCast] at t0
    have t1 := lt_iff.1 (hp ((.bin .lt (.var 143) (.var 111)), false) (by simp))
    simp only [E.den, UO.den, Bool.false_eq_true, iff_false, Int.ofNat_eq_natCast] at t1
    rcases hr with rfl | rfl
    · exact waits_drop h0 (by simp only [E.den]; omega)
    · exact h1
⟩
theorem good_l1_51_0 : GoodP rnL (cd5.drop 3) (F_Kn3 ++ lem_l1_51) T_Kn3.toS (some ⟨T_K0, F_K0, [(112, some 5), (110, none)], fm12⟩) [(2, ⟨T_L, F_L, [(110, none)], []⟩), (1, ⟨T_C1, F_C1, [(110, none)], fm8⟩), (0, ⟨T_E0, F_E0, [], fm1⟩)] [] := ⟨[([((.bin .lt (.var 110) (.var 0)), true)], [(.fact (.sem 0 sem0 [(.tv 120)] [(.var 110)])), (.fact (.sem 1 sem1 [(.tv 121)] [(.var 110)]))])], by kernel_rfl, by
  intro ρ hk ob hob hp rr hr
  have hF : ∀ g ∈ F_Kn3, Fact.holds ρ g := fun g hg => hk g (List.mem_append_left _ hg)
  have h0 : waits (((.tv 120) : E).tden ρ) [] (((.var 110) : E).den ρ) := hF (.sem 0 sem0 [(.tv 120)] [(.var 110)]) (by simp [F_Kn3])
  have h1 : rows (((.tv 121) : E).tden ρ) (((.var 110) : E).den ρ) := hF (.sem 1 sem1 [(.tv 121)] [(.var 110)]) (by simp [F_Kn3])
  have b110_100 : 0 ≤ ρ.v 110 ∧ ρ.v 110 ≤ 100 := rng_iff.1 (hF (r 110 0 100) (by simp [F_Kn3]))
  have b110_99 : 0 ≤ ρ.v 110 ∧ ρ.v 110 ≤ 99 := rng_iff.1 (hF (r 110 0 99) (by simp [F_Kn3]))
  have b112_3 : 3 ≤ ρ.v 112 ∧ ρ.v 112 ≤ 3 := rng_iff.1 (hF (r 112 3 3) (by simp [F_Kn3]))
  simp only [List.mem_cons, List.not_mem_nil, or_false] at hob
  rcases hob with rfl
  · simp only [List.mem_cons, List.not_mem_nil, or_false] at hr
    rcases hr with rfl | rfl
    · exact h0
    · exact h1
⟩
theorem good_l1_52_0 : GoodP rnL cd5 (F_K4 ++ lem_l1_52) T_K4.toS (some ⟨T_K0, F_K0, [(112, some 5), (110, none)], fm12⟩) [(2, ⟨T_L, F_L, [(110, none)], []⟩), (1, ⟨T_C1, F_C1, [(110, none)], fm8⟩), (0, ⟨T_E0, F_E0, [], fm1⟩)] [] := ⟨[([((.bin .lt (.var 110) (.var 0)), true)], [(.fact (.sem 0 sem0 [(.tv 120)] [(.var 110)])), (.fact (.sem 1 sem1 [(.tv 121)] [(.var 110)]))])], by kernel_rfl, by
  intro ρ hk ob hob hp rr hr
  have hF : ∀ g ∈ F_K4, Fact.holds ρ g := fun g hg => hk g (List.mem_append_left _ hg)
  have h0 : waits (((.tv 120) : E).tden ρ) [] (((.var 110) : E).den ρ) := hF (.sem 0 sem0 [(.tv 120)] [(.var 110)]) (by simp [F_K4])
  have h1 : rows (((.tv 121) : E).tden ρ) (((.var 110) : E).den ρ) := hF (.sem 1 sem1 [(.tv 121)] [(.var 110)]) (by simp [F_K4])
  have b110_100 : 0 ≤ ρ.v 110 ∧ ρ.v 110 ≤ 100 := rng_iff.1 (hF (r 110 0 100) (by simp [F_K4]))
  have b110_99 : 0 ≤ ρ.v 110 ∧ ρ.v 110 ≤ 99 := rng_iff.1 (hF (r 110 0 99) (by simp [F_K4]))
  have b112_4 : 4 ≤ ρ.v 112 ∧ ρ.v 112 ≤ 4 := rng_iff.1 (hF (r 112 4 4) (by simp [F_K4]))
  simp only [List.mem_cons, List.not_mem_nil, or_false] at hob
  rcases hob with rfl
  · simp only [List.mem_cons, List.not_mem_nil, or_false] at hr
    rcases hr with rfl | rfl
    · exact h0
    · exact h1
⟩
theorem good_l1_53_0 : GoodP rnL (cd4.drop 2) (F_L ++ lem_l1_53) T_L.toS (some ⟨T_G1, F_G1, [(110, none)], fm10⟩) [(1, ⟨T_C1, F_C1, [(110, none)], fm8⟩), (0, ⟨T_E0, F_E0, [], fm1⟩)] [] := ⟨[([((.bin .lt (.var 110) (.var 0)), true)], [(.fact (.sem 0 sem0 [(.tv 120), (.upd (.tv 0) (.lit (.ofNat 0)) 0 (.var 110))] [(.bin (.add .i64) (.var 110) (.lit (.ofNat 1))), (.lit (.ofNat 0)), (.lit (.ofNat 1))])), (.fact (.sem 1 sem1 [(.tv 121)] [(.var 110)]))])], by kernel_rfl, by
  intro ρ hk ob hob hp rr hr
  have hF : ∀ g ∈ F_L, Fact.holds ρ g := fun g hg => hk g (List.mem_append_left _ hg)
  have h0 : waits (((.tv 120) : E).tden ρ) [] (((.var 110) : E).den ρ) := hF (.sem 0 sem0 [(.tv 120)] [(.var 110)]) (by simp [F_L])
  have h1 : rows (((.tv 121) : E).tden ρ) (((.var 110) : E).den ρ) := hF (.sem 1 sem1 [(.tv 121)] [(.var 110)]) (by simp [F_L])
  have b110_100 : 0 ≤ ρ.v 110 ∧ ρ.v 110 ≤ 100 := rng_iff.1 (hF (r 110 0 100) (by simp [F_L]))
  have b110_99 : 0 ≤ ρ.v 110 ∧ ρ.v 110 ≤ 99 := rng_iff.1 (hF (r 110 0 99) (by simp [F_L]))
  simp only [List.mem_cons, List.not_mem_nil, or_false] at hob
  rcases hob with rfl
  · simp only [List.mem_cons, List.not_mem_nil, or_false] at hr
    rcases hr with rfl | rfl
    · show waits (((.tv 120) : E).tden ρ) ([] ++ [((((.upd (.tv 0) (.lit (.ofNat 0)) 0 (.var 110)) : E).tden ρ), (0 : Int), (((.lit (.ofNat 1)) : E).den ρ))]) (((.bin (.add .i64) (.var 110) (.lit (.ofNat 1))) : E).den ρ)
      exact waits_new h0 (by simp only [E.den]; omega) (by simp only [E.den]; omega) (by simp only [E.den, BO.den]; exact add_i64 (by omega) (by omega)) rfl (by simp [E.tden, E.den])
    · exact h1
⟩
theorem good_l1_54_0 : GoodP rnL (cd2.drop 3) (F_G1 ++ lem_l1_54) T_G1.toS (some ⟨T_C1, F_C1, [(110, none)], fm8⟩) [(1, ⟨T_C1, F_C1, [(110, none)], fm8⟩), (0, ⟨T_E0, F_E0, [], fm1⟩)] [] := ⟨[([((.bin .lt (.var 110) (.var 0)), true), ((.bin .lt (.bin (.add .i64) (.var 110) (.lit (.ofNat 1))) (.var 140)), false)], [(.fact (.sem 0 sem0 [(.tv 120), (.tv 130)] [(.bin (.add .i64) (.var 110) (.lit (.ofNat 1))), (.lit (.ofNat 0)), (.var 140)])), (.fact (.sem 1 sem1 [(.upd (.tv 121) (.var 110) 0 (.var 110))] [(.bin (.add .i64) (.var 110) (.lit (.ofNat 1)))]))])], by kernel_rfl, by
  intro ρ hk ob hob hp rr hr
  have hF : ∀ g ∈ F_G1, Fact.holds ρ g := fun g hg => hk g (List.mem_append_left _ hg)
  have h0 : waits (((.tv 120) : E).tden ρ) [((((.tv 130) : E).tden ρ), (0 : Int), (((.var 140) : E).den ρ))] (((.bin (.add .i64) (.var 110) (.lit (.ofNat 1))) : E).den ρ) := hF (.sem 0 sem0 [(.tv 120), (.tv 130)] [(.bin (.add .i64) (.var 110) (.lit (.ofNat 1))), z, (.var 140)]) (by simp [F_G1])
  have h1 : rows (((.tv 121) : E).tden ρ) (((.var 110) : E).den ρ) := hF (.sem 1 sem1 [(.tv 121)] [(.var 110)]) (by simp [F_G1])
  have b110_100 : 0 ≤ ρ.v 110 ∧ ρ.v 110 ≤ 100 := rng_iff.1 (hF (r 110 0 100) (by simp [F_G1]))
  have b140_100 : 1 ≤ ρ.v 140 ∧ ρ.v 140 ≤ 100 := rng_iff.1 (hF (r 140 1 100) (by simp [F_G1]))
  have b110_99 : 0 ≤ ρ.v 110 ∧ ρ.v 110 ≤ 99 := rng_iff.1 (hF (r 110 0 99) (by simp [F_G1]))
  simp only [List.mem_cons, List.not_mem_nil, or_false] at hob
  rcases hob with rfl
  · simp only [List.mem_cons, List.not_mem_nil, or_false] at hr
    rcases hr with rfl | rfl
    · exact h0
    · exact rows_app h1 (by simp only [E.den]; omega) (by simp only [E.den]; omega) (by simp only [E.den, BO.den]; exact add_i64 (by omega) (by omega)) (fun r => by simp only [E.tden, E.den, and_true]; rfl)
⟩
theorem good_l1_55_0 : GoodP rnL (cd2.drop 3) (F_G4 ++ lem_l1_55) T_G4.toS (some ⟨T_C1, F_C1, [(110, none)], fm8⟩) [(1, ⟨T_C1, F_C1, [(110, none)], fm8⟩), (0, ⟨T_E0, F_E0, [], fm1⟩)] [] := ⟨[([((.bin .lt (.var 110) (.var 0)), true), ((.bin .lt (.bin (.add .i64) (.var 110) (.lit (.ofNat 1))) (.var 143)), false), ((.bin .lt (.bin (.add .i64) (.var 110) (.lit (.ofNat 1))) (.var 142)), false), ((.bin .lt (.bin (.add .i64) (.var 110) (.lit (.ofNat 1))) (.var 141)), false), ((.bin .lt (.bin (.add .i64) (.var 110) (.lit (.ofNat 1))) (.var 140)), false)], [(.fact (.sem 0 sem0 [(.tv 120), (.tv 130), (.tv 131), (.tv 132), (.tv 133)] [(.bin (.add .i64) (.var 110) (.lit (.ofNat 1))), (.lit (.ofNat 0)), (.var 140), (.lit (.ofNat 0)), (.var 141), (.lit (.ofNat 0)), (.var 142), (.lit (.ofNat 0)), (.var 143)])), (.fact (.sem 1 sem1 [(.upd (.tv 121) (.var 110) 0 (.var 110))] [(.bin (.add .i64) (.var 110) (.lit (.ofNat 1)))]))])], by kernel_rfl, by
  intro ρ hk ob hob hp rr hr
  have hF : ∀ g ∈ F_G4, Fact.holds ρ g := fun g hg => hk g (List.mem_append_left _ hg)
  have h0 : waits (((.tv 120) : E).tden ρ) [((((.tv 130) : E).tden ρ), (0 : Int), (((.var 140) : E).den ρ)), ((((.tv 131) : E).tden ρ), (0 : Int), (((.var 141) : E).den ρ)), ((((.tv 132) : E).tden ρ), (0 : Int), (((.var 142) : E).den ρ)), ((((.tv 133) : E).tden ρ), (0 : Int), (((.var 143) : E).den ρ))] (((.bin (.add .i64) (.var 110) (.lit (.ofNat 1))) : E).den ρ) := hF (.sem 0 sem0 [(.tv 120), (.tv 130), (.tv 131), (.tv 132), (.tv 133)] [(.bin (.add .i64) (.var 110) (.lit (.ofNat 1))), z, (.var 140), z, (.var 141), z, (.var 142), z, (.var 143)]) (by simp [F_G4])
  have h1 : rows (((.tv 121) : E).tden ρ) (((.var 110) : E).den ρ) := hF (.sem 1 sem1 [(.tv 121)] [(.var 110)]) (by simp [F_G4])
  have b110_100 : 0 ≤ ρ.v 110 ∧ ρ.v 110 ≤ 100 := rng_iff.1 (hF (r 110 0 100) (by simp [F_G4]))
  have b140_100 : 1 ≤ ρ.v 140 ∧ ρ.v 140 ≤ 100 := rng_iff.1 (hF (r 140 1 100) (by simp [F_G4]))
  have b141_100 : 1 ≤ ρ.v 141 ∧ ρ.v 141 ≤ 100 := rng_iff.1 (hF (r 141 1 100) (by simp [F_G4]))
  have b142_100 : 1 ≤ ρ.v 142 ∧ ρ.v 142 ≤ 100 := rng_iff.1 (hF (r 142 1 100) (by simp [F_G4]))
  have b143_100 : 1 ≤ ρ.v 143 ∧ ρ.v 143 ≤ 100 := rng_iff.1 (hF (r 143 1 100) (by simp [F_G4]))
  have b110_99 : 0 ≤ ρ.v 110 ∧ ρ.v 110 ≤ 99 := rng_iff.1 (hF (r 110 0 99) (by simp [F_G4]))
  simp only [List.mem_cons, List.not_mem_nil, or_false] at hob
  rcases hob with rfl
  · simp only [List.mem_cons, List.not_mem_nil, or_false] at hr
    rcases hr with rfl | rfl
    · exact h0
    · exact rows_app h1 (by simp only [E.den]; omega) (by simp only [E.den]; omega) (by simp only [E.den, BO.den]; exact add_i64 (by omega) (by omega)) (fun r => by simp only [E.tden, E.den, and_true]; rfl)
⟩
theorem good_l1_56_0 : GoodP rnL (cd1.drop 3) (F_C1 ++ lem_l1_56) T_C1.toS (some ⟨T_A0, F_A0, [(110, some 101)], fm0⟩) [(0, ⟨T_E0, F_E0, [], fm1⟩)] [] := ⟨[([((.bin .lt (.bin (.add .i64) (.var 110) (.lit (.ofNat 1))) (.var 140)), false)], [(.fact (.sem 0 sem0 [(.tv 120), (.tv 130)] [(.bin (.add .i64) (.var 110) (.lit (.ofNat 1))), (.lit (.ofNat 0)), (.var 140)])), (.fact (.sem 1 sem1 [(.tv 121)] [(.bin (.add .i64) (.var 110) (.lit (.ofNat 1)))]))])], by kernel_rfl, by
  intro ρ hk ob hob hp rr hr
  have hF : ∀ g ∈ F_C1, Fact.holds ρ g := fun g hg => hk g (List.mem_append_left _ hg)
  have h0 : waits (((.tv 120) : E).tden ρ) [((((.tv 130) : E).tden ρ), (0 : Int), (((.var 140) : E).den ρ))] (((.bin (.add .i64) (.var 110) (.lit (.ofNat 1))) : E).den ρ) := hF (.sem 0 sem0 [(.tv 120), (.tv 130)] [(.bin (.add .i64) (.var 110) (.lit (.ofNat 1))), z, (.var 140)]) (by simp [F_C1])
  have h1 : rows (((.tv 121) : E).tden ρ) (((.bin (.add .i64) (.var 110) (.lit (.ofNat 1))) : E).den ρ) := hF (.sem 1 sem1 [(.tv 121)] [(.bin (.add .i64) (.var 110) (.lit (.ofNat 1)))]) (by simp [F_C1])
  have b110_100 : 0 ≤ ρ.v 110 ∧ ρ.v 110 ≤ 100 := rng_iff.1 (hF (r 110 0 100) (by simp [F_C1]))
  have b140_100 : 1 ≤ ρ.v 140 ∧ ρ.v 140 ≤ 100 := rng_iff.1 (hF (r 140 1 100) (by simp [F_C1]))
  have b110_99 : 0 ≤ ρ.v 110 ∧ ρ.v 110 ≤ 99 := rng_iff.1 (hF (r 110 0 99) (by simp [F_C1]))
  simp only [List.mem_cons, List.not_mem_nil, or_false] at hob
  rcases hob with rfl
  · simp only [List.mem_cons, List.not_mem_nil, or_false] at hr
    rcases hr with rfl | rfl
    · exact h0
    · exact h1
⟩
theorem good_l1_57_0 : GoodP rnL (cd1.drop 3) (F_C4 ++ lem_l1_57) T_C4.toS (some ⟨T_A0, F_A0, [(110, some 101)], fm0⟩) [(0, ⟨T_E0, F_E0, [], fm1⟩)] [] := ⟨[([((.bin .lt (.bin (.add .i64) (.var 110) (.lit (.ofNat 1))) (.var 143)), false), ((.bin .lt (.bin (.add .i64) (.var 110) (.lit (.ofNat 1))) (.var 142)), false), ((.bin .lt (.bin (.add .i64) (.var 110) (.lit (.ofNat 1))) (.var 141)), false), ((.bin .lt (.bin (.add .i64) (.var 110) (.lit (.ofNat 1))) (.var 140)), false)], [(.fact (.sem 0 sem0 [(.tv 120), (.tv 130), (.tv 131), (.tv 132), (.tv 133)] [(.bin (.add .i64) (.var 110) (.lit (.ofNat 1))), (.lit (.ofNat 0)), (.var 140), (.lit (.ofNat 0)), (.var 141), (.lit (.ofNat 0)), (.var 142), (.lit (.ofNat 0)), (.var 143)])), (.fact (.sem 1 sem1 [(.tv 121)] [(.bin (.add .i64) (.var 110) (.lit (.ofNat 1)))]))])], by kernel_rfl, by
  intro ρ hk ob hob hp rr hr
  have hF : ∀ g ∈ F_C4, Fact.holds ρ g := fun g hg => hk g (List.mem_append_left _ hg)
  have h0 : waits (((.tv 120) : E).tden ρ) [((((.tv 130) : E).tden ρ), (0 : Int), (((.var 140) : E).den ρ)), ((((.tv 131) : E).tden ρ), (0 : Int), (((.var 141) : E).den ρ)), ((((.tv 132) : E).tden ρ), (0 : Int), (((.var 142) : E).den ρ)), ((((.tv 133) : E).tden ρ), (0 : Int), (((.var 143) : E).den ρ))] (((.bin (.add .i64) (.var 110) (.lit (.ofNat 1))) : E).den ρ) := hF (.sem 0 sem0 [(.tv 120), (.tv 130), (.tv 131), (.tv 132), (.tv 133)] [(.bin (.add .i64) (.var 110) (.lit (.ofNat 1))), z, (.var 140), z, (.var 141), z, (.var 142), z, (.var 143)]) (by simp [F_C4])
  have h1 : rows (((.tv 121) : E).tden ρ) (((.bin (.add .i64) (.var 110) (.lit (.ofNat 1))) : E).den ρ) := hF (.sem 1 sem1 [(.tv 121)] [(.bin (.add .i64) (.var 110) (.lit (.ofNat 1)))]) (by simp [F_C4])
  have b110_100 : 0 ≤ ρ.v 110 ∧ ρ.v 110 ≤ 100 := rng_iff.1 (hF (r 110 0 100) (by simp [F_C4]))
  have b140_100 : 1 ≤ ρ.v 140 ∧ ρ.v 140 ≤ 100 := rng_iff.1 (hF (r 140 1 100) (by simp [F_C4]))
  have b141_100 : 1 ≤ ρ.v 141 ∧ ρ.v 141 ≤ 100 := rng_iff.1 (hF (r 141 1 100) (by simp [F_C4]))
  have b142_100 : 1 ≤ ρ.v 142 ∧ ρ.v 142 ≤ 100 := rng_iff.1 (hF (r 142 1 100) (by simp [F_C4]))
  have b143_100 : 1 ≤ ρ.v 143 ∧ ρ.v 143 ≤ 100 := rng_iff.1 (hF (r 143 1 100) (by simp [F_C4]))
  have b110_99 : 0 ≤ ρ.v 110 ∧ ρ.v 110 ≤ 99 := rng_iff.1 (hF (r 110 0 99) (by simp [F_C4]))
  simp only [List.mem_cons, List.not_mem_nil, or_false] at hob
  rcases hob with rfl
  · simp only [List.mem_cons, List.not_mem_nil, or_false] at hr
    rcases hr with rfl | rfl
    · exact h0
    · exact h1
⟩
theorem good_l1_58_0 : GoodP rnL ((cd0.drop 8).take 1) (F_E0 ++ lem_l1_58) T_E0.toS (some ⟨T_M00, F_M00, [], fm13⟩) [] [] := ⟨[([], [(.fact (.sem 0 sem0 [(.tv 120)] [(.var 110)])), (.fact (.sem 1 sem1 [(.tv 121)] [(.var 110)]))])], by kernel_rfl, by
  intro ρ hk ob hob hp rr hr
  have hF : ∀ g ∈ F_E0, Fact.holds ρ g := fun g hg => hk g (List.mem_append_left _ hg)
  have h0 : waits (((.tv 120) : E).tden ρ) [] (((.var 110) : E).den ρ) := hF (.sem 0 sem0 [(.tv 120)] [(.var 110)]) (by simp [F_E0])
  have h1 : rows (((.tv 121) : E).tden ρ) (((.var 110) : E).den ρ) := hF (.sem 1 sem1 [(.tv 121)] [(.var 110)]) (by simp [F_E0])
  have b110_100 : 0 ≤ ρ.v 110 ∧ ρ.v 110 ≤ 100 := rng_iff.1 (hF (r 110 0 100) (by simp [F_E0]))
  simp only [List.mem_cons, List.not_mem_nil, or_false] at hob
  rcases hob with rfl
  · simp only [List.mem_cons, List.not_mem_nil, or_false] at hr
    rcases hr with rfl | rfl
    · exact h0
    · exact h1
⟩
theorem good_l1_59_0 : GoodP rnL ((cd0.drop 8).take 1) (F_E1 ++ lem_l1_59) T_E1.toS (some ⟨T_M00, F_M00, [], fm13⟩) [] [] := ⟨[([((.bin .lt (.var 110) (.var 140)), false)], [(.fact (.sem 0 sem0 [(.tv 120), (.tv 130)] [(.var 110), (.lit (.ofNat 0)), (.var 140)])), (.fact (.sem 1 sem1 [(.tv 121)] [(.var 110)]))])], by kernel_rfl, by
  intro ρ hk ob hob hp rr hr
  have hF : ∀ g ∈ F_E1, Fact.holds ρ g := fun g hg => hk g (List.mem_append_left _ hg)
  have h0 : waits (((.tv 120) : E).tden ρ) [((((.tv 130) : E).tden ρ), (0 : Int), (((.var 140) : E).den ρ))] (((.var 110) : E).den ρ) := hF (.sem 0 sem0 [(.tv 120), (.tv 130)] [(.var 110), z, (.var 140)]) (by simp [F_E1])
  have h1 : rows (((.tv 121) : E).tden ρ) (((.var 110) : E).den ρ) := hF (.sem 1 sem1 [(.tv 121)] [(.var 110)]) (by simp [F_E1])
  have b110_100 : 0 ≤ ρ.v 110 ∧ ρ.v 110 ≤ 100 := rng_iff.1 (hF (r 110 0 100) (by simp [F_E1]))
  have b140_100 : 1 ≤ ρ.v 140 ∧ ρ.v 140 ≤ 100 := rng_iff.1 (hF (r 140 1 100) (by simp [F_E1]))
  simp only [List.mem_cons, List.not_mem_nil, or_false] at hob
  rcases hob with rfl
  · simp only [List.mem_cons, List.not_mem_nil, or_false] at hr
    rcases hr with rfl | rfl
    · exact h0
    · exact h1
⟩
theorem good_l1_60_0 : GoodP rnL ((cd0.drop 8).take 1) (F_E2 ++ lem_l1_60) T_E2.toS (some ⟨T_M00, F_M00, [], fm13⟩) [] [] := ⟨[([((.bin .lt (.var 110) (.var 141)), false), ((.bin .lt (.var 110) (.var 140)), false)], [(.fact (.sem 0 sem0 [(.tv 120), (.tv 130), (.tv 131)] [(.var 110), (.lit (.ofNat 0)), (.var 140), (.lit (.ofNat 0)), (.var 141)])), (.fact (.sem 1 sem1 [(.tv 121)] [(.var 110)]))])], by kernel_rfl, by
  intro ρ hk ob hob hp rr hr
  have hF : ∀ g ∈ F_E2, Fact.holds ρ g := fun g hg => hk g (List.mem_append_left _ hg)
  have h0 : waits (((.tv 120) : E).tden ρ) [((((.tv 130) : E).tden ρ), (0 : Int), (((.var 140) : E).den ρ)), ((((.tv 131) : E).tden ρ), (0 : Int), (((.var 141) : E).den ρ))] (((.var 110) : E).den ρ) := hF (.sem 0 sem0 [(.tv 120), (.tv 130), (.tv 131)] [(.var 110), z, (.var 140), z, (.var 141)]) (by simp [F_E2])
  have h1 : rows (((.tv 121) : E).tden ρ) (((.var 110) : E).den ρ) := hF (.sem 1 sem1 [(.tv 121)] [(.var 110)]) (by simp [F_E2])
  have b110_100 : 0 ≤ ρ.v 110 ∧ ρ.v 110 ≤ 100 := rng_iff.1 (hF (r 110 0 100) (by simp [F_E2]))
  have b140_100 : 1 ≤ ρ.v 140 ∧ ρ.v 140 ≤ 100 := rng_iff.1 (hF (r 140 1 100) (by simp [F_E2]))
  have b141_100 : 1 ≤ ρ.v 141 ∧ ρ.v 141 ≤ 100 := rng_iff.1 (hF (r 141 1 100) (by simp [F_E2]))
  simp only [List.mem_cons, List.not_mem_nil, or_false] at hob
  rcases hob with rfl
  · simp only [List.mem_cons, List.not_mem_nil, or_false] at hr
    rcases hr with rfl | rfl
    · exact h0
    · exact h1
⟩
theorem good_l1_61_0 : GoodP rnL ((cd0.drop 8).take 1) (F_E3 ++ lem_l1_61) T_E3.toS (some ⟨T_M00, F_M00, [], fm13⟩) [] [] := ⟨[([((.bin .lt (.var 110) (.var 142)), false), ((.bin .lt (.var 110) (.var 141)), false), ((.bin .lt (.var 110) (.var 140)), false)], [(.fact (.sem 0 sem0 [(.tv 120), (.tv 130), (.tv 131), (.tv 132)] [(.var 110), (.lit (.ofNat 0)), (.var 140), (.lit (.ofNat 0)), (.var 141), (.lit (.ofNat 0)), (.var 142)])), (.fact (.sem 1 sem1 [(.tv 121)] [(.var 110)]))])], by kernel_rfl, by
  intro ρ hk ob hob hp rr hr
  have hF : ∀ g ∈ F_E3, Fact.holds ρ g := fun g hg => hk g (List.mem_append_left _ hg)
  have h0 : waits (((.tv 120) : E).tden ρ) [((((.tv 130) : E).tden ρ), (0 : Int), (((.var 140) : E).den ρ)), ((((.tv 131) : E).tden ρ), (0 : Int), (((.var 141) : E).den ρ)), ((((.tv 132) : E).tden ρ), (0 : Int), (((.var 142) : E).den ρ))] (((.var 110) : E).den ρ) := hF (.sem 0 sem0 [(.tv 120), (.tv 130), (.tv 131), (.tv 132)] [(.var 110), z, (.var 140), z, (.var 141), z, (.var 142)]) (by simp [F_E3])
  have h1 : rows (((.tv 121) : E).tden ρ) (((.var 110) : E).den ρ) := hF (.sem 1 sem1 [(.tv 121)] [(.var 110)]) (by simp [F_E3])
  have b110_100 : 0 ≤ ρ.v 110 ∧ ρ.v 110 ≤ 100 := rng_iff.1 (hF (r 110 0 100) (by simp [F_E3]))
  have b140_100 : 1 ≤ ρ.v 140 ∧ ρ.v 140 ≤ 100 := rng_iff.1 (hF (r 140 1 100) (by simp [F_E3]))
  have b141_100 : 1 ≤ ρ.v 141 ∧ ρ.v 141 ≤ 100 := rng_iff.1 (hF (r 141 1 100) (by simp [F_E3]))
  have b142_100 : 1 ≤ ρ.v 142 ∧ ρ.v 142 ≤ 100 := rng_iff.1 (hF (r 142 1 100) (by simp [F_E3]))
  simp only [List.mem_cons, List.not_mem_nil, or_false] at hob
  rcases hob with rfl
  · simp only [List.mem_cons, List.not_mem_nil, or_false] at hr
    rcases hr with rfl | rfl
    · exact h0
    · exact h1
⟩
theorem good_l1_62_0 : GoodP rnL ((cd0.drop 8).take 1) (F_E4 ++ lem_l1_62) T_E4.toS (some ⟨T_M00, F_M00, [], fm13⟩) [] [] := ⟨[([((.bin .lt (.var 110) (.var 143)), false), ((.bin .lt (.var 110) (.var 142)), false), ((.bin .lt (.var 110) (.var 141)), false), ((.bin .lt (.var 110) (.var 140)), false)], [(.fact (.sem 0 sem0 [(.tv 120), (.tv 130), (.tv 131), (.tv 132), (.tv 133)] [(.var 110), (.lit (.ofNat 0)), (.var 140), (.lit (.ofNat 0)), (.var 141), (.lit (.ofNat 0)), (.var 142), (.lit (.ofNat 0)), (.var 143)])), (.fact (.sem 1 sem1 [(.tv 121)] [(.var 110)]))])], by kernel_rfl, by
  intro ρ hk ob hob hp rr hr
  have hF : ∀ g ∈ F_E4, Fact.holds ρ g := fun g hg => hk g (List.mem_append_left _ hg)
  have h0 : waits (((.tv 120) : E).tden ρ) [((((.tv 130) : E).tden ρ), (0 : Int), (((.var 140) : E).den ρ)), ((((.tv 131) : E).tden ρ), (0 : Int), (((.var 141) : E).den ρ)), ((((.tv 132) : E).tden ρ), (0 : Int), (((.var 142) : E).den ρ)), ((((.tv 133) : E).tden ρ), (0 : Int), (((.var 143) : E).den ρ))] (((.var 110) : E).den ρ) := hF (.sem 0 sem0 [(.tv 120), (.tv 130), (.tv 131), (.tv 132), (.tv 133)] [(.var 110), z, (.var 140), z, (.var 141), z, (.var 142), z, (.var 143)]) (by simp [F_E4])
  have h1 : rows (((.tv 121) : E).tden ρ) (((.var 110) : E).den ρ) := hF (.sem 1 sem1 [(.tv 121)] [(.var 110)]) (by simp [F_E4])
  have b110_100 : 0 ≤ ρ.v 110 ∧ ρ.v 110 ≤ 100 := rng_iff.1 (hF (r 110 0 100) (by simp [F_E4]))
  have b140_100 : 1 ≤ ρ.v 140 ∧ ρ.v 140 ≤ 100 := rng_iff.1 (hF (r 140 1 100) (by simp [F_E4]))
  have b141_100 : 1 ≤ ρ.v 141 ∧ ρ.v 141 ≤ 100 := rng_iff.1 (hF (r 141 1 100) (by simp [F_E4]))
  have b142_100 : 1 ≤ ρ.v 142 ∧ ρ.v 142 ≤ 100 := rng_iff.1 (hF (r 142 1 100) (by simp [F_E4]))
  have b143_100 : 1 ≤ ρ.v 143 ∧ ρ.v 143 ≤ 100 := rng_iff.1 (hF (r 143 1 100) (by simp [F_E4]))
  simp only [List.mem_cons, List.not_mem_nil, or_false] at hob
  rcases hob with rfl
  · simp only [List.mem_cons, List.not_mem_nil, or_false] at hr
    rcases hr with rfl | rfl
    · exact h0
    · exact h1
⟩
theorem good_l1_63_0 : GoodP rnL (cd8.take 2) (F_M00 ++ lem_l1_63) T_M00.toS (some ⟨T_M00, F_M00, [(112, none)], []⟩) [(6, ⟨T_Q, F_Q, [], []⟩)] [] := ⟨[([], [(.fact (.sem 0 sem0 [(.tv 120)] [(.var 110)])), (.fact (.sem 1 sem1 [(.tv 121)] [(.var 110)]))])], by kernel_rfl, by
  intro ρ hk ob hob hp rr hr
  have hF : ∀ g ∈ F_M00, Fact.holds ρ g := fun g hg => hk g (List.mem_append_left _ hg)
  have h0 : waits (((.tv 120) : E).tden ρ) [] (((.var 110) : E).den ρ) := hF (.sem 0 sem0 [(.tv 120)] [(.var 110)]) (by simp [F_M00])
  have h1 : rows (((.tv 121) : E).tden ρ) (((.var 110) : E).den ρ) := hF (.sem 1 sem1 [(.tv 121)] [(.var 110)]) (by simp [F_M00])
  have b110_100 : 0 ≤ ρ.v 110 ∧ ρ.v 110 ≤ 100 := rng_iff.1 (hF (r 110 0 100) (by simp [F_M00]))
  have b112_0 : 0 ≤ ρ.v 112 ∧ ρ.v 112 ≤ 0 := rng_iff.1 (hF (r 112 0 0) (by simp [F_M00]))
  simp only [List.mem_cons, List.not_mem_nil, or_false] at hob
  rcases hob with rfl
  · simp only [List.mem_cons, List.not_mem_nil, or_false] at hr
    rcases hr with rfl | rfl
    · exact h0
    · exact h1
⟩
theorem good_l1_64_0 : GoodP rnL cd9 (F_M00 ++ lem_l1_64) T_M00.toS (some ⟨T_N00, F_N00, [(112, none)], []⟩) [(7, ⟨T_N00, F_N00, [(112, none)], []⟩), (6, ⟨T_Q, F_Q, [], []⟩)] [] := ⟨[([], [(.fact (.sem 0 sem0 [(.tv 120)] [(.var 110)])), (.fact (.sem 1 sem1 [(.tv 121)] [(.var 110)]))])], by kernel_rfl, by
  intro ρ hk ob hob hp rr hr
  have hF : ∀ g ∈ F_M00, Fact.holds ρ g := fun g hg => hk g (List.mem_append_left _ hg)
  have h0 : waits (((.tv 120) : E).tden ρ) [] (((.var 110) : E).den ρ) := hF (.sem 0 sem0 [(.tv 120)] [(.var 110)]) (by simp [F_M00])
  have h1 : rows (((.tv 121) : E).tden ρ) (((.var 110) : E).den ρ) := hF (.sem 1 sem1 [(.tv 121)] [(.var 110)]) (by simp [F_M00])
  have b110_100 : 0 ≤ ρ.v 110 ∧ ρ.v 110 ≤ 100 := rng_iff.1 (hF (r 110 0 100) (by simp [F_M00]))
  have b112_0 : 0 ≤ ρ.v 112 ∧ ρ.v 112 ≤ 0 := rng_iff.1 (hF (r 112 0 0) (by simp [F_M00]))
  simp only [List.mem_cons, List.not_mem_nil, or_false] at hob
  rcases hob with rfl
  · simp only [List.mem_cons, List.not_mem_nil, or_false] at hr
    rcases hr with rfl | rfl
    · exact h0
    · exact h1
⟩
theorem good_l1_65_0 : GoodP rnL (cd8.drop 3) (F_N00 ++ lem_l1_65) T_N00.toS (some ⟨T_M00, F_M00, [(112, some 5)], fm13⟩) [(6, ⟨T_Q, F_Q, [], []⟩)] [] := ⟨[([], [(.fact (.sem 0 sem0 [(.tv 120)] [(.var 110)])), (.fact (.sem 1 sem1 [(.tv 121)] [(.var 110)]))])], by kernel_rfl, by
  intro ρ hk ob hob hp rr hr
  have hF : ∀ g ∈ F_N00, Fact.holds ρ g := fun g hg => hk g (List.mem_append_left _ hg)
  have h0 : waits (((.tv 120) : E).tden ρ) [] (((.var 110) : E).den ρ) := hF (.sem 0 sem0 [(.tv 120)] [(.var 110)]) (by simp [F_N00])
  have h1 : rows (((.tv 121) : E).tden ρ) (((.var 110) : E).den ρ) := hF (.sem 1 sem1 [(.tv 121)] [(.var 110)]) (by simp [F_N00])
  have b110_100 : 0 ≤ ρ.v 110 ∧ ρ.v 110 ≤ 100 := rng_iff.1 (hF (r 110 0 100) (by simp [F_N00]))
  have b112_0 : 0 ≤ ρ.v 112 ∧ ρ.v 112 ≤ 0 := rng_iff.1 (hF (r 112 0 0) (by simp [F_N00]))
  simp only [List.mem_cons, List.not_mem_nil, or_false] at hob
  rcases hob with rfl
  · simp only [List.mem_cons, List.not_mem_nil, or_false] at hr
    rcases hr with rfl | rfl
    · exact h0
    · exact h1
⟩
theorem good_l1_66_0 : GoodP rnL (cd8.take 2) (F_M01 ++ lem_l1_66) T_M01.toS (some ⟨T_M01, F_M01, [(112, none)], []⟩) [(6, ⟨T_Q, F_Q, [], []⟩)] [] := ⟨[([((.bin .lt (.var 110) (.var 140)), false)], [(.fact (.sem 0 sem0 [(.tv 120), (.tv 130)] [(.var 110), (.lit (.ofNat 0)), (.var 140)])), (.fact (.sem 1 sem1 [(.tv 121)] [(.var 110)]))])], by kernel_rfl, by
  intro ρ hk ob hob hp rr hr
  have hF : ∀ g ∈ F_M01, Fact.holds ρ g := fun g hg => hk g (List.mem_append_left _ hg)
  have h0 : waits (((.tv 120) : E).tden ρ) [((((.tv 130) : E).tden ρ), (0 : Int), (((.var 140) : E).den ρ))] (((.var 110) : E).den ρ) := hF (.sem 0 sem0 [(.tv 120), (.tv 130)] [(.var 110), z, (.var 140)]) (by simp [F_M01])
  have h1 : rows (((.tv 121) : E).tden ρ) (((.var 110) : E).den ρ) := hF (.sem 1 sem1 [(.tv 121)] [(.var 110)]) (by simp [F_M01])
  have b110_100 : 0 ≤ ρ.v 110 ∧ ρ.v 110 ≤ 100 := rng_iff.1 (hF (r 110 0 100) (by simp [F_M01]))
  have b140_100 : 1 ≤ ρ.v 140 ∧ ρ.v 140 ≤ 100 := rng_iff.1 (hF (r 140 1 100) (by simp [F_M01]))
  have b112_0 : 0 ≤ ρ.v 112 ∧ ρ.v 112 ≤ 0 := rng_iff.1 (hF (r 112 0 0) (by simp [F_M01]))
  simp only [List.mem_cons, List.not_mem_nil, or_false] at hob
  rcases hob with rfl
  · simp only [List.mem_cons, List.not_mem_nil, or_false] at hr
    rcases hr with rfl | rfl
    · exact h0
    · exact h1
⟩
theorem good_l1_67_0 : GoodP rnL (cd9.take 2) (F_M01 ++ lem_l1_67) T_M01.toS (some ⟨T_I01, F_I01, [(112, none)], []⟩) [(7, ⟨T_N01, F_N01, [(112, none)], []⟩), (6, ⟨T_Q, F_Q, [], []⟩)] [] := ⟨[([((.bin .lt (.var 110) (.var 140)), false)], [(.fact (.sem 0 sem0 [(.tv 120), (.tv 130)] [(.var 110), (.lit (.ofNat 0)), (.var 140)])), (.fact (.sem 1 sem1 [(.tv 121)] [(.var 110)]))])], by kernel_rfl, by
  intro ρ hk ob hob hp rr hr
  have hF : ∀ g ∈ F_M01, Fact.holds ρ g := fun g hg => hk g (List.mem_append_left _ hg)
  have h0 : waits (((.tv 120) : E).tden ρ) [((((.tv 130) : E).tden ρ), (0 : Int), (((.var 140) : E).den ρ))] (((.var 110) : E).den ρ) := hF (.sem 0 sem0 [(.tv 120), (.tv 130)] [(.var 110), z, (.var 140)]) (by simp [F_M01])
  have h1 : rows (((.tv 121) : E).tden ρ) (((.var 110) : E).den ρ) := hF (.sem 1 sem1 [(.tv 121)] [(.var 110)]) (by simp [F_M01])
  have b110_100 : 0 ≤ ρ.v 110 ∧ ρ.v 110 ≤ 100 := rng_iff.1 (hF (r 110 0 100) (by simp [F_M01]))
  have b140_100 : 1 ≤ ρ.v 140 ∧ ρ.v 140 ≤ 100 := rng_iff.1 (hF (r 140 1 100) (by simp [F_M01]))
  have b112_0 : 0 ≤ ρ.v 112 ∧ ρ.v 112 ≤ 0 := rng_iff.1 (hF (r 112 0 0) (by simp [F_M01]))
  simp only [List.mem_cons, List.not_mem_nil, or_false] at hob
  rcases hob with rfl
  · simp only [List.mem_cons, List.not_mem_nil, or_false] at hr
    rcases hr with rfl | rfl
    · exact h0
    · exact h1
⟩
theorem good_l1_68_0 : GoodP rnL cd10 (F_I01 ++ lem_l1_68) T_I01.toS (some ⟨T_I01, F_I01, [(111, some 101), (112, none)], []⟩) [(8, ⟨T_N01, F_N01, [(112, none)], []⟩), (7, ⟨T_N01, F_N01, [(112, none)], []⟩), (6, ⟨T_Q, F_Q, [], []⟩)] [] := ⟨[([((.bin .lt (.un (.wrap .i64) (.get (.tv 130) (.var 111) 0)) (.lit (.ofNat 0))), true), ((.bin .lt (.var 111) (.var 140)), true), ((.bin .lt (.var 140) (.var 111)), false), ((.bin .lt (.var 110) (.var 140)), false)], [(.done (.lit (.ofNat 0)))]),
  ([((.bin .lt (.un (.wrap .i64) (.get (.tv 130) (.var 111) 0)) (.lit (.ofNat 100))), false), ((.bin .lt (.un (.wrap .i64) (.get (.tv 130) (.var 111) 0)) (.lit (.ofNat 0))), false), ((.bin .lt (.var 111) (.var 140)), true), ((.bin .lt (.var 140) (.var 111)), false), ((.bin .lt (.var 110) (.var 140)), false)], [(.done (.lit (.ofNat 0)))]),
  ([((.bin .lt (.un (.wrap .i64) (.get (.tv 130) (.var 111) 0)) (.lit (.ofNat 100))), true), ((.bin .lt (.un (.wrap .i64) (.get (.tv 130) (.var 111) 0)) (.lit (.ofNat 0))), false), ((.bin .lt (.var 111) (.var 140)), true), ((.bin .lt (.var 140) (.var 111)), false), ((.bin .lt (.var 110) (.var 140)), false)], [(.fact (.sem 0 sem0 [(.upd (.tv 120) (.un (.wrap .i64) (.get (.tv 130) (.var 111) 0)) 0 (.bin (.add .i64) (.un (.wrap .i64) (.get (.tv 120) (.un (.wrap .i64) (.get (.tv 130) (.var 111) 0)) 0)) (.lit (.ofNat 1)))), (.tv 130)] [(.var 110), (.bin (.add .i64) (.var 111) (.lit (.ofNat 1))), (.var 140)])), (.fact (.sem 1 sem1 [(.tv 121)] [(.var 110)]))]),
  ([((.bin .lt (.var 111) (.var 140)), false), ((.bin .lt (.var 140) (.var 111)), false), ((.bin .lt (.var 110) (.var 140)), false)], [(.fact (.sem 0 sem0 [(.tv 120)] [(.var 110)])), (.fact (.sem 1 sem1 [(.tv 121)] [(.var 110)]))])], by kernel_rfl, by
  intro ρ hk ob hob hp rr hr
  have hF : ∀ g ∈ F_I01, Fact.holds ρ g := fun g hg => hk g (List.mem_append_left _ hg)
  have h0 : waits (((.tv 120) : E).tden ρ) [((((.tv 130) : E).tden ρ), (((.var 111) : E).den ρ), (((.var 140) : E).den ρ))] (((.var 110) : E).den ρ) := hF (.sem 0 sem0 [(.tv 120), (.tv 130)] [(.var 110), (.var 111), (.var 140)]) (by simp [F_I01])
  have h1 : rows (((.tv 121) : E).tden ρ) (((.var 110) : E).den ρ) := hF (.sem 1 sem1 [(.tv 121)] [(.var 110)]) (by simp [F_I01])
  have b110_100 : 0 ≤ ρ.v 110 ∧ ρ.v 110 ≤ 100 := rng_iff.1 (hF (r 110 0 100) (by simp [F_I01]))
  have b140_100 : 1 ≤ ρ.v 140 ∧ ρ.v 140 ≤ 100 := rng_iff.1 (hF (r 140 1 100) (by simp [F_I01]))
  have b112_0 : 0 ≤ ρ.v 112 ∧ ρ.v 112 ≤ 0 := rng_iff.1 (hF (r 112 0 0) (by simp [F_I01]))
  have b111_100 : 0 ≤ ρ.v 111 ∧ ρ.v 111 ≤ 100 := rng_iff.1 (hF (r 111 0 100) (by simp [F_I01]))
  simp only [List.mem_cons, List.not_mem_nil, or_false] at hob
  rcases hob with rfl | rfl | rfl | rfl
  · simp only [List.mem_cons, List.not_mem_nil, or_false] at hr
    have t0 := lt_iff.1 (hp ((.bin .lt (.un (.wrap .i64) (.get (.tv 130) (.var 111) 0)) (.lit (.ofNat 0))), true) (by simp))
    simp only [E.den, UO.den, iff_true, Int.ofNat_eq_natCast] at t0
    have t1 := lt_iff.1 (hp ((.bin .lt (.var 111) (.var 140)), true) (by simp))
    simp only [E.den, UO.den, iff_true, Int.ofNat_eq_natCast] at t1
    have t2 := lt_iff.1 (hp ((.bin .lt (.var 140) (.var 111)), false) (by simp))
    simp only [E.den, UO.den, Bool.false_eq_true, iff_false, Int.ofNat_eq_natCast] at t2
    rcases hr with rfl
    · exfalso
      have h3 := h0.2.2 _ (List.mem_cons_self ..) (ρ.v 111) (Int.le_refl _) (by simp only [E.den]; omega)
      simp only [rd, E.den, E.tden] at h3
      simp only [E.tden] at t0
      omega
  · simp only [List.mem_cons, List.not_mem_nil, or_false] at hr
    have t0 := lt_iff.1 (hp ((.bin .lt (.un (.wrap .i64) (.get (.tv 130) (.var 111) 0)) (.lit (.ofNat 100))), false) (by simp))
    simp only [E.den, UO.den, Bool.false_eq_true, iff_false, Int.ofNat_eq_natCast] at t0
    have t1 := lt_iff.1 (hp ((.bin .lt (.un (.wrap .i64) (.get (.tv 130) (.var 111) 0)) (.lit (.ofNat 0))), false) (by simp))
    simp only [E.den, UO.den, Bool.false_eq_true, iff_false, Int.ofNat_eq_natCast] at t1
    have t2 := lt_iff.1 (hp ((.bin .lt (.var 111) (.var 140)), true) (by simp))
    simp only [E.den, UO.den, iff_true, Int.ofNat_eq_natCast] at t2
    have t3 := lt_iff.1 (hp ((.bin .lt (.var 140) (.var 111)), false) (by simp))
    simp only [E.den, UO.den, Bool.false_eq_true, iff_false, Int.ofNat_eq_natCast] at t3
    rcases hr with rfl
    · exfalso
      have h3 := h0.2.2 _ (List.mem_cons_self ..) (ρ.v 111) (Int.le_refl _) (by simp only [E.den]; omega)
      simp only [rd, E.den, E.tden] at h3
      simp only [E.tden] at t0
      omega
  · simp only [List.mem_cons, List.not_mem_nil, or_false] at hr
    have t0 := lt_iff.1 (hp ((.bin .lt (.un (.wrap .i64) (.get (.tv 130) (.var 111) 0)) (.lit (.ofNat 100))), true) (by simp))
    simp only [E.den, UO.den, iff_true, Int.ofNat_eq_natCast] at t0
    have t1 := lt_iff.1 (hp ((.bin .lt (.un (.wrap .i64) (.get (.tv 130) (.var 111) 0)) (.lit (.ofNat 0))), false) (by simp))
    simp only [E.den, UO.den, Bool.false_eq_true, iff_false, Int.ofNat_eq_natCast] at t1
    have t2 := lt_iff.1 (hp ((.bin .lt (.var 111) (.var 140)), true) (by simp))
    simp only [E.den, UO.den, iff_true, Int.ofNat_eq_natCast] at t2
    have t3 := lt_iff.1 (hp ((.bin .lt (.var 140) (.var 111)), false) (by simp))
    simp only [E.den, UO.den, Bool.false_eq_true, iff_false, Int.ofNat_eq_natCast] at t3
    rcases hr with rfl | rfl
    · show waits (((.upd (.tv 120) (.un (.wrap .i64) (.get (.tv 130) (.var 111) 0)) 0 (.bin (.add .i64) (.un (.wrap .i64) (.get (.tv 120) (.un (.wrap .i64) (.get (.tv 130) (.var 111) 0)) 0)) (.lit (.ofNat 1)))) : E).tden ρ) [((((.tv 130) : E).tden ρ), (((.bin (.add .i64) (.var 111) (.lit (.ofNat 1))) : E).den ρ), (((.var 140) : E).den ρ))] (((.var 110) : E).den ρ)
      exact waits_step h0 (by simp only [E.den]; omega) (by simp only [E.den, BO.den]; exact add_i64 (by omega) (by omega)) (by simp only [E.den]; omega) (fun r => by simp only [E.tden, E.den, BO.den, UO.den, rd, and_true]; rfl)
    · exact h1
  · simp only [List.mem_cons, List.not_mem_nil, or_false] at hr
    have t0 := lt_iff.1 (hp ((.bin .lt (.var 111) (.var 140)), false) (by simp))
    simp only [E.den, UO.den, Bool.false_eq_true, iff_false, Int.ofNat_eq_natCast] at t0
    have t1 := lt_iff.1 (hp ((.bin .lt (.var 140) (.var 111)), false) (by simp))
    simp only [E.den, UO.den, Bool.false_eq_true, iff_false, Int.ofNat_eq_natCast] at t1
    rcases hr with rfl | rfl
    · exact waits_drop h0 (by simp only [E.den]; omega)
    · exact h1
⟩
theorem good_l1_69_0 : GoodP rnL (cd8.drop 3) (F_N01 ++ lem_l1_69) T_N01.toS (some ⟨T_M00, F_M00, [(112, some 5)], fm13⟩) [(6, ⟨T_Q, F_Q, [], []⟩)] [] := ⟨[([], [(.fact (.sem 0 sem0 [(.tv 120)] [(.var 110)])), (.fact (.sem 1 sem1 [(.tv 121)] [(.var 110)]))])], by kernel_rfl, by
  intro ρ hk ob hob hp rr hr
  have hF : ∀ g ∈ F_N01, Fact.holds ρ g := fun g hg => hk g (List.mem_append_left _ hg)
  have h0 : waits (((.tv 120) : E).tden ρ) [] (((.var 110) : E).den ρ) := hF (.sem 0 sem0 [(.tv 120)] [(.var 110)]) (by simp [F_N01])
  have h1 : rows (((.tv 121) : E).tden ρ) (((.var 110) : E).den ρ) := hF (.sem 1 sem1 [(.tv 121)] [(.var 110)]) (by simp [F_N01])
  have b110_100 : 0 ≤ ρ.v 110 ∧ ρ.v 110 ≤ 100 := rng_iff.1 (hF (r 110 0 100) (by simp [F_N01]))
  have b112_0 : 0 ≤ ρ.v 112 ∧ ρ.v 112 ≤ 0 := rng_iff.1 (hF (r 112 0 0) (by simp [F_N01]))
  simp only [List.mem_cons, List.not_mem_nil, or_false] at hob
  rcases hob with rfl
  · simp only [List.mem_cons, List.not_mem_nil, or_false] at hr
    rcases hr with rfl | rfl
    · exact h0
    · exact h1
⟩
theorem good_l1_70_0 : GoodP rnL (cd8.take 2) (F_M02 ++ lem_l1_70) T_M02.toS (some ⟨T_M02, F_M02, [(112, none)], []⟩) [(6, ⟨T_Q, F_Q, [], []⟩)] [] := ⟨[([((.bin .lt (.var 110) (.var 141)), false), ((.bin .lt (.var 110) (.var 140)), false)], [(.fact (.sem 0 sem0 [(.tv 120), (.tv 130), (.tv 131)] [(.var 110), (.lit (.ofNat 0)), (.var 140), (.lit (.ofNat 0)), (.var 141)])), (.fact (.sem 1 sem1 [(.tv 121)] [(.var 110)]))])], by kernel_rfl, by
  intro ρ hk ob hob hp rr hr
  have hF : ∀ g ∈ F_M02, Fact.holds ρ g := fun g hg => hk g (List.mem_append_left _ hg)
  have h0 : waits (((.tv 120) : E).tden ρ) [((((.tv 130) : E).tden ρ), (0 : Int), (((.var 140) : E).den ρ)), ((((.tv 131) : E).tden ρ), (0 : Int), (((.var 141) : E).den ρ))] (((.var 110) : E).den ρ) := hF (.sem 0 sem0 [(.tv 120), (.tv 130), (.tv 131)] [(.var 110), z, (.var 140), z, (.var 141)]) (by simp [F_M02])
  have h1 : rows (((.tv 121) : E).tden ρ) (((.var 110) : E).den ρ) := hF (.sem 1 sem1 [(.tv 121)] [(.var 110)]) (by simp [F_M02])
  have b110_100 : 0 ≤ ρ.v 110 ∧ ρ.v 110 ≤ 100 := rng_iff.1 (hF (r 110 0 100) (by simp [F_M02]))
  have b140_100 : 1 ≤ ρ.v 140 ∧ ρ.v 140 ≤ 100 := rng_iff.1 (hF (r 140 1 100) (by simp [F_M02]))
  have b141_100 : 1 ≤ ρ.v 141 ∧ ρ.v 141 ≤ 100 := rng_iff.1 (hF (r 141 1 100) (by simp [F_M02]))
  have b112_0 : 0 ≤ ρ.v 112 ∧ ρ.v 112 ≤ 0 := rng_iff.1 (hF (r 112 0 0) (by simp [F_M02]))
  simp only [List.mem_cons, List.not_mem_nil, or_false] at hob
  rcases hob with rfl
  · simp only [List.mem_cons, List.not_mem_nil, or_false] at hr
    rcases hr with rfl | rfl
    · exact h0
    · exact h1
⟩
theorem good_l1_71_0 : GoodP rnL (cd9.take 2) (F_M02 ++ lem_l1_71) T_M02.toS (some ⟨T_I02, F_I02, [(112, none)], []⟩) [(7, ⟨T_N02, F_N02, [(112, none)], []⟩), (6, ⟨T_Q, F_Q, [], []⟩)] [] := ⟨[([((.bin .lt (.var 110) (.var 141)), false), ((.bin .lt (.var 110) (.var 140)), false)], [(.fact (.sem 0 sem0 [(.tv 120), (.tv 130), (.tv 131)] [(.var 110), (.lit (.ofNat 0)), (.var 140), (.lit (.ofNat 0)), (.var 141)])), (.fact (.sem 1 sem1 [(.tv 121)] [(.var 110)]))])], by kernel_rfl, by
  intro ρ hk ob hob hp rr hr
  have hF : ∀ g ∈ F_M02, Fact.holds ρ g := fun g hg => hk g (List.mem_append_left _ hg)
  have h0 : waits (((.tv 120) : E).tden ρ) [((((.tv 130) : E).tden ρ), (0 : Int), (((.var 140) : E).den ρ)), ((((.tv 131) : E).tden ρ), (0 : Int), (((.var 141) : E).den ρ))] (((.var 110) : E).den ρ) := hF (.sem 0 sem0 [(.tv 120), (.tv 130), (.tv 131)] [(.var 110), z, (.var 140), z, (.var 141)]) (by simp [F_M02])
  have h1 : rows (((.tv 121) : E).tden ρ) (((.var 110) : E).den ρ) := hF (.sem 1 sem1 [(.tv 121)] [(.var 110)]) (by simp [F_M02])
  have b110_100 : 0 ≤ ρ.v 110 ∧ ρ.v 110 ≤ 100 := rng_iff.1 (hF (r 110 0 100) (by simp [F_M02]))
  have b140_100 : 1 ≤ ρ.v 140 ∧ ρ.v 140 ≤ 100 := rng_iff.1 (hF (r 140 1 100) (by simp [F_M02]))
  have b141_100 : 1 ≤ ρ.v 141 ∧ ρ.v 141 ≤ 100 := rng_iff.1 (hF (r 141 1 100) (by simp [F_M02]))
  have b112_0 : 0 ≤ ρ.v 112 ∧ ρ.v 112 ≤ 0 := rng_iff.1 (hF (r 112 0 0) (by simp [F_M02]))
  simp only [List.mem_cons, List.not_mem_nil, or_false] at hob
  rcases hob with rfl
  · simp only [List.mem_cons, List.not_mem_nil, or_false] at hr
    rcases hr with rfl | rfl
    · exact h0
    · exact h1
⟩
theorem good_l1_72_0 : GoodP rnL cd10 (F_I02 ++ lem_l1_72) T_I02.toS (some ⟨T_I02, F_I02, [(111, some 101), (112, none)], []⟩) [(8, ⟨T_N02, F_N02, [(112, none)], []⟩), (7, ⟨T_N02, F_N02, [(112, none)], []⟩), (6, ⟨T_Q, F_Q, [], []⟩)] [] := ⟨[([((.bin .lt (.un (.wrap .i64) (.get (.tv 130) (.var 111) 0)) (.lit (.ofNat 0))), true), ((.bin .lt (.var 111) (.var 140)), true), ((.bin .lt (.var 140) (.var 111)), false), ((.bin .lt (.var 110) (.var 141)), false), ((.bin .lt (.var 110) (.var 140)), false)], [(.done (.lit (.ofNat 0)))]),
  ([((.bin .lt (.un (.wrap .i64) (.get (.tv 130) (.var 111) 0)) (.lit (.ofNat 100))), false), ((.bin .lt (.un (.wrap .i64) (.get (.tv 130) (.var 111) 0)) (.lit (.ofNat 0))), false), ((.bin .lt (.var 111) (.var 140)), true), ((.bin .lt (.var 140) (.var 111)), false), ((.bin .lt (.var 110) (.var 141)), false), ((.bin .lt (.var 110) (.var 140)), false)], [(.done (.lit (.ofNat 0)))]),
  ([((.bin .lt (.un (.wrap .i64) (.get (.tv 130) (.var 111) 0)) (.lit (.ofNat 100))), true), ((.bin .lt (.un (.wrap .i64) (.get (.tv 130) (.var 111) 0)) (.lit (.ofNat 0))), false), ((.bin .lt (.var 111) (.var 140)), true), ((.bin .lt (.var 140) (.var 111)), false), ((.bin .lt (.var 110) (.var 141)), false), ((.bin .lt (.var 110) (.var 140)), false)], [(.fact (.sem 0 sem0 [(.upd (.tv 120) (.un (.wrap .i64) (.get (.tv 130) (.var 111) 0)) 0 (.bin (.add .i64) (.un (.wrap .i64) (.get (.tv 120) (.un (.wrap .i64) (.get (.tv 130) (.var 111) 0)) 0)) (.lit (.ofNat 1)))), (.tv 130), (.tv 131)] [(.var 110), (.bin (.add .i64) (.var 111) (.lit (.ofNat 1))), (.var 140), (.lit (.ofNat 0)), (.var 141)])), (.fact (.sem 1 sem1 [(.tv 121)] [(.var 110)]))]),
  ([((.bin .lt (.var 111) (.var 140)), false), ((.bin .lt (.var 140) (.var 111)), false), ((.bin .lt (.var 110) (.var 141)), false), ((.bin .lt (.var 110) (.var 140)), false)], [(.fact (.sem 0 sem0 [(.tv 120), (.tv 131)] [(.var 110), (.lit (.ofNat 0)), (.var 141)])), (.fact (.sem 1 sem1 [(.tv 121)] [(.var 110)]))])], by kernel_rfl, by
  intro ρ hk ob hob hp rr hr
  have hF : ∀ g ∈ F_I02, Fact.holds ρ g := fun g hg => hk g (List.mem_append_left _ hg)
  have h0 : waits (((.tv 120) : E).tden ρ) [((((.tv 130) : E).tden ρ), (((.var 111) : E).den ρ), (((.var 140) : E).den ρ)), ((((.tv 131) : E).tden ρ), (0 : Int), (((.var 141) : E).den ρ))] (((.var 110) : E).den ρ) := hF (.sem 0 sem0 [(.tv 120), (.tv 130), (.tv 131)] [(.var 110), (.var 111), (.var 140), z, (.var 141)]) (by simp [F_I02])
  have h1 : rows (((.tv 121) : E).tden ρ) (((.var 110) : E).den ρ) := hF (.sem 1 sem1 [(.tv 121)] [(.var 110)]) (by simp [F_I02])
  have b110_100 : 0 ≤ ρ.v 110 ∧ ρ.v 110 ≤ 100 := rng_iff.1 (hF (r 110 0 100) (by simp [F_I02]))
  have b140_100 : 1 ≤ ρ.v 140 ∧ ρ.v 140 ≤ 100 := rng_iff.1 (hF (r 140 1 100) (by simp [F_I02]))
  have b141_100 : 1 ≤ ρ.v 141 ∧ ρ.v 141 ≤ 100 := rng_iff.1 (hF (r 141 1 100) (by simp [F_I02]))
  have b112_0 : 0 ≤ ρ.v 112 ∧ ρ.v 112 ≤ 0 := rng_iff.1 (hF (r 112 0 0) (by simp [F_I02]))
  have b111_100 : 0 ≤ ρ.v 111 ∧ ρ.v 111 ≤ 100 := rng_iff.1 (hF (r 111 0 100) (by simp [F_I02]))
  simp only [List.mem_cons, List.not_mem_nil, or_false] at hob
  rcases hob with rfl | rfl | rfl | rfl
  · simp only [List.mem_cons, List.not_mem_nil, or_false] at hr
    have t0 := lt_iff.1 (hp ((.bin .lt (.un (.wrap .i64) (.get (.tv 130) (.var 111) 0)) (.lit (.ofNat 0))), true) (by simp))
    simp only [E.den, UO.den, iff_true, Int.ofNat_eq_natCast] at t0
    have t1 := lt_iff.1 (hp ((.bin .lt (.var 111) (.var 140)), true) (by simp))
    simp only [E.den, UO.den, iff_true, Int.ofNat_eq_natCast] at t1
    have t2 := lt_iff.1 (hp ((.bin .lt (.var 140) (.var 111)), false) (by simp))
    simp only [E.den, UO.den, Bool.false_eq_true, iff_false, Int.ofNat_eq_natCast] at t2
    rcases hr with rfl
    · exfalso
      have h3 := h0.2.2 _ (List.mem_cons_self ..) (ρ.v 111) (Int.le_refl _) (by simp only [E.den]; omega)
      simp only [rd, E.den, E.tden] at h3
      simp only [E.tden] at t0
      omega
  · simp only [List.mem_cons, List.not_mem_nil, or_false] at hr
    have t0 := lt_iff.1 (hp ((.bin .lt (.un (.wrap .i64) (.get (.tv 130) (.var 111) 0)) (.lit (.ofNat 100))), false) (by simp))
    simp only [E.den, UO.den, Bool.false_eq_true, iff_false, Int.ofNat_eq_natCast] at t0
    have t1 := lt_iff.1 (hp ((.bin .lt (.un (.wrap .i64) (.get (.tv 130) (.var 111) 0)) (.lit (.ofNat 0))), false) (by simp))
    simp only [E.den, UO.den, Bool.false_eq_true, iff_false, Int.ofNat_eq_natCast] at t1
    have t2 := lt_iff.1 (hp ((.bin .lt (.var 111) (.var 140)), true) (by simp))
    simp only [E.den, UO.den, iff_true, Int.ofNat_eq_natCast] at t2
    have t3 := lt_iff.1 (hp ((.bin .lt (.var 140) (.var 111)), false) (by simp))
    simp only [E.den, UO.den, Bool.false_eq_true, iff_false, Int.ofNat_eq_natCast] at t3
    rcases hr with rfl
    · exfalso
      have h3 := h0.2.2 _ (List.mem_cons_self ..) (ρ.v 111) (Int.le_refl _) (by simp only [E.den]; omega)
      simp only [rd, E.den, E.tden] at h3
      simp only [E.tden] at t0
      omega
  · simp only [List.mem_cons, List.not_mem_nil, or_false] at hr
    have t0 := lt_iff.1 (hp ((.bin .lt (.un (.wrap .i64) (.get (.tv 130) (.var 111) 0)) (.lit (.ofNat 100))), true) (by simp))
    simp only [E.den, UO.den, iff_true, Int.ofNat_eq_natCast] at t0
    have t1 := lt_iff.1 (hp ((.bin .lt (.un (.wrap .i64) (.get (.tv 130) (.var 111) 0)) (.lit (.ofNat 0))), false) (by simp))
    simp only [E.den, UO.den, Bool.false_eq_true, iff_false, Int.ofNat_eq_natCast] at t1
    have t2 := lt_iff.1 (hp ((.bin .lt (.var 111) (.var 140)), true) (by simp))
    simp only [E.den, UO.den, iff_true, Int.ofNat_eq_natCast] at t2
    have t3 := lt_iff.1 (hp ((.bin .lt (.var 140) (.var 111)), false) (by simp))
    simp only [E.den, UO.den, Bool.false_eq_true, iff_false, Int.ofNat_eq_natCast] at t3
    rcases hr with rfl | rfl
    · show waits (((.upd (.tv 120) (.un (.wrap .i64) (.get (.tv 130) (.var 111) 0)) 0 (.bin (.add .i64) (.un (.wrap .i64) (.get (.tv 120) (.un (.wrap .i64) (.get (.tv 130) (.var 111) 0)) 0)) (.lit (.ofNat 1)))) : E).tden ρ) [((((.tv 130) : E).tden ρ), (((.bin (.add .i64) (.var 111) (.lit (.ofNat 1))) : E).den ρ), (((.var 140) : E).den ρ)), ((((.tv 131) : E).tden ρ), (0 : Int), (((.var 141) : E).den ρ))] (((.var 110) : E).den ρ)
      exact waits_step h0 (by simp only [E.den]; omega) (by simp only [E.den, BO.den]; exact add_i64 (by omega) (by omega)) (by simp only [E.den]; omega) (fun r => by simp only [E.tden, E.den, BO.den, UO.den, rd, and_true]; rfl)
    · exact h1
  · simp only [List.mem_cons, List.not_mem_nil, or_false] at hr
    have t0 := lt_iff.1 (hp ((.bin .lt (.var 111) (.var 140)), false) (by simp))
    simp only [E.den, UO.den, Bool.false_eq_true, iff_false, Int.ofNat_eq_natCast] at t0
    have t1 := lt_iff.1 (hp ((.bin .lt (.var 140) (.var 111)), false) (by simp))
    simp only [E.den, UO.den, Bool.false_eq_true, iff_false, Int.ofNat_eq_natCast] at t1
    rcases hr with rfl | rfl
    · exact waits_drop h0 (by simp only [E.den]; omega)
    · exact h1
⟩
theorem good_l1_73_0 : GoodP rnL (cd8.drop 3) (F_N02 ++ lem_l1_73) T_N02.toS (some ⟨T_M00, F_M00, [(112, some 5)], fm13⟩) [(6, ⟨T_Q, F_Q, [], []⟩)] [] := ⟨[([((.bin .lt (.var 110) (.var 141)), false)], [(.fact (.sem 0 sem0 [(.tv 120), (.tv 131)] [(.var 110), (.lit (.ofNat 0)), (.var 141)])), (.fact (.sem 1 sem1 [(.tv 121)] [(.var 110)]))])], by kernel_rfl, by
  intro ρ hk ob hob hp rr hr
  have hF : ∀ g ∈ F_N02, Fact.holds ρ g := fun g hg => hk g (List.mem_append_left _ hg)
  have h0 : waits (((.tv 120) : E).tden ρ) [((((.tv 131) : E).tden ρ), (0 : Int), (((.var 141) : E).den ρ))] (((.var 110) : E).den ρ) := hF (.sem 0 sem0 [(.tv 120), (.tv 131)] [(.var 110), z, (.var 141)]) (by simp [F_N02])
  have h1 : rows (((.tv 121) : E).tden ρ) (((.var 110) : E).den ρ) := hF (.sem 1 sem1 [(.tv 121)] [(.var 110)]) (by simp [F_N02])
  have b110_100 : 0 ≤ ρ.v 110 ∧ ρ.v 110 ≤ 100 := rng_iff.1 (hF (r 110 0 100) (by simp [F_N02]))
  have b141_100 : 1 ≤ ρ.v 141 ∧ ρ.v 141 ≤ 100 := rng_iff.1 (hF (r 141 1 100) (by simp [F_N02]))
  have b112_0 : 0 ≤ ρ.v 112 ∧ ρ.v 112 ≤ 0 := rng_iff.1 (hF (r 112 0 0) (by simp [F_N02]))
  simp only [List.mem_cons, List.not_mem_nil, or_false] at hob
  rcases hob with rfl
  · simp only [List.mem_cons, List.not_mem_nil, or_false] at hr
    rcases hr with rfl | rfl
    · exact h0
    · exact h1
⟩
theorem good_l1_74_0 : GoodP rnL (cd8.take 2) (F_M03 ++ lem_l1_74) T_M03.toS (some ⟨T_M03, F_M03, [(112, none)], []⟩) [(6, ⟨T_Q, F_Q, [], []⟩)] [] := ⟨[([((.bin .lt (.var 110) (.var 142)), false), ((.bin .lt (.var 110) (.var 141)), false), ((.bin .lt (.var 110) (.var 140)), false)], [(.fact (.sem 0 sem0 [(.tv 120), (.tv 130), (.tv 131), (.tv 132)] [(.var 110), (.lit (.ofNat 0)), (.var 140), (.lit (.ofNat 0)), (.var 141), (.lit (.ofNat 0)), (.var 142)])), (.fact (.sem 1 sem1 [(.tv 121)] [(.var 110)]))])], by kernel_rfl, by
  intro ρ hk ob hob hp rr hr
  have hF : ∀ g ∈ F_M03, Fact.holds ρ g := fun g hg => hk g (List.mem_append_left _ hg)
  have h0 : waits (((.tv 120) : E).tden ρ) [((((.tv 130) : E).tden ρ), (0 : Int), (((.var 140) : E).den ρ)), ((((.tv 131) : E).tden ρ), (0 : Int), (((.var 141) : E).den ρ)), ((((.tv 132) : E).tden ρ), (0 : Int), (((.var 142) : E).den ρ))] (((.var 110) : E).den ρ) := hF (.sem 0 sem0 [(.tv 120), (.tv 130), (.tv 131), (.tv 132)] [(.var 110), z, (.var 140), z, (.var 141), z, (.var 142)]) (by simp [F_M03])
  have h1 : rows (((.tv 121) : E).tden ρ) (((.var 110) : E).den ρ) := hF (.sem 1 sem1 [(.tv 121)] [(.var 110)]) (by simp [F_M03])
  have b110_100 : 0 ≤ ρ.v 110 ∧ ρ.v 110 ≤ 100 := rng_iff.1 (hF (r 110 0 100) (by simp [F_M03]))
  have b140_100 : 1 ≤ ρ.v 140 ∧ ρ.v 140 ≤ 100 := rng_iff.1 (hF (r 140 1 100) (by simp [F_M03]))
  have b141_100 : 1 ≤ ρ.v 141 ∧ ρ.v 141 ≤ 100 := rng_iff.1 (hF (r 141 1 100) (by simp [F_M03]))
  have b142_100 : 1 ≤ ρ.v 142 ∧ ρ.v 142 ≤ 100 := rng_iff.1 (hF (r 142 1 100) (by simp [F_M03]))
  have b112_0 : 0 ≤ ρ.v 112 ∧ ρ.v 112 ≤ 0 := rng_iff.1 (hF (r 112 0 0) (by simp [F_M03]))
  simp only [List.mem_cons, List.not_mem_nil, or_false] at hob
  rcases hob with rfl
  · simp only [List.mem_cons, List.not_mem_nil, or_false] at hr
    rcases hr with rfl | rfl
    · exact h0
    · exact h1
⟩
theorem good_l1_75_0 : GoodP rnL (cd9.take 2) (F_M03 ++ lem_l1_75) T_M03.toS (some ⟨T_I03, F_I03, [(112, none)], []⟩) [(7, ⟨T_N03, F_N03, [(112, none)], []⟩), (6, ⟨T_Q, F_Q, [], []⟩)] [] := ⟨[([((.bin .lt (.var 110) (.var 142)), false), ((.bin .lt (.var 110) (.var 141)), false), ((.bin .lt (.var 110) (.var 140)), false)], [(.fact (.sem 0 sem0 [(.tv 120), (.tv 130), (.tv 131), (.tv 132)] [(.var 110), (.lit (.ofNat 0)), (.var 140), (.lit (.ofNat 0)), (.var 141), (.lit (.ofNat 0)), (.var 142)])), (.fact (.sem 1 sem1 [(.tv 121)] [(.var 110)]))])], by kernel_rfl, by
  intro ρ hk ob hob hp rr hr
  have hF : ∀ g ∈ F_M03, Fact.holds ρ g := fun g hg => hk g (List.mem_append_left _ hg)
  have h0 : waits (((.tv 120) : E).tden ρ) [((((.tv 130) : E).tden ρ), (0 : Int), (((.var 140) : E).den ρ)), ((((.tv 131) : E).tden ρ), (0 : Int), (((.var 141) : E).den ρ)), ((((.tv 132) : E).tden ρ), (0 : Int), (((.var 142) : E).den ρ))] (((.var 110) : E).den ρ) := hF (.sem 0 sem0 [(.tv 120), (.tv 130), (.tv 131), (.tv 132)] [(.var 110), z, (.var 140), z, (.var 141), z, (.var 142)]) (by simp [F_M03])
  have h1 : rows (((.tv 121) : E).tden ρ) (((.var 110) : E).den ρ) := hF (.sem 1 sem1 [(.tv 121)] [(.var 110)]) (by simp [F_M03])
  have b110_100 : 0 ≤ ρ.v 110 ∧ ρ.v 110 ≤ 100 := rng_iff.1 (hF (r 110 0 100) (by simp [F_M03]))
  have b140_100 : 1 ≤ ρ.v 140 ∧ ρ.v 140 ≤ 100 := rng_iff.1 (hF (r 140 1 100) (by simp [F_M03]))
  have b141_100 : 1 ≤ ρ.v 141 ∧ ρ.v 141 ≤ 100 := rng_iff.1 (hF (r 141 1 100) (by simp [F_M03]))
  have b142_100 : 1 ≤ ρ.v 142 ∧ ρ.v 142 ≤ 100 := rng_iff.1 (hF (r 142 1 100) (by simp [F_M03]))
  have b112_0 : 0 ≤ ρ.v 112 ∧ ρ.v 112 ≤ 0 := rng_iff.1 (hF (r 112 0 0) (by simp [F_M03]))
  simp only [List.mem_cons, List.not_mem_nil, or_false] at hob
  rcases hob with rfl
  · simp only [List.mem_cons, List.not_mem_nil, or_false] at hr
    rcases hr with rfl | rfl
    · exact h0
    · exact h1
⟩
theorem good_l1_76_0 : GoodP rnL cd10 (F_I03 ++ lem_l1_76) T_I03.toS (some ⟨T_I03, F_I03, [(111, some 101), (112, none)], []⟩) [(8, ⟨T_N03, F_N03, [(112, none)], []⟩), (7, ⟨T_N03, F_N03, [(112, none)], []⟩), (6, ⟨T_Q, F_Q, [], []⟩)] [] := ⟨[([((.bin .lt (.un (.wrap .i64) (.get (.tv 130) (.var 111) 0)) (.lit (.ofNat 0))), true), ((.bin .lt (.var 111) (.var 140)), true), ((.bin .lt (.var 140) (.var 111)), false), ((.bin .lt (.var 110) (.var 142)), false), ((.bin .lt (.var 110) (.var 141)), false), ((.bin .lt (.var 110) (.var 140)), false)], [(.done (.lit (.ofNat 0)))]),
  ([((.bin .lt (.un (.wrap .i64) (.get (.tv 130) (.var 111) 0)) (.lit (.ofNat 100))), false), ((.bin .lt (.un (.wrap .i64) (.get (.tv 130) (.var 111) 0)) (.lit (.ofNat 0))), false), ((.bin .lt (.var 111) (.var 140)), true), ((.bin .lt (.var 140) (.var 111)), false), ((.bin .lt (.var 110) (.var 142)), false), ((.bin .lt (.var 110) (.var 141)), false), ((.bin .lt (.var 110) (.var 140)), false)], [(.done (.lit (.ofNat 0)))]),
  ([((.bin .lt (.un (.wrap .i64) (.get (.tv 130) (.var 111) 0)) (.lit (.ofNat 100))), true), ((.bin .lt (.un (.wrap .i64) (.get (.tv 130) (.var 111) 0)) (.lit (.ofNat 0))), false), ((.bin .lt (.var 111) (.var 140)), true), ((.bin .lt (.var 140) (.var 111)), false), ((.bin .lt (.var 110) (.var 142)), false), ((.bin .lt (.var 110) (.var 141)), false), ((.bin .lt (.var 110) (.var 140)), false)], [(.fact (.sem 0 sem0 [(.upd (.tv 120) (.un (.wrap .i64) (.get (.tv 130) (.var 111) 0)) 0 (.bin (.add .i64) (.un (.wrap .i64) (.get (.tv 120) (.un (.wrap .i64) (.get (.tv 130) (.var 111) 0)) 0)) (.lit (.ofNat 1)))), (.tv 130), (.tv 131), (.tv 132)] [(.var 110), (.bin (.add .i64) (.var 111) (.lit (.ofNat 1))), (.var 140), (.lit (.ofNat 0)), (.var 141), (.lit (.ofNat 0)), (.var 142)])), (.fact (.sem 1 sem1 [(.tv 121)] [(.var 110)]))]),
  ([((.bin .lt (.var 111) (.var 140)), false), ((.bin .lt (.var 140) (.var 111)), false), ((.bin .lt (.var 110) (.var 142)), false), ((.bin .lt (.var 110) (.var 141)), false), ((.bin .lt (.var 110) (.var 140)), false)], [(.fact (.sem 0 sem0 [(.tv 120), (.tv 131), (.tv 132)] [(.var 110), (.lit (.ofNat 0)), (.var 141), (.lit (.ofNat 0)), (.var 142)])), (.fact (.sem 1 sem1 [(.tv 121)] [(.var 110)]))])], by kernel_rfl, by
  intro ρ hk ob hob hp rr hr
  have hF : ∀ g ∈ F_I03, Fact.holds ρ g := fun g hg => hk g (List.mem_append_left _ hg)
  have h0 : waits (((.tv 120) : E).tden ρ) [((((.tv 130) : E).tden ρ), (((.var 111) : E).den ρ), (((.var 140) : E).den ρ)), ((((.tv 131) : E).tden ρ), (0 : Int), (((.var 141) : E).den ρ)), ((((.tv 132) : E).tden ρ), (0 : Int), (((.var 142) : E).den ρ))] (((.var 110) : E).den ρ) := hF (.sem 0 sem0 [(.tv 120), (.tv 130), (.tv 131), (.tv 132)] [(.var 110), (.var 111), (.var 140), z, (.var 141), z, (.var 142)]) (by simp [F_I03])
  have h1 : rows (((.tv 121) : E).tden ρ) (((.var 110) : E).den ρ) := hF (.sem 1 sem1 [(.tv 121)] [(.var 110)]) (by simp [F_I03])
  have b110_100 : 0 ≤ ρ.v 110 ∧ ρ.v 110 ≤ 100 := rng_iff.1 (hF (r 110 0 100) (by simp [F_I03]))
  have b140_100 : 1 ≤ ρ.v 140 ∧ ρ.v 140 ≤ 100 := rng_iff.1 (hF (r 140 1 100) (by simp [F_I03]))
  have b141_100 : 1 ≤ ρ.v 141 ∧ ρ.v 141 ≤ 100 := rng_iff.1 (hF (r 141 1 100) (by simp [F_I03]))
  have b142_100 : 1 ≤ ρ.v 142 ∧ ρ.v 142 ≤ 100 := rng_iff.1 (hF (r 142 1 100) (by simp [F_I03]))
  have b112_0 : 0 ≤ ρ.v 112 ∧ ρ.v 112 ≤ 0 := rng_iff.1 (hF (r 112 0 0) (by simp [F_I03]))
  have b111_100 : 0 ≤ ρ.v 111 ∧ ρ.v 111 ≤ 100 := rng_iff.1 (hF (r 111 0 100) (by simp [F_I03]))
  simp only [List.mem_cons, List.not_mem_nil, or_false] at hob
  rcases hob with rfl | rfl | rfl | rfl
  · simp only [List.mem_cons, List.not_mem_nil, or_false] at hr
    have t0 := lt_iff.1 (hp ((.bin .lt (.un (.wrap .i64) (.get (.tv 130) (.var 111) 0)) (.lit (.ofNat 0))), true) (by simp))
    simp only [E.den, UO.den, iff_true, Int.ofNat_eq_natCast] at t0
    have t1 := lt_iff.1 (hp ((.bin .lt (.var 111) (.var 140)), true) (by simp))
    simp only [E.den, UO.den, iff_true, Int.ofNat_eq_natCast] at t1
    have t2 := lt_iff.1 (hp ((.bin .lt (.var 140) (.var 111)), false) (by simp))
    simp only [E.den, UO.den, Bool.false_eq_true, iff_false, Int.ofNat_eq_natCast] at t2
    rcases hr with rfl
    · exfalso
      have h3 := h0.2.2 _ (List.mem_cons_self ..) (ρ.v 111) (Int.le_refl _) (by simp only [E.den]; omega)
      simp only [rd, E.den, E.tden] at h3
      simp only [E.tden] at t0
      omega
  · simp only [List.mem_cons, List.not_mem_nil, or_false] at hr
    have t0 := lt_iff.1 (hp ((.bin .lt (.un (.wrap .i64) (.get (.tv 130) (.var 111) 0)) (.lit (.ofNat 100))), false) (by simp))
    simp only [E.den, UO.den, Bool.false_eq_true, iff_false, Int.ofNat_eq_natCast] at t0
    have t1 := lt_iff.1 (hp ((.bin .lt (.un (.wrap .i64) (.get (.tv 130) (.var 111) 0)) (.lit (.ofNat 0))), false) (by simp))
    simp only [E.den, UO.den, Bool.false_eq_true, iff_false, Int.ofNat_eq_natCast] at t1
    have t2 := lt_iff.1 (hp ((.bin .lt (.var 111) (.var 140)), true) (by simp))
    simp only [E.den, UO.den, iff_true, Int.ofNat_eq_natCast] at t2
    have t3 := lt_iff.1 (hp ((.bin .lt (.var 140) (.var 111)), false) (by simp))
    simp only [E.den, UO.den, Bool.false_eq_true, iff_false, Int.ofNat_eq_natCast] at t3
    rcases hr with rfl
    · exfalso
      have h3 := h0.2.2 _ (List.mem_cons_self ..) (ρ.v 111) (Int.le_refl _) (by simp only [E.den]; omega)
      simp only [rd, E.den, E.tden] at h3
      simp only [E.tden] at t0
      omega
  · simp only [List.mem_cons, List.not_mem_nil, or_false] at hr
    have t0 := lt_iff.1 (hp ((.bin .lt (.un (.wrap .i64) (.get (.tv 130) (.var 111) 0)) (.lit (.ofNat 100))), true) (by simp))
    simp only [E.den, UO.den, iff_true, Int.ofNat_eq_natCast] at t0
    have t1 := lt_iff.1 (hp ((.bin .lt (.un (.wrap .i64) (.get (.tv 130) (.var 111) 0)) (.lit (.ofNat 0))), false) (by simp))
    simp only [E.den, UO.den, Bool.false_eq_true, iff_false, Int.ofNat_eq_natCast] at t1
    have t2 := lt_iff.1 (hp ((.bin .lt (.var 111) (.var 140)), true) (by simp))
    simp only [E.den, UO.den, iff_true, Int.ofNat_eq_natCast] at t2
    have t3 := lt_iff.1 (hp ((.bin .lt (.var 140) (.var 111)), false) (by simp))
    simp only [E.den, UO.den, Bool.false_eq_true, iff_false, Int.ofNat_eq_natCast] at t3
    rcases hr with rfl | rfl
    · show waits (((.upd (.tv 120) (.un (.wrap .i64) (.get (.tv 130) (.var 111) 0)) 0 (.bin (.add .i64) (.un (.wrap .i64) (.get (.tv 120) (.un (.wrap .i64) (.get (.tv 130) (.var 111) 0)) 0)) (.lit (.ofNat 1)))) : E).tden ρ) [((((.tv 130) : E).tden ρ), (((.bin (.add .i64) (.var 111) (.lit (.ofNat 1))) : E).den ρ), (((.var 140) : E).den ρ)), ((((.tv 131) : E).tden ρ), (0 : Int), (((.var 141) : E).den ρ)), ((((.tv 132) : E).tden ρ), (0 : Int), (((.var 142) : E).den ρ))] (((.var 110) : E).den ρ)
      exact waits_step h0 (by simp only [E.den]; omega) (by simp only [E.den, BO.den]; exact add_i64 (by omega) (by omega)) (by simp only [E.den]; omega) (fun r => by simp only [E.tden, E.den, BO.den, UO.den, rd, and_true]; rfl)
    · exact h1
  · simp only [List.mem_cons, List.not_mem_nil, or_false] at hr
    have t0 := lt_iff.1 (hp ((.bin .lt (.var 111) (.var 140)), false) (by simp))
    simp only [E.den, UO.den, Bool.false_eq_true, iff_false, Int.ofNat_eq_natCast] at t0
    have t1 := lt_iff.1 (hp ((.bin .lt (.var 140) (.var 111)), false) (by simp))
    simp only [E.den, UO.den, Bool.false_eq_true, iff_false, Int.ofNat_eq_natCast] at t1
    rcases hr with rfl | rfl
    · exact waits_drop h0 (by simp only [E.den]; omega)
    · exact h1
⟩
theorem good_l1_77_0 : GoodP rnL (cd8.drop 3) (F_N03 ++ lem_l1_77) T_N03.toS (some ⟨T_M00, F_M00, [(112, some 5)], fm13⟩) [(6, ⟨T_Q, F_Q, [], []⟩)] [] := ⟨[([((.bin .lt (.var 110) (.var 142)), false), ((.bin .lt (.var 110) (.var 141)), false)], [(.fact (.sem 0 sem0 [(.tv 120), (.tv 131), (.tv 132)] [(.var 110), (.lit (.ofNat 0)), (.var 141), (.lit (.ofNat 0)), (.var 142)])), (.fact (.sem 1 sem1 [(.tv 121)] [(.var 110)]))])], by kernel_rfl, by
  intro ρ hk ob hob hp rr hr
  have hF : ∀ g ∈ F_N03, Fact.holds ρ g := fun g hg => hk g (List.mem_append_left _ hg)
  have h0 : waits (((.tv 120) : E).tden ρ) [((((.tv 131) : E).tden ρ), (0 : Int), (((.var 141) : E).den ρ)), ((((.tv 132) : E).tden ρ), (0 : Int), (((.var 142) : E).den ρ))] (((.var 110) : E).den ρ) := hF (.sem 0 sem0 [(.tv 120), (.tv 131), (.tv 132)] [(.var 110), z, (.var 141), z, (.var 142)]) (by simp [F_N03])
  have h1 : rows (((.tv 121) : E).tden ρ) (((.var 110) : E).den ρ) := hF (.sem 1 sem1 [(.tv 121)] [(.var 110)]) (by simp [F_N03])
  have b110_100 : 0 ≤ ρ.v 110 ∧ ρ.v 110 ≤ 100 := rng_iff.1 (hF (r 110 0 100) (by simp [F_N03]))
  have b141_100 : 1 ≤ ρ.v 141 ∧ ρ.v 141 ≤ 100 := rng_iff.1 (hF (r 141 1 100) (by simp [F_N03]))
  have b142_100 : 1 ≤ ρ.v 142 ∧ ρ.v 142 ≤ 100 := rng_iff.1 (hF (r 142 1 100) (by simp [F_N03]))
  have b112_0 : 0 ≤ ρ.v 112 ∧ ρ.v 112 ≤ 0 := rng_iff.1 (hF (r 112 0 0) (by simp [F_N03]))
  simp only [List.mem_cons, List.not_mem_nil, or_false] at hob
  rcases hob with rfl
  · simp only [List.mem_cons, List.not_mem_nil, or_false] at hr
    rcases hr with rfl | rfl
    · exact h0
    · exact h1
⟩
end Go.Proofs.Ytdicippbniglpaa.mshrWaits
