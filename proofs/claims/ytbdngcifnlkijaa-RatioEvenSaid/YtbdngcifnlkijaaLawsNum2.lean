/- The walks of the laws RatioBack, RatioDistance, RatioEven. -/
import Derived.Test.YtbdngcifnlkijaaWalks3
import Derived.Test.YtbdngcifnlkijaaNum5
namespace Go.Proofs.Ytbdngcifnlkijaa
open Go.RowKit
set_option linter.unusedVariables false

theorem ord_rung {p q : Nat} (h : p ≤ q) (hq : q ≤ 2047 * 2 ^ 52) : ordV (p : Int) (q : Int) ≤ 0 := by
  have h1 : selfEq ((p : Int).toNat) = true := by rw [Int.toNat_natCast]; exact selfEq_rung (by omega)
  have h2 : selfEq ((q : Int).toNat) = true := by rw [Int.toNat_natCast]; exact selfEq_rung hq
  unfold ordV
  rw [rank_of h1, rank_of h2, if_neg (by omega), if_neg (by omega)]
  unfold cmpI
  split
  · omega
  · rw [if_neg (by omega)]; omega

theorem ord_pace {p d : Int} (p0 : 0 ≤ p) (p1 : p ≤ 1099511627776) (d0 : 8192 ≤ d) (d1 : d ≤ 18446744073709551615) : ordV (ofV p d) (ofV p 8192) ≤ 0 := by
  by_cases h : p = 0
  · subst h
    rw [ofV_zero (by omega) d1, ofV_zero (by omega) (by omega)]
    exact ord_rung (p := 0) (q := 0) (by omega) (by omega)
  · obtain ⟨q, hq, hle⟩ := pace_le (pages := p) (by omega) p1 d0 d1
    rw [hq, pace_page (by omega) p1]
    exact ord_rung hle (rung_le _ _)

theorem times_pace2 {p d : Int} (p0 : 0 ≤ p) (p1 : p ≤ 1099511627776) (d0 : 8192 ≤ d) (d1 : d ≤ 18446744073709551615) : timesV 8192 (ofV p d) ≤ p := by
  by_cases h : p = 0
  · subst h
    rw [ofV_zero (by omega) d1]
    have hr : rd (0 : Int).toNat = .number false 0 (-1074) := rd_0
    rw [timesV_pos (by omega) (by omega) hr, Nat.mul_zero, rung_zero]; decide
  · obtain ⟨q, hq, hle⟩ := pace_le (pages := p) (by omega) p1 d0 d1
    rw [hq]
    exact times_pace (by omega) p1 hle

theorem back_skip1 (a n : Int) (w : World) (h : n < 1) :
    Calls Try.prog 5 #[.int .u64 a, .int .u64 n] w fun e w' => e = .returned (.bool true) ∧ Grown w w' := by
  go_enter Try.func5, Try.ntmps5
  go_wp2_with (first | (go_at_call 14; refine (of_any _ _ _).mono ?_; rintro e w1 ⟨rfl, hg1⟩) | (go_at_call 16; refine (times_any _ _ _).mono ?_; rintro e w1 ⟨rfl, hg2⟩) | (go_at_call 18; refine (awake_any _).mono ?_; rintro e w1 ⟨rfl, hg5⟩))
  go_ret
  exact ⟨rfl, by repeat (first | exact Grown.refl _ | assumption | refine grown_trans ?_ (by assumption))⟩

theorem back_skip2 (a n : Int) (w : World) (h : 67108864 < n) :
    Calls Try.prog 5 #[.int .u64 a, .int .u64 n] w fun e w' => e = .returned (.bool true) ∧ Grown w w' := by
  go_enter Try.func5, Try.ntmps5
  go_wp2_with (first | (go_at_call 14; refine (of_any _ _ _).mono ?_; rintro e w1 ⟨rfl, hg1⟩) | (go_at_call 16; refine (times_any _ _ _).mono ?_; rintro e w1 ⟨rfl, hg2⟩) | (go_at_call 18; refine (awake_any _).mono ?_; rintro e w1 ⟨rfl, hg5⟩))
  go_ret
  exact ⟨rfl, by repeat (first | exact Grown.refl _ | assumption | refine grown_trans ?_ (by assumption))⟩

theorem back_skip3 (a n : Int) (w : World) (h0 : 1 ≤ n) (h1 : n ≤ 67108864) (h : 67108864 < a) :
    Calls Try.prog 5 #[.int .u64 a, .int .u64 n] w fun e w' => e = .returned (.bool true) ∧ Grown w w' := by
  go_enter Try.func5, Try.ntmps5
  go_wp2_with (first | (go_at_call 14; refine (of_any _ _ _).mono ?_; rintro e w1 ⟨rfl, hg1⟩) | (go_at_call 16; refine (times_any _ _ _).mono ?_; rintro e w1 ⟨rfl, hg2⟩) | (go_at_call 18; refine (awake_any _).mono ?_; rintro e w1 ⟨rfl, hg5⟩))
  go_ret
  exact ⟨rfl, by repeat (first | exact Grown.refl _ | assumption | refine grown_trans ?_ (by assumption))⟩

theorem back_same (a n : Int) (w : World) (n0 : 1 ≤ n) (n1 : n ≤ 67108864) (a0 : 0 ≤ a) (a1 : a ≤ 67108864) (hx : timesV n (ofV a n) = a) :
    Calls Try.prog 5 #[.int .u64 a, .int .u64 n] w fun e w' => e = .returned (.bool true) ∧ Grown w w' := by
  have ht : ofV (2 * a) (2 * n) = ofV a n := ofV_twice a0 a1 n0 n1
  have hz : (ofV a n == ofV a n) = true := by simp
  go_enter Try.func5, Try.ntmps5
  go_wp2_with (first | (go_at_call 14; refine (of_any _ _ _).mono ?_; rintro e w1 ⟨rfl, hg1⟩) | (go_at_call 16; refine (times_any _ _ _).mono ?_; rintro e w1 ⟨rfl, hg2⟩) | (go_at_call 18; refine (awake_any _).mono ?_; rintro e w1 ⟨rfl, hg5⟩))
  go_ret
  exact ⟨rfl, by repeat (first | exact Grown.refl _ | assumption | refine grown_trans ?_ (by assumption))⟩

theorem back_less (a n : Int) (w : World) (n0 : 1 ≤ n) (n1 : n ≤ 67108864) (a0 : 0 ≤ a) (a1 : a ≤ 67108864) (ha : 1 ≤ a) (hx : timesV n (ofV a n) = a - 1) :
    Calls Try.prog 5 #[.int .u64 a, .int .u64 n] w fun e w' => e = .returned (.bool true) ∧ Grown w w' := by
  have ht : ofV (2 * a) (2 * n) = ofV a n := ofV_twice a0 a1 n0 n1
  have hz : (ofV a n == ofV a n) = true := by simp
  have hne : (a - 1 == a) = false := by simp; omega
  go_enter Try.func5, Try.ntmps5
  go_wp2_with (first | (go_at_call 14; refine (of_any _ _ _).mono ?_; rintro e w1 ⟨rfl, hg1⟩) | (go_at_call 16; refine (times_any _ _ _).mono ?_; rintro e w1 ⟨rfl, hg2⟩) | (go_at_call 18; refine (awake_any _).mono ?_; rintro e w1 ⟨rfl, hg5⟩))
  go_ret
  exact ⟨rfl, by repeat (first | exact Grown.refl _ | assumption | refine grown_trans ?_ (by assumption))⟩

theorem walk_RatioBack (a n : Int) (w0 : (Lit.int .u64 a).wf = true) (w1 : (Lit.int .u64 n).wf = true) (w : World) :
    Calls Try.prog 5 #[.int .u64 a, .int .u64 n] w fun e w' => e = .returned (.bool true) ∧ Grown w w' := by
  obtain ⟨a0, a1⟩ := u64_of w0
  obtain ⟨n0, n1⟩ := u64_of w1
  by_cases h1 : n < 1
  · exact back_skip1 a n w h1
  · by_cases h2 : 67108864 < n
    · exact back_skip2 a n w h2
    · by_cases h3 : 67108864 < a
      · exact back_skip3 a n w (by omega) (by omega) h3
      · by_cases h0 : a = 0
        · subst h0
          refine back_same 0 n w (by omega) (by omega) (by omega) (by omega) ?_
          rw [ofV_zero (by omega) (by omega)]
          have hr : rd (0 : Int).toNat = .number false 0 (-1074) := rd_0
          rw [timesV_pos n0 n1 hr, Nat.mul_zero, rung_zero]; decide
        · have hb := timesV_back (a := a) (n := n) (by omega) (by omega) (by omega) (by omega)
          by_cases hx : timesV n (ofV a n) = a
          · exact back_same a n w (by omega) (by omega) (by omega) (by omega) hx
          · exact back_less a n w (by omega) (by omega) (by omega) (by omega) (by omega) (by omega)

theorem dist_skip (l g p : Int) (w : World) (l0 : 0 ≤ l) (l1 : l ≤ 18446744073709551615) (g0 : 0 ≤ g) (g1 : g ≤ 18446744073709551615) (p0 : 0 ≤ p) (p1 : p ≤ 18446744073709551615) (h : 1099511627776 < p) :
    Calls Try.prog 13 #[.int .u64 l, .int .u64 g, .int .u64 p] w fun e w' => e = .returned (.bool true) ∧ Grown w w' := by
  go_enter Try.func13, Try.ntmps13
  go_wp2_with (first | (go_at_call 14; refine (of_any _ _ _).mono ?_; rintro e w1 ⟨rfl, hg1⟩) | (go_at_call 16; refine (times_any _ _ _).mono ?_; rintro e w1 ⟨rfl, hg2⟩) | (go_at_call 18; refine (awake_any _).mono ?_; rintro e w1 ⟨rfl, hg5⟩))
  go_ret
  exact ⟨rfl, by repeat (first | exact Grown.refl _ | assumption | refine grown_trans ?_ (by assumption))⟩

theorem dist_past (l g p : Int) (w : World) (l0 : 0 ≤ l) (l1 : l ≤ 18446744073709551615) (g0 : 0 ≤ g) (g1 : g ≤ 18446744073709551615) (p0 : 0 ≤ p) (p1 : p ≤ 18446744073709551615) (h : p ≤ 1099511627776) (hc : g ≤ l) :
    Calls Try.prog 13 #[.int .u64 l, .int .u64 g, .int .u64 p] w fun e w' => e = .returned (.bool true) ∧ Grown w w' := by
  have hp : paceV l g p = ofV p 8192 := by unfold paceV wayV; rw [if_neg (by omega)]
  have hs : ordV (ofV p 8192) (ofV p 8192) = 0 := by unfold ordV cmpI; rw [if_neg (by omega), if_neg (by omega)]
  obtain ⟨q0, q1, -⟩ := ofV_cases p 8192
  go_enter Try.func13, Try.ntmps13
  go_wp2_with (first | (go_at_call 14; refine (of_any _ _ _).mono ?_; rintro e w1 ⟨rfl, hg1⟩) | (go_at_call 16; refine (times_any _ _ _).mono ?_; rintro e w1 ⟨rfl, hg2⟩) | (go_at_call 18; refine (awake_any _).mono ?_; rintro e w1 ⟨rfl, hg5⟩) | (go_at_call 22; refine (pace_any _ _ _ _ (by omega) (by omega) (by omega) (by omega)).mono ?_; rintro e w1 ⟨rfl, hg3⟩) | (go_at_call 26; refine (order_any _ _ _ (by omega) (by omega) (by omega) (by omega)).mono ?_; rintro e w' ⟨rfl, rfl⟩))
  go_ret
  exact ⟨rfl, by repeat (first | exact Grown.refl _ | assumption | refine grown_trans ?_ (by assumption))⟩

theorem dist_near (l g p : Int) (w : World) (l0 : 0 ≤ l) (l1 : l ≤ 18446744073709551615) (g0 : 0 ≤ g) (g1 : g ≤ 18446744073709551615) (p0 : 0 ≤ p) (p1 : p ≤ 18446744073709551615) (h : p ≤ 1099511627776) (hc : l < g) (hc2 : g - l ≤ 8192) :
    Calls Try.prog 13 #[.int .u64 l, .int .u64 g, .int .u64 p] w fun e w' => e = .returned (.bool true) ∧ Grown w w' := by
  have hp : paceV l g p = ofV p 8192 := by unfold paceV wayV; rw [if_pos (by omega), if_neg (by omega)]
  have hs : ordV (ofV p 8192) (ofV p 8192) = 0 := by unfold ordV cmpI; rw [if_neg (by omega), if_neg (by omega)]
  obtain ⟨q0, q1, -⟩ := ofV_cases p 8192
  go_enter Try.func13, Try.ntmps13
  go_wp2_with (first | (go_at_call 14; refine (of_any _ _ _).mono ?_; rintro e w1 ⟨rfl, hg1⟩) | (go_at_call 16; refine (times_any _ _ _).mono ?_; rintro e w1 ⟨rfl, hg2⟩) | (go_at_call 18; refine (awake_any _).mono ?_; rintro e w1 ⟨rfl, hg5⟩) | (go_at_call 22; refine (pace_any _ _ _ _ (by omega) (by omega) (by omega) (by omega)).mono ?_; rintro e w1 ⟨rfl, hg3⟩) | (go_at_call 26; refine (order_any _ _ _ (by omega) (by omega) (by omega) (by omega)).mono ?_; rintro e w' ⟨rfl, rfl⟩))
  go_ret
  exact ⟨rfl, by repeat (first | exact Grown.refl _ | assumption | refine grown_trans ?_ (by assumption))⟩

theorem dist_far (l g p : Int) (w : World) (l0 : 0 ≤ l) (l1 : l ≤ 18446744073709551615) (g0 : 0 ≤ g) (g1 : g ≤ 18446744073709551615) (p0 : 0 ≤ p) (p1 : p ≤ 18446744073709551615) (h : p ≤ 1099511627776) (hc : l < g) (hc2 : 8192 < g - l) :
    Calls Try.prog 13 #[.int .u64 l, .int .u64 g, .int .u64 p] w fun e w' => e = .returned (.bool true) ∧ Grown w w' := by
  have hp : paceV l g p = ofV p (g - l) := by unfold paceV wayV; rw [if_pos (by omega), if_pos (by omega)]
  have hs : ordV (ofV p (g - l)) (ofV p 8192) ≤ 0 := ord_pace p0 h (by omega) (by omega)
  have ht : timesV 8192 (ofV p (g - l)) ≤ p := times_pace2 p0 h (by omega) (by omega)
  obtain ⟨q0, q1, -⟩ := ofV_cases p 8192
  obtain ⟨q2, q3, -⟩ := ofV_cases p (g - l)
  go_enter Try.func13, Try.ntmps13
  go_wp2_with (first | (go_at_call 14; refine (of_any _ _ _).mono ?_; rintro e w1 ⟨rfl, hg1⟩) | (go_at_call 16; refine (times_any _ _ _).mono ?_; rintro e w1 ⟨rfl, hg2⟩) | (go_at_call 18; refine (awake_any _).mono ?_; rintro e w1 ⟨rfl, hg5⟩) | (go_at_call 22; refine (pace_any _ _ _ _ (by omega) (by omega) (by omega) (by omega)).mono ?_; rintro e w1 ⟨rfl, hg3⟩) | (go_at_call 26; refine (order_any _ _ _ (by omega) (by omega) (by omega) (by omega)).mono ?_; rintro e w' ⟨rfl, rfl⟩))
  go_ret
  exact ⟨rfl, by repeat (first | exact Grown.refl _ | assumption | refine grown_trans ?_ (by assumption))⟩

theorem walk_RatioDistance (l g p : Int) (w0 : (Lit.int .u64 l).wf = true) (w1 : (Lit.int .u64 g).wf = true) (w2 : (Lit.int .u64 p).wf = true) (w : World) :
    Calls Try.prog 13 #[.int .u64 l, .int .u64 g, .int .u64 p] w fun e w' => e = .returned (.bool true) ∧ Grown w w' := by
  obtain ⟨l0, l1⟩ := u64_of w0
  obtain ⟨g0, g1⟩ := u64_of w1
  obtain ⟨p0, p1⟩ := u64_of w2
  by_cases h : 1099511627776 < p
  · exact dist_skip l g p w l0 l1 g0 g1 p0 p1 h
  · by_cases hc : g ≤ l
    · exact dist_past l g p w l0 l1 g0 g1 p0 p1 (by omega) hc
    · by_cases hc2 : g - l ≤ 8192
      · exact dist_near l g p w l0 l1 g0 g1 p0 p1 (by omega) (by omega) hc2
      · exact dist_far l g p w l0 l1 g0 g1 p0 p1 (by omega) (by omega) (by omega)

theorem even_na (a b : Int) (w : World) (a0 : 0 ≤ a) (a1 : a ≤ 18446744073709551615) (b0 : 0 ≤ b) (b1 : b ≤ 18446744073709551615) (h : selfEq a.toNat = false) :
    Calls Try.prog 12 #[.int .u64 a, .int .u64 b] w fun e w' => e = .returned (.bool true) ∧ Grown w w' := by
  go_enter Try.func12, Try.ntmps12
  go_wp2_with (first | (go_at_call 14; refine (of_any _ _ _).mono ?_; rintro e w1 ⟨rfl, hg1⟩) | (go_at_call 16; refine (times_any _ _ _).mono ?_; rintro e w1 ⟨rfl, hg2⟩) | (go_at_call 18; refine (awake_any _).mono ?_; rintro e w1 ⟨rfl, hg5⟩) | (go_at_call 19; refine (nan_any _ _ (by omega) (by omega)).mono ?_; rintro e w' ⟨rfl, rfl⟩) | (go_at_call 20; refine (mix_any _ _ _ _).mono ?_; rintro e w1 ⟨rfl, hg3⟩) | (go_at_call 26; refine (order_any _ _ _ (by omega) (by omega) (by omega) (by omega)).mono ?_; rintro e w' ⟨rfl, rfl⟩))
  go_ret
  exact ⟨rfl, by repeat (first | exact Grown.refl _ | assumption | refine grown_trans ?_ (by assumption))⟩

theorem even_nb (a b : Int) (w : World) (a0 : 0 ≤ a) (a1 : a ≤ 18446744073709551615) (b0 : 0 ≤ b) (b1 : b ≤ 18446744073709551615) (h : selfEq a.toNat = true) (h2 : selfEq b.toNat = false) :
    Calls Try.prog 12 #[.int .u64 a, .int .u64 b] w fun e w' => e = .returned (.bool true) ∧ Grown w w' := by
  go_enter Try.func12, Try.ntmps12
  go_wp2_with (first | (go_at_call 14; refine (of_any _ _ _).mono ?_; rintro e w1 ⟨rfl, hg1⟩) | (go_at_call 16; refine (times_any _ _ _).mono ?_; rintro e w1 ⟨rfl, hg2⟩) | (go_at_call 18; refine (awake_any _).mono ?_; rintro e w1 ⟨rfl, hg5⟩) | (go_at_call 19; refine (nan_any _ _ (by omega) (by omega)).mono ?_; rintro e w' ⟨rfl, rfl⟩) | (go_at_call 20; refine (mix_any _ _ _ _).mono ?_; rintro e w1 ⟨rfl, hg3⟩) | (go_at_call 26; refine (order_any _ _ _ (by omega) (by omega) (by omega) (by omega)).mono ?_; rintro e w' ⟨rfl, rfl⟩))
  go_ret
  exact ⟨rfl, by repeat (first | exact Grown.refl _ | assumption | refine grown_trans ?_ (by assumption))⟩

theorem even_ia (a b : Int) (w : World) (a0 : 0 ≤ a) (a1 : a ≤ 18446744073709551615) (b0 : 0 ≤ b) (b1 : b ≤ 18446744073709551615) (h : selfEq a.toNat = true) (h2 : selfEq b.toNat = true) (h3 : 9218868437227405312 ≤ a % 9223372036854775808) :
    Calls Try.prog 12 #[.int .u64 a, .int .u64 b] w fun e w' => e = .returned (.bool true) ∧ Grown w w' := by
  have ma := mask_top a a0 a1
  have mb := mask_top b b0 b1
  go_enter Try.func12, Try.ntmps12
  go_wp2_with (first | (go_at_call 14; refine (of_any _ _ _).mono ?_; rintro e w1 ⟨rfl, hg1⟩) | (go_at_call 16; refine (times_any _ _ _).mono ?_; rintro e w1 ⟨rfl, hg2⟩) | (go_at_call 18; refine (awake_any _).mono ?_; rintro e w1 ⟨rfl, hg5⟩) | (go_at_call 19; refine (nan_any _ _ (by omega) (by omega)).mono ?_; rintro e w' ⟨rfl, rfl⟩) | (go_at_call 20; refine (mix_any _ _ _ _).mono ?_; rintro e w1 ⟨rfl, hg3⟩) | (go_at_call 26; refine (order_any _ _ _ (by omega) (by omega) (by omega) (by omega)).mono ?_; rintro e w' ⟨rfl, rfl⟩))
  go_ret
  exact ⟨rfl, by repeat (first | exact Grown.refl _ | assumption | refine grown_trans ?_ (by assumption))⟩

theorem even_ib (a b : Int) (w : World) (a0 : 0 ≤ a) (a1 : a ≤ 18446744073709551615) (b0 : 0 ≤ b) (b1 : b ≤ 18446744073709551615) (h : selfEq a.toNat = true) (h2 : selfEq b.toNat = true) (h3 : a % 9223372036854775808 < 9218868437227405312) (h4 : 9218868437227405312 ≤ b % 9223372036854775808) :
    Calls Try.prog 12 #[.int .u64 a, .int .u64 b] w fun e w' => e = .returned (.bool true) ∧ Grown w w' := by
  have ma := mask_top a a0 a1
  have mb := mask_top b b0 b1
  go_enter Try.func12, Try.ntmps12
  go_wp2_with (first | (go_at_call 14; refine (of_any _ _ _).mono ?_; rintro e w1 ⟨rfl, hg1⟩) | (go_at_call 16; refine (times_any _ _ _).mono ?_; rintro e w1 ⟨rfl, hg2⟩) | (go_at_call 18; refine (awake_any _).mono ?_; rintro e w1 ⟨rfl, hg5⟩) | (go_at_call 19; refine (nan_any _ _ (by omega) (by omega)).mono ?_; rintro e w' ⟨rfl, rfl⟩) | (go_at_call 20; refine (mix_any _ _ _ _).mono ?_; rintro e w1 ⟨rfl, hg3⟩) | (go_at_call 26; refine (order_any _ _ _ (by omega) (by omega) (by omega) (by omega)).mono ?_; rintro e w' ⟨rfl, rfl⟩))
  go_ret
  exact ⟨rfl, by repeat (first | exact Grown.refl _ | assumption | refine grown_trans ?_ (by assumption))⟩

theorem even_fin (a b : Int) (w : World) (a0 : 0 ≤ a) (a1 : a ≤ 18446744073709551615) (b0 : 0 ≤ b) (b1 : b ≤ 18446744073709551615) (h : selfEq a.toNat = true) (h2 : selfEq b.toNat = true) (h3 : a % 9223372036854775808 < 9218868437227405312) (h4 : b % 9223372036854775808 < 9218868437227405312)
    (m1 : bits .and .u64 (mixV a b 0) 9223372036854775807 = a % 9223372036854775808) (m2 : bits .and .u64 (mixV a b 4607182418800017408) 9223372036854775807 = b % 9223372036854775808) :
    Calls Try.prog 12 #[.int .u64 a, .int .u64 b] w fun e w' => e = .returned (.bool true) ∧ Grown w w' := by
  have ma := mask_top a a0 a1
  have mb := mask_top b b0 b1
  have s1 : ordV (a % 9223372036854775808) (a % 9223372036854775808) = 0 := by unfold ordV cmpI; rw [if_neg (by omega), if_neg (by omega)]
  have s2 : ordV (b % 9223372036854775808) (b % 9223372036854775808) = 0 := by unfold ordV cmpI; rw [if_neg (by omega), if_neg (by omega)]
  have s3 := mix_canon a b
  go_enter Try.func12, Try.ntmps12
  go_wp2_with (first | (go_at_call 14; refine (of_any _ _ _).mono ?_; rintro e w1 ⟨rfl, hg1⟩) | (go_at_call 16; refine (times_any _ _ _).mono ?_; rintro e w1 ⟨rfl, hg2⟩) | (go_at_call 18; refine (awake_any _).mono ?_; rintro e w1 ⟨rfl, hg5⟩) | (go_at_call 19; refine (nan_any _ _ (by omega) (by omega)).mono ?_; rintro e w' ⟨rfl, rfl⟩) | (go_at_call 20; refine (mix_any _ _ _ _).mono ?_; rintro e w1 ⟨rfl, hg3⟩) | (go_at_call 26; refine (order_any _ _ _ (by omega) (by omega) (by omega) (by omega)).mono ?_; rintro e w' ⟨rfl, rfl⟩))
  go_ret
  exact ⟨rfl, by repeat (first | exact Grown.refl _ | assumption | refine grown_trans ?_ (by assumption))⟩

theorem walk_RatioEven (a b : Int) (w0 : (Lit.int .u64 a).wf = true) (w1 : (Lit.int .u64 b).wf = true) (w : World) :
    Calls Try.prog 12 #[.int .u64 a, .int .u64 b] w fun e w' => e = .returned (.bool true) ∧ Grown w w' := by
  obtain ⟨a0, a1⟩ := u64_of w0
  obtain ⟨b0, b1⟩ := u64_of w1
  cases h : selfEq a.toNat
  · exact even_na a b w a0 a1 b0 b1 h
  · cases h2 : selfEq b.toNat
    · exact even_nb a b w a0 a1 b0 b1 h h2
    · by_cases h3 : 9218868437227405312 ≤ a % 9223372036854775808
      · exact even_ia a b w a0 a1 b0 b1 h h2 h3
      · by_cases h4 : 9218868437227405312 ≤ b % 9223372036854775808
        · exact even_ib a b w a0 a1 b0 b1 h h2 (by omega) h4
        · obtain ⟨v, hv, v1, v2⟩ := mix_zero (a := a) (b := b) a0 a1 (by omega) (by omega)
          obtain ⟨u, hu, u1, u2⟩ := mix_all (a := a) (b := b) b0 b1 (by omega) (by omega)
          refine even_fin a b w a0 a1 b0 b1 h h2 (by omega) (by omega) ?_ ?_
          · rw [hv, mask_top _ (by omega) (by omega)]; omega
          · rw [hu, mask_top _ (by omega) (by omega)]; omega


end Go.Proofs.Ytbdngcifnlkijaa
