/- The walks of the laws RatioGrows and RatioEdges. -/
import Derived.Test.YtbdngcifnlkijaaWalks3
import Derived.Test.YtbdngcifnlkijaaNum2
namespace Go.Proofs.Ytbdngcifnlkijaa
open Go.RowKit
set_option linter.unusedVariables false

theorem grows_keep (a b r p : Int) (w : World) (a0 : 0 ≤ a) (hab : a ≤ b) (b1 : b ≤ 18446744073709551615) (p1 : p ≤ 9223372036854775807) :
    Calls Try.prog 8 #[.int .u64 a, .int .u64 b, .int .u64 r, .int .i64 p] w fun e w' => e = .returned (.bool true) ∧ Grown w w' := by
  have h1 := timesV_mono a0 hab b1 r
  have h2 := goalV_mono a0 hab b1 p
  obtain ⟨h3, h4, h5⟩ := goalV_least (a := a) a0 (by omega) p
  go_enter Try.func8, Try.ntmps8
  go_wp2_with (first | (go_at_call 16; refine (times_any _ _ _).mono ?_; rintro e w1 ⟨rfl, hg1⟩) | (go_at_call 23; refine (goal_any _ _ _ (by omega) (by omega) (by omega)).mono ?_; rintro e w1 ⟨rfl, hg2⟩) | (go_at_call 18; refine (awake_any _).mono ?_; rintro e w1 ⟨rfl, hg5⟩))
  go_ret
  exact ⟨rfl, by repeat (first | exact Grown.refl _ | assumption | refine grown_trans ?_ (by assumption))⟩

theorem grows_swap (a b r p : Int) (w : World) (a0 : 0 ≤ a) (hab : a < b) (b1 : b ≤ 18446744073709551615) (p1 : p ≤ 9223372036854775807) :
    Calls Try.prog 8 #[.int .u64 b, .int .u64 a, .int .u64 r, .int .i64 p] w fun e w' => e = .returned (.bool true) ∧ Grown w w' := by
  have h1 := timesV_mono a0 (by omega) b1 r
  have h2 := goalV_mono a0 (by omega) b1 p
  obtain ⟨h3, h4, h5⟩ := goalV_least (a := a) a0 (by omega) p
  go_enter Try.func8, Try.ntmps8
  go_wp2_with (first | (go_at_call 16; refine (times_any _ _ _).mono ?_; rintro e w1 ⟨rfl, hg1⟩) | (go_at_call 23; refine (goal_any _ _ _ (by omega) (by omega) (by omega)).mono ?_; rintro e w1 ⟨rfl, hg2⟩) | (go_at_call 18; refine (awake_any _).mono ?_; rintro e w1 ⟨rfl, hg5⟩))
  go_ret
  exact ⟨rfl, by repeat (first | exact Grown.refl _ | assumption | refine grown_trans ?_ (by assumption))⟩

theorem walk_RatioGrows (a b r p : Int) (w0 : (Lit.int .u64 a).wf = true) (w1 : (Lit.int .u64 b).wf = true) (w2 : (Lit.int .u64 r).wf = true) (w3 : (Lit.int .i64 p).wf = true) (w : World) :
    Calls Try.prog 8 #[.int .u64 a, .int .u64 b, .int .u64 r, .int .i64 p] w fun e w' => e = .returned (.bool true) ∧ Grown w w' := by
  obtain ⟨a0, a1⟩ := u64_of w0
  obtain ⟨b0, b1⟩ := u64_of w1
  obtain ⟨p0, p1⟩ := i64_of w3
  rcases Int.lt_or_le b a with h | h
  · exact grows_swap b a r p w b0 h a1 p1
  · exact grows_keep a b r p w a0 h b1 p1

/-! ### RatioEdges -/
theorem edges_nan (n r : Int) (w : World) (r0 : 0 ≤ r) (r1 : r ≤ 18446744073709551615) (hs : selfEq r.toNat = false) :
    Calls Try.prog 4 #[.int .u64 n, .int .u64 r] w fun e w' => e = .returned (.bool true) ∧ Grown w w' := by
  have ht : timesV n r = 0 := timesV_nan (isNaN_of hs)
  go_enter Try.func4, Try.ntmps4
  go_wp2_with (first | (go_at_call 16; refine (times_any _ _ _).mono ?_; rintro e w1 ⟨rfl, hg1⟩) | (go_at_call 19; refine (nan_any _ _ r0 r1).mono ?_; rintro e w' ⟨rfl, rfl⟩) | (go_at_call 18; refine (awake_any _).mono ?_; rintro e w1 ⟨rfl, hg5⟩))
  go_ret
  exact ⟨rfl, by repeat (first | exact Grown.refl _ | assumption | refine grown_trans ?_ (by assumption))⟩

theorem edges_neg (n r : Int) (w : World) (r0 : 9223372036854775808 ≤ r) (r1 : r ≤ 18446744073709551615) (hs : selfEq r.toNat = true) (ht : timesV n r = 0) :
    Calls Try.prog 4 #[.int .u64 n, .int .u64 r] w fun e w' => e = .returned (.bool true) ∧ Grown w w' := by
  go_enter Try.func4, Try.ntmps4
  go_wp2_with (first | (go_at_call 16; refine (times_any _ _ _).mono ?_; rintro e w1 ⟨rfl, hg1⟩) | (go_at_call 19; refine (nan_any _ _ (by omega) r1).mono ?_; rintro e w' ⟨rfl, rfl⟩) | (go_at_call 18; refine (awake_any _).mono ?_; rintro e w1 ⟨rfl, hg5⟩))
  go_ret
  exact ⟨rfl, by repeat (first | exact Grown.refl _ | assumption | refine grown_trans ?_ (by assumption))⟩

theorem edges_n0 (r : Int) (w : World) (r0 : 0 ≤ r) (r1 : r < 9223372036854775808) (hs : selfEq r.toNat = true) (ht : timesV 0 r = 0) :
    Calls Try.prog 4 #[.int .u64 0, .int .u64 r] w fun e w' => e = .returned (.bool true) ∧ Grown w w' := by
  go_enter Try.func4, Try.ntmps4
  go_wp2_with (first | (go_at_call 16; refine (times_any _ _ _).mono ?_; rintro e w1 ⟨rfl, hg1⟩) | (go_at_call 19; refine (nan_any _ _ r0 (by omega)).mono ?_; rintro e w' ⟨rfl, rfl⟩) | (go_at_call 18; refine (awake_any _).mono ?_; rintro e w1 ⟨rfl, hg5⟩))
  go_ret
  exact ⟨rfl, by repeat (first | exact Grown.refl _ | assumption | refine grown_trans ?_ (by assumption))⟩

theorem edges_r0 (n : Int) (w : World) (hn : (n == 0) = false) (ht : timesV n 0 = 0) :
    Calls Try.prog 4 #[.int .u64 n, .int .u64 0] w fun e w' => e = .returned (.bool true) ∧ Grown w w' := by
  have hs : selfEq (0 : Int).toNat = true := by decide +kernel
  go_enter Try.func4, Try.ntmps4
  go_wp2_with (first | (go_at_call 16; refine (times_any _ _ _).mono ?_; rintro e w1 ⟨rfl, hg1⟩) | (go_at_call 19; refine (nan_any _ _ (by omega) (by omega)).mono ?_; rintro e w' ⟨rfl, rfl⟩; rw [hs]) | (go_at_call 18; refine (awake_any _).mono ?_; rintro e w1 ⟨rfl, hg5⟩))
  go_ret
  exact ⟨rfl, by repeat (first | exact Grown.refl _ | assumption | refine grown_trans ?_ (by assumption))⟩

theorem edges_inf (n : Int) (w : World) (hn : (n == 0) = false) (ht : timesV n 9218868437227405312 = 18446744073709551615) :
    Calls Try.prog 4 #[.int .u64 n, .int .u64 9218868437227405312] w fun e w' => e = .returned (.bool true) ∧ Grown w w' := by
  have hs : selfEq (9218868437227405312 : Int).toNat = true := by decide +kernel
  go_enter Try.func4, Try.ntmps4
  go_wp2_with (first | (go_at_call 16; refine (times_any _ _ _).mono ?_; rintro e w1 ⟨rfl, hg1⟩) | (go_at_call 19; refine (nan_any _ _ (by omega) (by omega)).mono ?_; rintro e w' ⟨rfl, rfl⟩; rw [hs]) | (go_at_call 18; refine (awake_any _).mono ?_; rintro e w1 ⟨rfl, hg5⟩))
  go_ret
  exact ⟨rfl, by repeat (first | exact Grown.refl _ | assumption | refine grown_trans ?_ (by assumption))⟩

theorem edges_one (n : Int) (w : World) (hn : (n == 0) = false) (h1 : n < 9007199254740992) (ht : timesV n 4607182418800017408 = n) :
    Calls Try.prog 4 #[.int .u64 n, .int .u64 4607182418800017408] w fun e w' => e = .returned (.bool true) ∧ Grown w w' := by
  have hs : selfEq (4607182418800017408 : Int).toNat = true := by decide +kernel
  go_enter Try.func4, Try.ntmps4
  go_wp2_with (first | (go_at_call 16; refine (times_any _ _ _).mono ?_; rintro e w1 ⟨rfl, hg1⟩) | (go_at_call 19; refine (nan_any _ _ (by omega) (by omega)).mono ?_; rintro e w' ⟨rfl, rfl⟩; rw [hs]) | (go_at_call 18; refine (awake_any _).mono ?_; rintro e w1 ⟨rfl, hg5⟩))
  go_ret
  exact ⟨rfl, by repeat (first | exact Grown.refl _ | assumption | refine grown_trans ?_ (by assumption))⟩

theorem edges_one2 (n : Int) (w : World) (hn : (n == 0) = false) (h1 : 9007199254740992 ≤ n) :
    Calls Try.prog 4 #[.int .u64 n, .int .u64 4607182418800017408] w fun e w' => e = .returned (.bool true) ∧ Grown w w' := by
  have hs : selfEq (4607182418800017408 : Int).toNat = true := by decide +kernel
  go_enter Try.func4, Try.ntmps4
  go_wp2_with (first | (go_at_call 16; refine (times_any _ _ _).mono ?_; rintro e w1 ⟨rfl, hg1⟩) | (go_at_call 19; refine (nan_any _ _ (by omega) (by omega)).mono ?_; rintro e w' ⟨rfl, rfl⟩; rw [hs]) | (go_at_call 18; refine (awake_any _).mono ?_; rintro e w1 ⟨rfl, hg5⟩))
  go_ret
  exact ⟨rfl, by repeat (first | exact Grown.refl _ | assumption | refine grown_trans ?_ (by assumption))⟩

theorem edges_rest (n r : Int) (w : World) (r0 : 0 ≤ r) (r1 : r < 9223372036854775808) (hs : selfEq r.toNat = true) (hn : (n == 0) = false) (hr : (r == 0) = false) (hi : (r == 9218868437227405312) = false) (ho : (r == 4607182418800017408) = false) :
    Calls Try.prog 4 #[.int .u64 n, .int .u64 r] w fun e w' => e = .returned (.bool true) ∧ Grown w w' := by
  go_enter Try.func4, Try.ntmps4
  go_wp2_with (first | (go_at_call 16; refine (times_any _ _ _).mono ?_; rintro e w1 ⟨rfl, hg1⟩) | (go_at_call 19; refine (nan_any _ _ r0 (by omega)).mono ?_; rintro e w' ⟨rfl, rfl⟩) | (go_at_call 18; refine (awake_any _).mono ?_; rintro e w1 ⟨rfl, hg5⟩))
  go_ret
  exact ⟨rfl, by repeat (first | exact Grown.refl _ | assumption | refine grown_trans ?_ (by assumption))⟩

/-- nought times what is no NaN. -/
theorem timesV_n0 {r : Int} : timesV 0 r = 0 := by
  cases hr : rd r.toNat with
  | nan s f => exact timesV_nan (by rw [hr]; rfl)
  | infinity s => rw [timesV_inf (by omega) (by omega) hr, if_pos (Or.inl rfl)]
  | number s m i =>
    cases s
    · rw [timesV_pos (by omega) (by omega) hr, flo_zero, magR_0, Nat.zero_mul]
      have : ∀ j, rungOf 0 j = 0 := fun j => by unfold rungOf; rw [if_pos rfl]
      rw [this]; decide
    · exact timesV_neg (by omega) (by omega) hr

theorem walk_RatioEdges (n r : Int) (w0 : (Lit.int .u64 n).wf = true) (w1 : (Lit.int .u64 r).wf = true) (w : World) :
    Calls Try.prog 4 #[.int .u64 n, .int .u64 r] w fun e w' => e = .returned (.bool true) ∧ Grown w w' := by
  obtain ⟨n0, n1⟩ := u64_of w0
  obtain ⟨r0, r1⟩ := u64_of w1
  cases hs : selfEq r.toNat
  · exact edges_nan n r w r0 r1 hs
  · rcases Int.lt_or_le r 9223372036854775808 with c | c
    · by_cases hn : n = 0
      · subst hn; exact edges_n0 r w r0 c hs timesV_n0
      · have hnb : (n == 0) = false := by simpa using hn
        by_cases h0 : r = 0
        · subst h0
          refine edges_r0 n w hnb ?_
          have hr : rd (0 : Int).toNat = .number false 0 (-1074) := by decide +kernel
          rw [timesV_pos n0 n1 hr, Nat.mul_zero]
          have : ∀ j, rungOf 0 j = 0 := fun j => by unfold rungOf; rw [if_pos rfl]
          rw [this]; decide
        · by_cases hi : r = 9218868437227405312
          · subst hi
            refine edges_inf n w hnb ?_
            have hr : rd (9218868437227405312 : Int).toNat = .infinity false := by decide +kernel
            rw [timesV_inf n0 n1 hr, if_neg (by simp [hn])]
          · by_cases ho : r = 4607182418800017408
            · subst ho
              rcases Int.lt_or_le n 9007199254740992 with k | k
              · exact edges_one n w hnb k (timesV_one n0 k rfl)
              · exact edges_one2 n w hnb k
            · exact edges_rest n r w r0 c hs hnb (by simpa using h0) (by simpa using hi) (by simpa using ho)
    · refine edges_neg n r w c r1 hs ?_
      have hb : (r.toNat / 2 ^ 63 % 2 == 1) = true := by simp; omega
      have hle := selfEq_le hs
      by_cases hf : r.toNat % 2 ^ 63 < 2047 * 2 ^ 52
      · have hr := rd_fin hf
        rw [hb] at hr
        exact timesV_neg n0 n1 hr
      · have hr := rd_inf (b := r.toNat) (by omega)
        rw [hb] at hr
        rw [timesV_inf n0 n1 hr, if_pos (Or.inr rfl)]

end Go.Proofs.Ytbdngcifnlkijaa
