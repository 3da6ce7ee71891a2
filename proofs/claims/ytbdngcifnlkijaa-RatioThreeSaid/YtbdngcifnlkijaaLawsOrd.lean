/- The walks of the laws RatioOrders and RatioThree. -/
import Derived.Test.YtbdngcifnlkijaaWalks3
namespace Go.Proofs.Ytbdngcifnlkijaa
open Go.RowKit
set_option linter.unusedVariables false

theorem walk_RatioOrders (a0 a1 : Int) (w0 : (Lit.int .u64 a0).wf = true) (w1 : (Lit.int .u64 a1).wf = true) (w : World) :
    Calls Try.prog 10 #[.int .u64 a0, .int .u64 a1] w fun e w' => e = .returned (.bool true) ∧ Grown w w' := by
  obtain ⟨b0, b1⟩ := u64_of w0
  obtain ⟨c0, c1⟩ := u64_of w1
  clear w0 w1
  go_enter Try.func10, Try.ntmps10
  go_wp2_with (first | (go_at_call 26; refine (order_any _ _ _ b0 b1 c0 c1).mono ?_; rintro e w' ⟨rfl, rfl⟩) | (go_at_call 27; refine (rorder_any _ _ _ b0 b1 c0 c1).mono ?_; rintro e w' ⟨rfl, rfl⟩) | (go_at_call 18; refine (awake_any _).mono ?_; rintro e w1 ⟨rfl, hg5⟩))
  go_ret
  exact ⟨rfl, by assumption⟩

theorem cmp_self (x : Int) : cmpI x x = 0 := by unfold cmpI; rw [if_neg (by omega), if_neg (by omega)]

theorem three_p_f (a b c : Int) (w : World) (a0 : 0 ≤ a) (a1 : a ≤ 18446744073709551615) (b0 : 0 ≤ b) (b1 : b ≤ 18446744073709551615) (c0 : 0 ≤ c) (c1 : c ≤ 18446744073709551615) (hx : ordV a b = 1) (hyx : ordV b a = -1) (he : (a == b) = false) (na : selfEq a.toNat = true) :
    Calls Try.prog 11 #[.int .u64 a, .int .u64 b, .int .u64 c] w fun e w' => e = .returned (.bool true) ∧ Grown w w' := by
  have hs : ordV a a = 0 := cmp_self _
  go_enter Try.func11, Try.ntmps11
  go_wp2_with (first | (go_at_call 26; refine (order_any _ _ _ (by assumption) (by assumption) (by assumption) (by assumption)).mono ?_; rintro e w' ⟨rfl, rfl⟩) | (go_at_call 19; refine (nan_any _ _ (by assumption) (by assumption)).mono ?_; rintro e w' ⟨rfl, rfl⟩) | (go_at_call 18; refine (awake_any _).mono ?_; rintro e w1 ⟨rfl, hg5⟩))
  go_ret
  exact ⟨rfl, by assumption⟩

theorem three_p_g (a b c : Int) (w : World) (a0 : 0 ≤ a) (a1 : a ≤ 18446744073709551615) (b0 : 0 ≤ b) (b1 : b ≤ 18446744073709551615) (c0 : 0 ≤ c) (c1 : c ≤ 18446744073709551615) (hx : ordV a b = 1) (hyx : ordV b a = -1) (he : (a == b) = false) (na : selfEq a.toNat = false) (nb : selfEq b.toNat = true) :
    Calls Try.prog 11 #[.int .u64 a, .int .u64 b, .int .u64 c] w fun e w' => e = .returned (.bool true) ∧ Grown w w' := by
  have hs : ordV a a = 0 := cmp_self _
  go_enter Try.func11, Try.ntmps11
  go_wp2_with (first | (go_at_call 26; refine (order_any _ _ _ (by assumption) (by assumption) (by assumption) (by assumption)).mono ?_; rintro e w' ⟨rfl, rfl⟩) | (go_at_call 19; refine (nan_any _ _ (by assumption) (by assumption)).mono ?_; rintro e w' ⟨rfl, rfl⟩) | (go_at_call 18; refine (awake_any _).mono ?_; rintro e w1 ⟨rfl, hg5⟩))
  go_ret
  exact ⟨rfl, by assumption⟩

theorem three_mp_f (a b c : Int) (w : World) (a0 : 0 ≤ a) (a1 : a ≤ 18446744073709551615) (b0 : 0 ≤ b) (b1 : b ≤ 18446744073709551615) (c0 : 0 ≤ c) (c1 : c ≤ 18446744073709551615) (hx : ordV a b = -1) (hyx : ordV b a = 1) (hy : ordV b c = 1) (he : (a == b) = false) (na : selfEq a.toNat = true) :
    Calls Try.prog 11 #[.int .u64 a, .int .u64 b, .int .u64 c] w fun e w' => e = .returned (.bool true) ∧ Grown w w' := by
  have hs : ordV a a = 0 := cmp_self _
  go_enter Try.func11, Try.ntmps11
  go_wp2_with (first | (go_at_call 26; refine (order_any _ _ _ (by assumption) (by assumption) (by assumption) (by assumption)).mono ?_; rintro e w' ⟨rfl, rfl⟩) | (go_at_call 19; refine (nan_any _ _ (by assumption) (by assumption)).mono ?_; rintro e w' ⟨rfl, rfl⟩) | (go_at_call 18; refine (awake_any _).mono ?_; rintro e w1 ⟨rfl, hg5⟩))
  go_ret
  exact ⟨rfl, by assumption⟩

theorem three_mp_g (a b c : Int) (w : World) (a0 : 0 ≤ a) (a1 : a ≤ 18446744073709551615) (b0 : 0 ≤ b) (b1 : b ≤ 18446744073709551615) (c0 : 0 ≤ c) (c1 : c ≤ 18446744073709551615) (hx : ordV a b = -1) (hyx : ordV b a = 1) (hy : ordV b c = 1) (he : (a == b) = false) (na : selfEq a.toNat = false) (nb : selfEq b.toNat = true) :
    Calls Try.prog 11 #[.int .u64 a, .int .u64 b, .int .u64 c] w fun e w' => e = .returned (.bool true) ∧ Grown w w' := by
  have hs : ordV a a = 0 := cmp_self _
  go_enter Try.func11, Try.ntmps11
  go_wp2_with (first | (go_at_call 26; refine (order_any _ _ _ (by assumption) (by assumption) (by assumption) (by assumption)).mono ?_; rintro e w' ⟨rfl, rfl⟩) | (go_at_call 19; refine (nan_any _ _ (by assumption) (by assumption)).mono ?_; rintro e w' ⟨rfl, rfl⟩) | (go_at_call 18; refine (awake_any _).mono ?_; rintro e w1 ⟨rfl, hg5⟩))
  go_ret
  exact ⟨rfl, by assumption⟩

theorem three_mm_f (a b c : Int) (w : World) (a0 : 0 ≤ a) (a1 : a ≤ 18446744073709551615) (b0 : 0 ≤ b) (b1 : b ≤ 18446744073709551615) (c0 : 0 ≤ c) (c1 : c ≤ 18446744073709551615) (hx : ordV a b = -1) (hyx : ordV b a = 1) (hy : ordV b c ≤ 0) (hz : ordV a c = -1) (he : (a == b) = false) (na : selfEq a.toNat = true) :
    Calls Try.prog 11 #[.int .u64 a, .int .u64 b, .int .u64 c] w fun e w' => e = .returned (.bool true) ∧ Grown w w' := by
  have hs : ordV a a = 0 := cmp_self _
  go_enter Try.func11, Try.ntmps11
  go_wp2_with (first | (go_at_call 26; refine (order_any _ _ _ (by assumption) (by assumption) (by assumption) (by assumption)).mono ?_; rintro e w' ⟨rfl, rfl⟩) | (go_at_call 19; refine (nan_any _ _ (by assumption) (by assumption)).mono ?_; rintro e w' ⟨rfl, rfl⟩) | (go_at_call 18; refine (awake_any _).mono ?_; rintro e w1 ⟨rfl, hg5⟩))
  go_ret
  exact ⟨rfl, by assumption⟩

theorem three_mm_g (a b c : Int) (w : World) (a0 : 0 ≤ a) (a1 : a ≤ 18446744073709551615) (b0 : 0 ≤ b) (b1 : b ≤ 18446744073709551615) (c0 : 0 ≤ c) (c1 : c ≤ 18446744073709551615) (hx : ordV a b = -1) (hyx : ordV b a = 1) (hy : ordV b c ≤ 0) (hz : ordV a c = -1) (he : (a == b) = false) (na : selfEq a.toNat = false) (nb : selfEq b.toNat = true) :
    Calls Try.prog 11 #[.int .u64 a, .int .u64 b, .int .u64 c] w fun e w' => e = .returned (.bool true) ∧ Grown w w' := by
  have hs : ordV a a = 0 := cmp_self _
  go_enter Try.func11, Try.ntmps11
  go_wp2_with (first | (go_at_call 26; refine (order_any _ _ _ (by assumption) (by assumption) (by assumption) (by assumption)).mono ?_; rintro e w' ⟨rfl, rfl⟩) | (go_at_call 19; refine (nan_any _ _ (by assumption) (by assumption)).mono ?_; rintro e w' ⟨rfl, rfl⟩) | (go_at_call 18; refine (awake_any _).mono ?_; rintro e w1 ⟨rfl, hg5⟩))
  go_ret
  exact ⟨rfl, by assumption⟩

theorem three_zp_e (a b c : Int) (w : World) (a0 : 0 ≤ a) (a1 : a ≤ 18446744073709551615) (b0 : 0 ≤ b) (b1 : b ≤ 18446744073709551615) (c0 : 0 ≤ c) (c1 : c ≤ 18446744073709551615) (hx : ordV a b = 0) (hyx : ordV b a = 0) (hy : ordV b c = 1) (he : (a == b) = true) :
    Calls Try.prog 11 #[.int .u64 a, .int .u64 b, .int .u64 c] w fun e w' => e = .returned (.bool true) ∧ Grown w w' := by
  have hs : ordV a a = 0 := cmp_self _
  go_enter Try.func11, Try.ntmps11
  go_wp2_with (first | (go_at_call 26; refine (order_any _ _ _ (by assumption) (by assumption) (by assumption) (by assumption)).mono ?_; rintro e w' ⟨rfl, rfl⟩) | (go_at_call 19; refine (nan_any _ _ (by assumption) (by assumption)).mono ?_; rintro e w' ⟨rfl, rfl⟩) | (go_at_call 18; refine (awake_any _).mono ?_; rintro e w1 ⟨rfl, hg5⟩))
  go_ret
  exact ⟨rfl, by assumption⟩

theorem three_zp_n (a b c : Int) (w : World) (a0 : 0 ≤ a) (a1 : a ≤ 18446744073709551615) (b0 : 0 ≤ b) (b1 : b ≤ 18446744073709551615) (c0 : 0 ≤ c) (c1 : c ≤ 18446744073709551615) (hx : ordV a b = 0) (hyx : ordV b a = 0) (hy : ordV b c = 1) (he : (a == b) = false) (na : selfEq a.toNat = false) (nb : selfEq b.toNat = false) :
    Calls Try.prog 11 #[.int .u64 a, .int .u64 b, .int .u64 c] w fun e w' => e = .returned (.bool true) ∧ Grown w w' := by
  have hs : ordV a a = 0 := cmp_self _
  go_enter Try.func11, Try.ntmps11
  go_wp2_with (first | (go_at_call 26; refine (order_any _ _ _ (by assumption) (by assumption) (by assumption) (by assumption)).mono ?_; rintro e w' ⟨rfl, rfl⟩) | (go_at_call 19; refine (nan_any _ _ (by assumption) (by assumption)).mono ?_; rintro e w' ⟨rfl, rfl⟩) | (go_at_call 18; refine (awake_any _).mono ?_; rintro e w1 ⟨rfl, hg5⟩))
  go_ret
  exact ⟨rfl, by assumption⟩

theorem three_zm_e (a b c : Int) (w : World) (a0 : 0 ≤ a) (a1 : a ≤ 18446744073709551615) (b0 : 0 ≤ b) (b1 : b ≤ 18446744073709551615) (c0 : 0 ≤ c) (c1 : c ≤ 18446744073709551615) (hx : ordV a b = 0) (hyx : ordV b a = 0) (hy : ordV b c = -1) (hz : ordV a c = -1) (he : (a == b) = true) :
    Calls Try.prog 11 #[.int .u64 a, .int .u64 b, .int .u64 c] w fun e w' => e = .returned (.bool true) ∧ Grown w w' := by
  have hs : ordV a a = 0 := cmp_self _
  go_enter Try.func11, Try.ntmps11
  go_wp2_with (first | (go_at_call 26; refine (order_any _ _ _ (by assumption) (by assumption) (by assumption) (by assumption)).mono ?_; rintro e w' ⟨rfl, rfl⟩) | (go_at_call 19; refine (nan_any _ _ (by assumption) (by assumption)).mono ?_; rintro e w' ⟨rfl, rfl⟩) | (go_at_call 18; refine (awake_any _).mono ?_; rintro e w1 ⟨rfl, hg5⟩))
  go_ret
  exact ⟨rfl, by assumption⟩

theorem three_zm_n (a b c : Int) (w : World) (a0 : 0 ≤ a) (a1 : a ≤ 18446744073709551615) (b0 : 0 ≤ b) (b1 : b ≤ 18446744073709551615) (c0 : 0 ≤ c) (c1 : c ≤ 18446744073709551615) (hx : ordV a b = 0) (hyx : ordV b a = 0) (hy : ordV b c = -1) (hz : ordV a c = -1) (he : (a == b) = false) (na : selfEq a.toNat = false) (nb : selfEq b.toNat = false) :
    Calls Try.prog 11 #[.int .u64 a, .int .u64 b, .int .u64 c] w fun e w' => e = .returned (.bool true) ∧ Grown w w' := by
  have hs : ordV a a = 0 := cmp_self _
  go_enter Try.func11, Try.ntmps11
  go_wp2_with (first | (go_at_call 26; refine (order_any _ _ _ (by assumption) (by assumption) (by assumption) (by assumption)).mono ?_; rintro e w' ⟨rfl, rfl⟩) | (go_at_call 19; refine (nan_any _ _ (by assumption) (by assumption)).mono ?_; rintro e w' ⟨rfl, rfl⟩) | (go_at_call 18; refine (awake_any _).mono ?_; rintro e w1 ⟨rfl, hg5⟩))
  go_ret
  exact ⟨rfl, by assumption⟩

theorem three_zz_e (a b c : Int) (w : World) (a0 : 0 ≤ a) (a1 : a ≤ 18446744073709551615) (b0 : 0 ≤ b) (b1 : b ≤ 18446744073709551615) (c0 : 0 ≤ c) (c1 : c ≤ 18446744073709551615) (hx : ordV a b = 0) (hyx : ordV b a = 0) (hy : ordV b c = 0) (hz : ordV a c = 0) (he : (a == b) = true) :
    Calls Try.prog 11 #[.int .u64 a, .int .u64 b, .int .u64 c] w fun e w' => e = .returned (.bool true) ∧ Grown w w' := by
  have hs : ordV a a = 0 := cmp_self _
  go_enter Try.func11, Try.ntmps11
  go_wp2_with (first | (go_at_call 26; refine (order_any _ _ _ (by assumption) (by assumption) (by assumption) (by assumption)).mono ?_; rintro e w' ⟨rfl, rfl⟩) | (go_at_call 19; refine (nan_any _ _ (by assumption) (by assumption)).mono ?_; rintro e w' ⟨rfl, rfl⟩) | (go_at_call 18; refine (awake_any _).mono ?_; rintro e w1 ⟨rfl, hg5⟩))
  go_ret
  exact ⟨rfl, by assumption⟩

theorem three_zz_n (a b c : Int) (w : World) (a0 : 0 ≤ a) (a1 : a ≤ 18446744073709551615) (b0 : 0 ≤ b) (b1 : b ≤ 18446744073709551615) (c0 : 0 ≤ c) (c1 : c ≤ 18446744073709551615) (hx : ordV a b = 0) (hyx : ordV b a = 0) (hy : ordV b c = 0) (hz : ordV a c = 0) (he : (a == b) = false) (na : selfEq a.toNat = false) (nb : selfEq b.toNat = false) :
    Calls Try.prog 11 #[.int .u64 a, .int .u64 b, .int .u64 c] w fun e w' => e = .returned (.bool true) ∧ Grown w w' := by
  have hs : ordV a a = 0 := cmp_self _
  go_enter Try.func11, Try.ntmps11
  go_wp2_with (first | (go_at_call 26; refine (order_any _ _ _ (by assumption) (by assumption) (by assumption) (by assumption)).mono ?_; rintro e w' ⟨rfl, rfl⟩) | (go_at_call 19; refine (nan_any _ _ (by assumption) (by assumption)).mono ?_; rintro e w' ⟨rfl, rfl⟩) | (go_at_call 18; refine (awake_any _).mono ?_; rintro e w1 ⟨rfl, hg5⟩))
  go_ret
  exact ⟨rfl, by assumption⟩

/-- equal ranks: the same pattern, or both NaNs. -/
theorem rank_same {a b : Int} (a0 : 0 ≤ a) (a1 : a ≤ 18446744073709551615) (b0 : 0 ≤ b) (b1 : b ≤ 18446744073709551615) (h : rankV a = rankV b) :
    a = b ∨ (selfEq a.toNat = false ∧ selfEq b.toNat = false) := by
  cases ha : selfEq a.toNat <;> cases hb : selfEq b.toNat
  · exact Or.inr ⟨rfl, rfl⟩
  · have := rank_fin b0 b1 hb; rw [← h, rank_nan ha] at this; omega
  · have := rank_fin a0 a1 ha; rw [h, rank_nan hb] at this; omega
  · have := selfEq_le ha
    have := selfEq_le hb
    rw [rank_of ha, rank_of hb] at h
    left
    split at h <;> split at h <;> omega

theorem cmp_lt {x y : Int} (h : x < y) : cmpI x y = -1 := by unfold cmpI; rw [if_pos h]
theorem cmp_gt {x y : Int} (h : y < x) : cmpI x y = 1 := by unfold cmpI; rw [if_neg (by omega), if_pos h]
theorem cmp_eq {x y : Int} (h : x = y) : cmpI x y = 0 := by subst h; exact cmp_self x

theorem walk_RatioThree (a b c : Int) (w0 : (Lit.int .u64 a).wf = true) (w1 : (Lit.int .u64 b).wf = true) (w2 : (Lit.int .u64 c).wf = true) (w : World) :
    Calls Try.prog 11 #[.int .u64 a, .int .u64 b, .int .u64 c] w fun e w' => e = .returned (.bool true) ∧ Grown w w' := by
  obtain ⟨a0, a1⟩ := u64_of w0
  obtain ⟨b0, b1⟩ := u64_of w1
  obtain ⟨c0, c1⟩ := u64_of w2
  rcases Int.lt_trichotomy (rankV a) (rankV b) with h | h | h
  · have he : (a == b) = false := by
      rw [beq_eq_false_iff_ne]; rintro rfl; omega
    have hn : selfEq a.toNat = true ∨ (selfEq a.toNat = false ∧ selfEq b.toNat = true) := by
      cases ha : selfEq a.toNat <;> cases hb : selfEq b.toNat <;> simp
      rw [rank_nan ha, rank_nan hb] at h; omega
    rcases Int.lt_or_le (rankV c) (rankV b) with k | k
    · rcases hn with hn | ⟨hn, hm⟩
      · exact three_mp_f a b c w a0 a1 b0 b1 c0 c1 (cmp_lt h) (cmp_gt h) (cmp_gt k) he hn
      · exact three_mp_g a b c w a0 a1 b0 b1 c0 c1 (cmp_lt h) (cmp_gt h) (cmp_gt k) he hn hm
    · have hy : ordV b c ≤ 0 := by
        unfold ordV cmpI; split
        · omega
        · rw [if_neg (by omega)]; omega
      rcases hn with hn | ⟨hn, hm⟩
      · exact three_mm_f a b c w a0 a1 b0 b1 c0 c1 (cmp_lt h) (cmp_gt h) hy (cmp_lt (by omega)) he hn
      · exact three_mm_g a b c w a0 a1 b0 b1 c0 c1 (cmp_lt h) (cmp_gt h) hy (cmp_lt (by omega)) he hn hm
  · have hn : (a == b) = true ∨ ((a == b) = false ∧ selfEq a.toNat = false ∧ selfEq b.toNat = false) := by
      cases he : (a == b)
      · rcases rank_same a0 a1 b0 b1 h with k | k
        · rw [k] at he; simp at he
        · exact Or.inr ⟨rfl, k⟩
      · exact Or.inl rfl
    rcases Int.lt_trichotomy (rankV b) (rankV c) with k | k | k
    · rcases hn with hn | ⟨hn, hm, hk⟩
      · exact three_zm_e a b c w a0 a1 b0 b1 c0 c1 (cmp_eq h) (cmp_eq h.symm) (cmp_lt k) (cmp_lt (by omega)) hn
      · exact three_zm_n a b c w a0 a1 b0 b1 c0 c1 (cmp_eq h) (cmp_eq h.symm) (cmp_lt k) (cmp_lt (by omega)) hn hm hk
    · rcases hn with hn | ⟨hn, hm, hk⟩
      · exact three_zz_e a b c w a0 a1 b0 b1 c0 c1 (cmp_eq h) (cmp_eq h.symm) (cmp_eq k) (cmp_eq (by omega)) hn
      · exact three_zz_n a b c w a0 a1 b0 b1 c0 c1 (cmp_eq h) (cmp_eq h.symm) (cmp_eq k) (cmp_eq (by omega)) hn hm hk
    · rcases hn with hn | ⟨hn, hm, hk⟩
      · exact three_zp_e a b c w a0 a1 b0 b1 c0 c1 (cmp_eq h) (cmp_eq h.symm) (cmp_gt k) hn
      · exact three_zp_n a b c w a0 a1 b0 b1 c0 c1 (cmp_eq h) (cmp_eq h.symm) (cmp_gt k) hn hm hk
  · have he : (a == b) = false := by
      rw [beq_eq_false_iff_ne]; rintro rfl; omega
    cases hn : selfEq a.toNat
    · cases hm : selfEq b.toNat
      · rw [rank_nan hn, rank_nan hm] at h; omega
      · exact three_p_g a b c w a0 a1 b0 b1 c0 c1 (cmp_gt h) (cmp_lt h) he hn hm
    · exact three_p_f a b c w a0 a1 b0 b1 c0 c1 (cmp_gt h) (cmp_lt h) he hn

end Go.Proofs.Ytbdngcifnlkijaa
