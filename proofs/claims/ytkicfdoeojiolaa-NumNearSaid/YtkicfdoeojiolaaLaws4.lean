/- The walks of the laws NumSteps and NumNear. -/
import Derived.Test.YtkicfdoeojiolaaLaws3
namespace Go.Proofs.Ytkicfdoeojiolaa
open Go.RowKit
set_option linter.unusedVariables false

theorem steps_zero (n m : Int) (w : World) :
    Calls Try.prog 5 #[.int .u64 n, .int .u64 m, .int .u64 0] w fun e w' => e = .returned (.bool true) ∧ Grown w w' := by
  go_enter Try.func5, Try.ntmps5
  go_wp2
  go_ret
  exact ⟨rfl, Grown.refl _⟩

theorem steps_k_none (n m a : Int) (w : World) (n0 : 0 ≤ n) (hnm : n ≤ m) (m1 : m ≤ 18446744073709551615) (a0 : 1 ≤ a) (a1 : a ≤ 18446744073709551615) (hB : upB n a = false) :
    Calls Try.prog 5 #[.int .u64 n, .int .u64 m, .int .u64 a] w fun e w' => e = .returned (.bool true) ∧ Grown w w' := by
  have hb : (a == 0) = false := by simp; omega
  have e1 : downV (downV n a) a = downV n a := downV_fix (by omega) (downV_mod (by omega))
  have e2 : okB a = true := okB_pos (by omega)
  have e3 : downV n a ≤ downV m a := downV_mono (by omega) hnm
  obtain ⟨r1, r2, -⟩ := downV_range (n := n) (a := a) (by omega) n0
  obtain ⟨r3, r4, -⟩ := downV_range (n := m) (a := a) (by omega) (by omega)
  obtain ⟨r5, r6⟩ := upV_range (n := n) (a := a) n0 (by omega) (by omega)
  obtain ⟨r7, r8⟩ := upV_range (n := m) (a := a) (by omega) m1 (by omega)
  have hB2 : upB m a = false := by
    cases h : upB m a
    · rfl
    · rw [upB_mono (by omega) n0 hnm m1 h] at hB; cases hB
  go_enter Try.func5, Try.ntmps5
  go_wp2_with (first | (go_at_call 16; refine (down_any _ _ _ (by omega) (by omega) (by omega) (by omega)).mono ?_; rintro e w' ⟨rfl, rfl⟩) | (go_at_call 17; refine (up_any _ _ _ (by omega) (by omega) (by omega) (by omega)).mono ?_; rintro e w' ⟨rfl, rfl⟩) | (go_at_call 24; refine (ceil_any _ _ _ (by omega) (by omega) (by omega) (by omega)).mono ?_; rintro e w' ⟨rfl, rfl⟩) | (go_at_call 15; refine (awake_any _).mono ?_; rintro e w' ⟨rfl, rfl⟩))
  go_ret
  exact ⟨rfl, Grown.refl _⟩

theorem steps_k_one (n m a : Int) (w : World) (n0 : 0 ≤ n) (hnm : n ≤ m) (m1 : m ≤ 18446744073709551615) (a0 : 1 ≤ a) (a1 : a ≤ 18446744073709551615) (hB : upB n a = true) (hB2 : upB m a = false) :
    Calls Try.prog 5 #[.int .u64 n, .int .u64 m, .int .u64 a] w fun e w' => e = .returned (.bool true) ∧ Grown w w' := by
  have hb : (a == 0) = false := by simp; omega
  have e1 : downV (downV n a) a = downV n a := downV_fix (by omega) (downV_mod (by omega))
  have e2 : okB a = true := okB_pos (by omega)
  have e3 : downV n a ≤ downV m a := downV_mono (by omega) hnm
  obtain ⟨r1, r2, -⟩ := downV_range (n := n) (a := a) (by omega) n0
  obtain ⟨r3, r4, -⟩ := downV_range (n := m) (a := a) (by omega) (by omega)
  obtain ⟨r5, r6⟩ := upV_range (n := n) (a := a) n0 (by omega) (by omega)
  obtain ⟨r7, r8⟩ := upV_range (n := m) (a := a) (by omega) m1 (by omega)
  have u1 : upV (upV n a) a = upV n a := upV_fix (by omega) (by rw [upV_is (by omega) hB]; exact upR_mod (by omega))
  have u2 : downV (upV n a) a = upV n a := downV_fix (by omega) (by rw [upV_is (by omega) hB]; exact upR_mod (by omega))
  have u3 : upB (upV n a) a = true := upB_of (by omega) (by rw [upV_is (by omega) hB]; exact upR_mod (by omega))
  go_enter Try.func5, Try.ntmps5
  go_wp2_with (first | (go_at_call 16; refine (down_any _ _ _ (by omega) (by omega) (by omega) (by omega)).mono ?_; rintro e w' ⟨rfl, rfl⟩) | (go_at_call 17; refine (up_any _ _ _ (by omega) (by omega) (by omega) (by omega)).mono ?_; rintro e w' ⟨rfl, rfl⟩) | (go_at_call 24; refine (ceil_any _ _ _ (by omega) (by omega) (by omega) (by omega)).mono ?_; rintro e w' ⟨rfl, rfl⟩) | (go_at_call 15; refine (awake_any _).mono ?_; rintro e w' ⟨rfl, rfl⟩))
  go_ret
  exact ⟨rfl, Grown.refl _⟩

theorem steps_k_two (n m a : Int) (w : World) (n0 : 0 ≤ n) (hnm : n ≤ m) (m1 : m ≤ 18446744073709551615) (a0 : 1 ≤ a) (a1 : a ≤ 18446744073709551615) (hB : upB n a = true) (hB2 : upB m a = true) :
    Calls Try.prog 5 #[.int .u64 n, .int .u64 m, .int .u64 a] w fun e w' => e = .returned (.bool true) ∧ Grown w w' := by
  have hb : (a == 0) = false := by simp; omega
  have e1 : downV (downV n a) a = downV n a := downV_fix (by omega) (downV_mod (by omega))
  have e2 : okB a = true := okB_pos (by omega)
  have e3 : downV n a ≤ downV m a := downV_mono (by omega) hnm
  obtain ⟨r1, r2, -⟩ := downV_range (n := n) (a := a) (by omega) n0
  obtain ⟨r3, r4, -⟩ := downV_range (n := m) (a := a) (by omega) (by omega)
  obtain ⟨r5, r6⟩ := upV_range (n := n) (a := a) n0 (by omega) (by omega)
  obtain ⟨r7, r8⟩ := upV_range (n := m) (a := a) (by omega) m1 (by omega)
  have u1 : upV (upV n a) a = upV n a := upV_fix (by omega) (by rw [upV_is (by omega) hB]; exact upR_mod (by omega))
  have u2 : downV (upV n a) a = upV n a := downV_fix (by omega) (by rw [upV_is (by omega) hB]; exact upR_mod (by omega))
  have u3 : upB (upV n a) a = true := upB_of (by omega) (by rw [upV_is (by omega) hB]; exact upR_mod (by omega))
  have u4 : upV n a ≤ upV m a := by rw [upV_is (by omega) hB, upV_is (by omega) hB2]; exact upR_mono (by omega) n0 hnm
  go_enter Try.func5, Try.ntmps5
  go_wp2_with (first | (go_at_call 16; refine (down_any _ _ _ (by omega) (by omega) (by omega) (by omega)).mono ?_; rintro e w' ⟨rfl, rfl⟩) | (go_at_call 17; refine (up_any _ _ _ (by omega) (by omega) (by omega) (by omega)).mono ?_; rintro e w' ⟨rfl, rfl⟩) | (go_at_call 24; refine (ceil_any _ _ _ (by omega) (by omega) (by omega) (by omega)).mono ?_; rintro e w' ⟨rfl, rfl⟩) | (go_at_call 15; refine (awake_any _).mono ?_; rintro e w' ⟨rfl, rfl⟩))
  go_ret
  exact ⟨rfl, Grown.refl _⟩

theorem steps_s_none (n m a : Int) (w : World) (n0 : 0 ≤ n) (hnm1 : n < m) (m1 : m ≤ 18446744073709551615) (a0 : 1 ≤ a) (a1 : a ≤ 18446744073709551615) (hB : upB n a = false) :
    Calls Try.prog 5 #[.int .u64 m, .int .u64 n, .int .u64 a] w fun e w' => e = .returned (.bool true) ∧ Grown w w' := by
  have hnm : n ≤ m := by omega
  have hb : (a == 0) = false := by simp; omega
  have e1 : downV (downV n a) a = downV n a := downV_fix (by omega) (downV_mod (by omega))
  have e2 : okB a = true := okB_pos (by omega)
  have e3 : downV n a ≤ downV m a := downV_mono (by omega) hnm
  obtain ⟨r1, r2, -⟩ := downV_range (n := n) (a := a) (by omega) n0
  obtain ⟨r3, r4, -⟩ := downV_range (n := m) (a := a) (by omega) (by omega)
  obtain ⟨r5, r6⟩ := upV_range (n := n) (a := a) n0 (by omega) (by omega)
  obtain ⟨r7, r8⟩ := upV_range (n := m) (a := a) (by omega) m1 (by omega)
  have hB2 : upB m a = false := by
    cases h : upB m a
    · rfl
    · rw [upB_mono (by omega) n0 hnm m1 h] at hB; cases hB
  go_enter Try.func5, Try.ntmps5
  go_wp2_with (first | (go_at_call 16; refine (down_any _ _ _ (by omega) (by omega) (by omega) (by omega)).mono ?_; rintro e w' ⟨rfl, rfl⟩) | (go_at_call 17; refine (up_any _ _ _ (by omega) (by omega) (by omega) (by omega)).mono ?_; rintro e w' ⟨rfl, rfl⟩) | (go_at_call 24; refine (ceil_any _ _ _ (by omega) (by omega) (by omega) (by omega)).mono ?_; rintro e w' ⟨rfl, rfl⟩) | (go_at_call 15; refine (awake_any _).mono ?_; rintro e w' ⟨rfl, rfl⟩))
  go_ret
  exact ⟨rfl, Grown.refl _⟩

theorem steps_s_one (n m a : Int) (w : World) (n0 : 0 ≤ n) (hnm1 : n < m) (m1 : m ≤ 18446744073709551615) (a0 : 1 ≤ a) (a1 : a ≤ 18446744073709551615) (hB : upB n a = true) (hB2 : upB m a = false) :
    Calls Try.prog 5 #[.int .u64 m, .int .u64 n, .int .u64 a] w fun e w' => e = .returned (.bool true) ∧ Grown w w' := by
  have hnm : n ≤ m := by omega
  have hb : (a == 0) = false := by simp; omega
  have e1 : downV (downV n a) a = downV n a := downV_fix (by omega) (downV_mod (by omega))
  have e2 : okB a = true := okB_pos (by omega)
  have e3 : downV n a ≤ downV m a := downV_mono (by omega) hnm
  obtain ⟨r1, r2, -⟩ := downV_range (n := n) (a := a) (by omega) n0
  obtain ⟨r3, r4, -⟩ := downV_range (n := m) (a := a) (by omega) (by omega)
  obtain ⟨r5, r6⟩ := upV_range (n := n) (a := a) n0 (by omega) (by omega)
  obtain ⟨r7, r8⟩ := upV_range (n := m) (a := a) (by omega) m1 (by omega)
  have u1 : upV (upV n a) a = upV n a := upV_fix (by omega) (by rw [upV_is (by omega) hB]; exact upR_mod (by omega))
  have u2 : downV (upV n a) a = upV n a := downV_fix (by omega) (by rw [upV_is (by omega) hB]; exact upR_mod (by omega))
  have u3 : upB (upV n a) a = true := upB_of (by omega) (by rw [upV_is (by omega) hB]; exact upR_mod (by omega))
  go_enter Try.func5, Try.ntmps5
  go_wp2_with (first | (go_at_call 16; refine (down_any _ _ _ (by omega) (by omega) (by omega) (by omega)).mono ?_; rintro e w' ⟨rfl, rfl⟩) | (go_at_call 17; refine (up_any _ _ _ (by omega) (by omega) (by omega) (by omega)).mono ?_; rintro e w' ⟨rfl, rfl⟩) | (go_at_call 24; refine (ceil_any _ _ _ (by omega) (by omega) (by omega) (by omega)).mono ?_; rintro e w' ⟨rfl, rfl⟩) | (go_at_call 15; refine (awake_any _).mono ?_; rintro e w' ⟨rfl, rfl⟩))
  go_ret
  exact ⟨rfl, Grown.refl _⟩

theorem steps_s_two (n m a : Int) (w : World) (n0 : 0 ≤ n) (hnm1 : n < m) (m1 : m ≤ 18446744073709551615) (a0 : 1 ≤ a) (a1 : a ≤ 18446744073709551615) (hB : upB n a = true) (hB2 : upB m a = true) :
    Calls Try.prog 5 #[.int .u64 m, .int .u64 n, .int .u64 a] w fun e w' => e = .returned (.bool true) ∧ Grown w w' := by
  have hnm : n ≤ m := by omega
  have hb : (a == 0) = false := by simp; omega
  have e1 : downV (downV n a) a = downV n a := downV_fix (by omega) (downV_mod (by omega))
  have e2 : okB a = true := okB_pos (by omega)
  have e3 : downV n a ≤ downV m a := downV_mono (by omega) hnm
  obtain ⟨r1, r2, -⟩ := downV_range (n := n) (a := a) (by omega) n0
  obtain ⟨r3, r4, -⟩ := downV_range (n := m) (a := a) (by omega) (by omega)
  obtain ⟨r5, r6⟩ := upV_range (n := n) (a := a) n0 (by omega) (by omega)
  obtain ⟨r7, r8⟩ := upV_range (n := m) (a := a) (by omega) m1 (by omega)
  have u1 : upV (upV n a) a = upV n a := upV_fix (by omega) (by rw [upV_is (by omega) hB]; exact upR_mod (by omega))
  have u2 : downV (upV n a) a = upV n a := downV_fix (by omega) (by rw [upV_is (by omega) hB]; exact upR_mod (by omega))
  have u3 : upB (upV n a) a = true := upB_of (by omega) (by rw [upV_is (by omega) hB]; exact upR_mod (by omega))
  have u4 : upV n a ≤ upV m a := by rw [upV_is (by omega) hB, upV_is (by omega) hB2]; exact upR_mono (by omega) n0 hnm
  go_enter Try.func5, Try.ntmps5
  go_wp2_with (first | (go_at_call 16; refine (down_any _ _ _ (by omega) (by omega) (by omega) (by omega)).mono ?_; rintro e w' ⟨rfl, rfl⟩) | (go_at_call 17; refine (up_any _ _ _ (by omega) (by omega) (by omega) (by omega)).mono ?_; rintro e w' ⟨rfl, rfl⟩) | (go_at_call 24; refine (ceil_any _ _ _ (by omega) (by omega) (by omega) (by omega)).mono ?_; rintro e w' ⟨rfl, rfl⟩) | (go_at_call 15; refine (awake_any _).mono ?_; rintro e w' ⟨rfl, rfl⟩))
  go_ret
  exact ⟨rfl, Grown.refl _⟩

theorem walk_NumSteps (n m a : Int) (w0 : (Lit.int .u64 n).wf = true) (w1 : (Lit.int .u64 m).wf = true) (w2 : (Lit.int .u64 a).wf = true) (w : World) :
    Calls Try.prog 5 #[.int .u64 n, .int .u64 m, .int .u64 a] w fun e w' => e = .returned (.bool true) ∧ Grown w w' := by
  obtain ⟨n0, n1⟩ := u64_of w0
  obtain ⟨m0, m1⟩ := u64_of w1
  obtain ⟨c0, c1⟩ := u64_of w2
  by_cases h : a = 0
  · subst h; exact steps_zero n m w
  · rcases Int.lt_or_le m n with hlt | hle
    · cases hB : upB m a
      · exact steps_s_none m n a w m0 hlt n1 (by omega) c1 hB
      · cases hB2 : upB n a
        · exact steps_s_one m n a w m0 hlt n1 (by omega) c1 hB hB2
        · exact steps_s_two m n a w m0 hlt n1 (by omega) c1 hB hB2
    · cases hB : upB n a
      · exact steps_k_none n m a w n0 hle m1 (by omega) c1 hB
      · cases hB2 : upB m a
        · exact steps_k_one n m a w n0 hle m1 (by omega) c1 hB hB2
        · exact steps_k_two n m a w n0 hle m1 (by omega) c1 hB hB2


theorem near_zero (n : Int) (w : World) (h0 : 0 ≤ n) (h1 : n ≤ 18446744073709551615) :
    Calls Try.prog 9 #[.int .u64 n, .int .u64 0] w fun e w' => e = .returned (.bool true) ∧ Grown w w' := by
  have e1 : ceilV n 0 = 0 := rfl
  have e2 : okB 0 = false := rfl
  have e3 : upV n 0 = 0 := rfl
  have e4 : upB n 0 = false := rfl
  have e5 : downV n 0 = 0 := rfl
  go_enter Try.func9, Try.ntmps9
  go_wp2_with (first | (go_at_call 16; refine (down_any _ _ _ h0 h1 (by omega) (by omega)).mono ?_; rintro e w' ⟨rfl, rfl⟩) | (go_at_call 17; refine (up_any _ _ _ h0 h1 (by omega) (by omega)).mono ?_; rintro e w' ⟨rfl, rfl⟩) | (go_at_call 24; refine (ceil_any _ _ _ h0 h1 (by omega) (by omega)).mono ?_; rintro e w' ⟨rfl, rfl⟩) | (go_at_call 15; refine (awake_any _).mono ?_; rintro e w' ⟨rfl, rfl⟩))
  go_ret
  exact ⟨rfl, Grown.refl _⟩

theorem near_wrap {n a : Int} (n0 : 0 ≤ n) (n1 : n ≤ 18446744073709551615) (a0 : 1 ≤ a) (a1 : a ≤ 18446744073709551615) (hm : ¬ n % a = 0) (hc : 18446744073709551615 < n - n % a + a) :
    ∃ t s, IntKind.u64.wrap (ceilV n a * a) = t ∧ IntKind.u64.wrap (t - n) = s ∧ s < a ∧ 0 ≤ s := by
  have e6 : ceilV n a * a = n - n % a + a := by
    have := Int.mul_ediv_add_emod n a
    unfold ceilV; rw [if_neg (by omega), if_neg hm, Int.add_mul, Int.one_mul, Int.mul_comm]; omega
  have := Int.emod_nonneg n (show a ≠ 0 by omega)
  have := Int.emod_lt_of_pos n (show 0 < a by omega)
  have := mod_le n0 (show 0 < a by omega)
  refine ⟨n - n % a + a - 18446744073709551616, a - n % a, ?_, ?_, by omega, by omega⟩
  · rw [e6, IntKind.wrap_u64]; omega
  · rw [IntKind.wrap_u64]; omega

theorem near_whole (n a : Int) (w : World) (n0 : 0 ≤ n) (n1 : n ≤ 18446744073709551615) (a0 : 1 ≤ a) (a1 : a ≤ 18446744073709551615) (hm : n % a = 0) :
    Calls Try.prog 9 #[.int .u64 n, .int .u64 a] w fun e w' => e = .returned (.bool true) ∧ Grown w w' := by
  have hb : (a == 0) = false := by simp; omega
  have e2 : okB a = true := okB_pos (by omega)
  have e3 : downV n a = n := downV_fix (by omega) hm
  have e4 : upV n a = n := upV_fix (by omega) hm
  have e5 : upB n a = true := upB_of (by omega) hm
  have e6 : ceilV n a = n / a := by unfold ceilV; rw [if_neg (by omega), if_pos hm]
  have e7 : n / a * a = n := by have := Int.mul_ediv_add_emod n a; rw [Int.mul_comm]; omega
  have e8 : 0 ≤ n / a := Int.ediv_nonneg n0 (by omega)
  go_enter Try.func9, Try.ntmps9
  go_wp2_with (first | (go_at_call 16; refine (down_any _ _ _ (by omega) (by omega) (by omega) (by omega)).mono ?_; rintro e w' ⟨rfl, rfl⟩) | (go_at_call 17; refine (up_any _ _ _ (by omega) (by omega) (by omega) (by omega)).mono ?_; rintro e w' ⟨rfl, rfl⟩) | (go_at_call 24; refine (ceil_any _ _ _ (by omega) (by omega) (by omega) (by omega)).mono ?_; rintro e w' ⟨rfl, rfl⟩) | (go_at_call 15; refine (awake_any _).mono ?_; rintro e w' ⟨rfl, rfl⟩))
  go_ret
  exact ⟨rfl, Grown.refl _⟩

theorem near_over (n a : Int) (w : World) (n0 : 0 ≤ n) (n1 : n ≤ 18446744073709551615) (a0 : 1 ≤ a) (a1 : a ≤ 18446744073709551615) (hm : ¬ n % a = 0) (hc : 18446744073709551615 < n - n % a + a) :
    Calls Try.prog 9 #[.int .u64 n, .int .u64 a] w fun e w' => e = .returned (.bool true) ∧ Grown w w' := by
  have hb : (a == 0) = false := by simp; omega
  have e2 : okB a = true := okB_pos (by omega)
  have hmb : (n % a == 0) = false := by simpa using hm
  have hmc : (n % a != 0) = true := by simpa using hm
  have e3 : downV n a % a = 0 := downV_mod (by omega)
  obtain ⟨r1, r2, r3⟩ := downV_range (n := n) (a := a) (by omega) n0
  have e9 : 18446744073709551615 - a < downV n a := by rw [downV_pos (by omega)]; omega
  have e4 : upV n a = 0 := by unfold upV; rw [if_neg (by omega), if_neg hm, if_pos hc]
  have e5 : upB n a = false := by unfold upB; rw [if_neg (by omega), if_neg hm, if_pos hc]
  obtain ⟨t, s, ht, hs, hsa, hs0⟩ := near_wrap (n := n) (a := a) n0 n1 (by omega) a1 hm hc
  clear hm hc
  go_enter Try.func9, Try.ntmps9
  go_wp2_with (first | (go_at_call 16; refine (down_any _ _ _ (by omega) (by omega) (by omega) (by omega)).mono ?_; rintro e w' ⟨rfl, rfl⟩) | (go_at_call 17; refine (up_any _ _ _ (by omega) (by omega) (by omega) (by omega)).mono ?_; rintro e w' ⟨rfl, rfl⟩) | (go_at_call 24; refine (ceil_any _ _ _ (by omega) (by omega) (by omega) (by omega)).mono ?_; rintro e w' ⟨rfl, rfl⟩) | (go_at_call 15; refine (awake_any _).mono ?_; rintro e w' ⟨rfl, rfl⟩))
  go_ret
  exact ⟨rfl, Grown.refl _⟩

theorem near_some (n a : Int) (w : World) (n0 : 0 ≤ n) (n1 : n ≤ 18446744073709551615) (a0 : 1 ≤ a) (a1 : a ≤ 18446744073709551615) (hm : ¬ n % a = 0) (hc : n - n % a + a ≤ 18446744073709551615) :
    Calls Try.prog 9 #[.int .u64 n, .int .u64 a] w fun e w' => e = .returned (.bool true) ∧ Grown w w' := by
  have hb : (a == 0) = false := by simp; omega
  have e2 : okB a = true := okB_pos (by omega)
  have hmb : (n % a == 0) = false := by simpa using hm
  have hmc : (n % a != 0) = true := by simpa using hm
  have e3 : downV n a % a = 0 := downV_mod (by omega)
  obtain ⟨r1, r2, r3⟩ := downV_range (n := n) (a := a) (by omega) n0
  have e4 : upV n a = downV n a + a := by rw [downV_pos (by omega)]; unfold upV; rw [if_neg (by omega), if_neg hm, if_neg (by omega)]
  have e5 : upB n a = true := by unfold upB; rw [if_neg (by omega), if_neg hm, if_neg (by omega)]
  have e10 : downV n a + a ≤ 18446744073709551615 := by rw [downV_pos (by omega)]; omega
  have e11 : n < downV n a + a := by omega
  have e15 : downV n a < n := by rw [downV_pos (by omega)]; have := Int.emod_nonneg n (show a ≠ 0 by omega); omega
  have e6 : ceilV n a * a = downV n a + a := by
    rw [downV_q (by omega)]; unfold ceilV; rw [if_neg (by omega), if_neg hm, Int.add_mul, Int.one_mul, Int.mul_comm]
  have e7 : (downV n a + a) % a = 0 := by rw [Int.add_emod_right]; exact e3
  have e12 : (downV n a + a) / a = ceilV n a := by rw [← e6]; exact Int.mul_ediv_cancel _ (by omega)
  have e8 : (downV n a + a == downV n a) = false := by simp; omega
  have e13 : (downV n a + a - downV n a == a) = true := by simp; omega
  have e14 : 0 ≤ ceilV n a := by unfold ceilV; rw [if_neg (by omega), if_neg hm]; have := Int.ediv_nonneg (a := n) (b := a) n0 (by omega); omega
  clear hm hc
  go_enter Try.func9, Try.ntmps9
  go_wp2_with (first | (go_at_call 16; refine (down_any _ _ _ (by omega) (by omega) (by omega) (by omega)).mono ?_; rintro e w' ⟨rfl, rfl⟩) | (go_at_call 17; refine (up_any _ _ _ (by omega) (by omega) (by omega) (by omega)).mono ?_; rintro e w' ⟨rfl, rfl⟩) | (go_at_call 24; refine (ceil_any _ _ _ (by omega) (by omega) (by omega) (by omega)).mono ?_; rintro e w' ⟨rfl, rfl⟩) | (go_at_call 15; refine (awake_any _).mono ?_; rintro e w' ⟨rfl, rfl⟩))
  go_ret
  exact ⟨rfl, Grown.refl _⟩



theorem walk_NumNear (n a : Int) (w0 : (Lit.int .u64 n).wf = true) (w1 : (Lit.int .u64 a).wf = true) (w : World) :
    Calls Try.prog 9 #[.int .u64 n, .int .u64 a] w fun e w' => e = .returned (.bool true) ∧ Grown w w' := by
  obtain ⟨b0, b1⟩ := u64_of w0
  obtain ⟨c0, c1⟩ := u64_of w1
  by_cases h : a = 0
  · subst h; exact near_zero n w b0 b1
  · by_cases hm : n % a = 0
    · exact near_whole n a w b0 b1 (by omega) c1 hm
    · by_cases hc : 18446744073709551615 < n - n % a + a
      · exact near_over n a w b0 b1 (by omega) c1 hm hc
      · exact near_some n a w b0 b1 (by omega) c1 hm (by omega)

end Go.Proofs.Ytkicfdoeojiolaa
