/- The walks of the laws NumParts, NumSteps, NumNear. -/
import Derived.Test.YtkicfdoeojiolaaLaws
namespace Go.Proofs.Ytkicfdoeojiolaa
open Go.RowKit
set_option linter.unusedVariables false

/-! ### plain laws of multiples -/
def upR (n a : Int) : Int := if n % a = 0 then n else n - n % a + a

theorem upB_is {n a : Int} (ha : 0 < a) : upB n a = decide (upR n a ≤ 18446744073709551615 ∨ n % a = 0) := by
  unfold upB upR
  rw [if_neg (by omega)]
  split
  · rename_i h; symm; apply decide_eq_true; exact Or.inr h
  · rename_i h
    split
    · symm; apply decide_eq_false; omega
    · symm; apply decide_eq_true; omega

theorem upV_is {n a : Int} (ha : 0 < a) (h : upB n a = true) : upV n a = upR n a := by
  unfold upB at h; unfold upV upR
  rw [if_neg (by omega)] at h ⊢
  split
  · rfl
  · rename_i h1
    rw [if_neg h1] at h
    split
    · rename_i h2; rw [if_pos h2] at h; cases h
    · rfl

section
variable {n m a : Int}

theorem dm (n : Int) (ha : 0 < a) : ∃ q r, n = a * q + r ∧ 0 ≤ r ∧ r < a ∧ n % a = r ∧ n / a = q :=
  ⟨n / a, n % a, (Int.mul_ediv_add_emod n a).symm, Int.emod_nonneg _ (by omega), Int.emod_lt_of_pos _ ha, rfl, rfl⟩

theorem mul_mod0 (a q : Int) : a * q % a = 0 := Int.mul_emod_right a q
theorem mul_div0 (q : Int) (ha : 0 < a) : a * q / a = q := Int.mul_ediv_cancel_left q (by omega)

theorem downV_pos (ha : 0 < a) : downV n a = n - n % a := by unfold downV; rw [if_neg (by omega)]
theorem downV_q (ha : 0 < a) : downV n a = a * (n / a) := by rw [downV_pos ha]; have := Int.mul_ediv_add_emod n a; omega
theorem okB_pos (ha : 0 < a) : okB a = true := by unfold okB; simp; omega
theorem downV_range (ha : 0 < a) (h0 : 0 ≤ n) : 0 ≤ downV n a ∧ downV n a ≤ n ∧ n - downV n a < a := by
  rw [downV_pos ha]
  have := mod_le h0 ha
  have := Int.emod_nonneg n (show a ≠ 0 by omega)
  have := Int.emod_lt_of_pos n ha
  omega
theorem downV_mod (ha : 0 < a) : downV n a % a = 0 := by rw [downV_q ha]; exact mul_mod0 a _
theorem downV_fix (ha : 0 < a) (h : n % a = 0) : downV n a = n := by rw [downV_pos ha, h]; omega
theorem downV_mono (ha : 0 < a) (h : n ≤ m) : downV n a ≤ downV m a := by
  rw [downV_q ha, downV_q ha]
  exact Int.mul_le_mul_of_nonneg_left (Int.ediv_le_ediv ha h) (by omega)
theorem upR_ge (ha : 0 < a) (h0 : 0 ≤ n) : n ≤ upR n a ∧ upR n a < n + a := by
  unfold upR
  have := Int.emod_nonneg n (show a ≠ 0 by omega)
  have := Int.emod_lt_of_pos n ha
  split <;> omega
theorem upR_mod (ha : 0 < a) : upR n a % a = 0 := by
  unfold upR; split
  · assumption
  · have : n - n % a + a = a * (n / a + 1) := by have := Int.mul_ediv_add_emod n a; rw [Int.mul_add]; omega
    rw [this]; exact mul_mod0 a _
theorem upR_mono (ha : 0 < a) (h0 : 0 ≤ n) (h : n ≤ m) : upR n a ≤ upR m a := by
  have e1 := upR_ge ha h0
  have e2 := upR_ge ha (show 0 ≤ m by omega)
  have m1 := upR_mod (n := n) ha
  have m2 := upR_mod (n := m) ha
  obtain ⟨q, r, hq, r0, r1, hr, -⟩ := dm (upR n a) ha
  obtain ⟨q', r', hq', r0', r1', hr', -⟩ := dm (upR m a) ha
  have z1 : r = 0 := by omega
  have z2 : r' = 0 := by omega
  -- a * q < n + a ≤ m + a ≤ a * q' + a
  rcases Int.lt_or_le q' q with c | c
  · exfalso
    have : a * (q' + 1) ≤ a * q := Int.mul_le_mul_of_nonneg_left (by omega) (by omega)
    rw [Int.mul_add] at this
    omega
  · have : a * q ≤ a * q' := Int.mul_le_mul_of_nonneg_left c (by omega)
    omega
theorem upR_fix (h : n % a = 0) : upR n a = n := by unfold upR; rw [if_pos h]
theorem upV_range (h0 : 0 ≤ n) (h1 : n ≤ 18446744073709551615) (ha : 0 < a) : 0 ≤ upV n a ∧ upV n a ≤ 18446744073709551615 := by
  unfold upV
  rw [if_neg (by omega)]
  have := mod_le h0 ha
  split
  · omega
  · split <;> omega
theorem upB_mono (ha : 0 < a) (h0 : 0 ≤ n) (h : n ≤ m) (h1 : m ≤ 18446744073709551615) (hb : upB m a = true) : upB n a = true := by
  rw [upB_is ha] at hb ⊢
  have hb := of_decide_eq_true hb
  apply decide_eq_true
  left
  have := upR_mono ha h0 h
  rcases hb with hb | hb
  · omega
  · rw [upR_fix hb] at this; omega
theorem upB_of (ha : 0 < a) (h : n % a = 0) : upB n a = true := by
  rw [upB_is ha]; exact decide_eq_true (Or.inr h)
theorem upV_fix (ha : 0 < a) (h : n % a = 0) : upV n a = n := by rw [upV_is ha (upB_of ha h), upR_fix h]
end

/-! ### NumParts -/
theorem parts_zero (n : Int) (w : World) (h0 : 0 ≤ n) (h1 : n ≤ 18446744073709551615) :
    Calls Try.prog 10 #[.int .u64 n, .int .u64 0] w fun e w' => e = .returned (.bool true) ∧ Grown w w' := by
  have e1 : ceilV n 0 = 0 := rfl
  have e2 : okB 0 = false := rfl
  go_enter Try.func10, Try.ntmps10
  go_wp2_with (first | (go_at_call 24; refine (ceil_any _ _ _ h0 h1 (by omega) (by omega)).mono ?_; rintro e w' ⟨rfl, rfl⟩) | (go_at_call 15; refine (awake_any _).mono ?_; rintro e w' ⟨rfl, rfl⟩))
  go_ret
  exact ⟨rfl, Grown.refl _⟩

theorem parts_null (d : Int) (w : World) (h0 : 1 ≤ d) (h1 : d ≤ 18446744073709551615) :
    Calls Try.prog 10 #[.int .u64 0, .int .u64 d] w fun e w' => e = .returned (.bool true) ∧ Grown w w' := by
  have e1 : ceilV 0 d = 0 := by unfold ceilV; rw [if_neg (by omega), if_pos (by simp)]; simp
  have e2 : okB d = true := okB_pos (by omega)
  have e3 : (d == 0) = false := by simp; omega
  go_enter Try.func10, Try.ntmps10
  go_wp2_with (first | (go_at_call 24; refine (ceil_any _ _ _ (by omega) (by omega) (by omega) h1).mono ?_; rintro e w' ⟨rfl, rfl⟩) | (go_at_call 15; refine (awake_any _).mono ?_; rintro e w' ⟨rfl, rfl⟩))
  go_ret
  exact ⟨rfl, Grown.refl _⟩

theorem ceil_less {n d : Int} (hn : 1 ≤ n) (hd : 1 ≤ d) : ceilV n d - 1 = (n - 1) / d ∧ 1 ≤ ceilV n d ∧ ceilV n d ≤ n := by
  obtain ⟨q, r, e, r0, r1, em, eq⟩ := dm (a := d) n (by omega)
  unfold ceilV
  rw [if_neg (by omega), em, eq]
  split
  · rename_i hz
    subst hz
    have q1 : 1 ≤ q := by
      rcases Int.lt_or_le q 1 with c | c
      · exfalso
        have : d * q ≤ 0 := Int.mul_nonpos_of_nonneg_of_nonpos (by omega) (by omega)
        omega
      · exact c
    have e2 : n - 1 = (q - 1) * d + (d - 1) := by rw [Int.sub_mul, Int.one_mul, Int.mul_comm q d]; omega
    refine ⟨?_, q1, ?_⟩
    · rw [e2, Int.add_comm, Int.add_mul_ediv_right _ _ (by omega), Int.ediv_eq_zero_of_lt (by omega) (by omega)]; omega
    · have : 1 * q ≤ d * q := Int.mul_le_mul_of_nonneg_right hd (by omega)
      omega
  · rename_i hz
    have q1 : 0 ≤ q := by rw [← eq]; exact Int.ediv_nonneg (by omega) (by omega)
    have e2 : n - 1 = (r - 1) + q * d := by rw [Int.mul_comm q d]; omega
    refine ⟨?_, by omega, ?_⟩
    · rw [e2, Int.add_mul_ediv_right _ _ (by omega), Int.ediv_eq_zero_of_lt (by omega) (by omega)]; omega
    · have : 1 * q ≤ d * q := Int.mul_le_mul_of_nonneg_right hd q1
      omega

theorem parts_some (n d : Int) (w : World) (n0 : 1 ≤ n) (n1 : n ≤ 18446744073709551615) (h0 : 1 ≤ d) (h1 : d ≤ 18446744073709551615) :
    Calls Try.prog 10 #[.int .u64 n, .int .u64 d] w fun e w' => e = .returned (.bool true) ∧ Grown w w' := by
  obtain ⟨c0, c1, c2⟩ := ceil_less n0 h0
  have e2 : okB d = true := okB_pos (by omega)
  have e3 : (d == 0) = false := by simp; omega
  have e4 : (n == 0) = false := by simp; omega
  have e5 : (ceilV n d - 1 == (n - 1) / d) = true := by simp [c0]
  clear c0
  go_enter Try.func10, Try.ntmps10
  go_wp2_with (first | (go_at_call 24; refine (ceil_any _ _ _ (by omega) (by omega) (by omega) h1).mono ?_; rintro e w' ⟨rfl, rfl⟩) | (go_at_call 15; refine (awake_any _).mono ?_; rintro e w' ⟨rfl, rfl⟩))
  go_ret
  exact ⟨rfl, Grown.refl _⟩

theorem walk_NumParts (a0 a1 : Int) (w0 : (Lit.int .u64 a0).wf = true) (w1 : (Lit.int .u64 a1).wf = true) (w : World) :
    Calls Try.prog 10 #[.int .u64 a0, .int .u64 a1] w fun e w' => e = .returned (.bool true) ∧ Grown w w' := by
  obtain ⟨b0, b1⟩ := u64_of w0
  obtain ⟨c0, c1⟩ := u64_of w1
  by_cases h : a1 = 0
  · subst h; exact parts_zero a0 w b0 b1
  · by_cases h2 : a0 = 0
    · subst h2; exact parts_null a1 w (by omega) c1
    · exact parts_some a0 a1 w (by omega) b1 (by omega) c1

end Go.Proofs.Ytkicfdoeojiolaa
