/- The walk of the law RatioCanon. -/
import Derived.Test.YtbdngcifnlkijaaWalks3
import Derived.Test.YtbdngcifnlkijaaNum5
namespace Go.Proofs.Ytbdngcifnlkijaa
open Go.RowKit
set_option linter.unusedVariables false

set_option maxHeartbeats 1000000 in
theorem canon_00 (a b c : Int) (w : World) (a0 : 0 ≤ a) (a1 : a ≤ 18446744073709551615) (b0 : 0 ≤ b) (b1 : b ≤ 18446744073709551615)
    (x0 : 0 ≤ ofV a b) (x1 : ofV a b ≤ 18446744073709551615) (y0 : 0 ≤ mixV a b c) (y1 : mixV a b c ≤ 18446744073709551615)
    (z0 : 0 ≤ paceV a b c) (z1 : paceV a b c ≤ 18446744073709551615) (z2 : selfEq (paceV a b c).toNat = true)
    (x2 : selfEq (ofV a b).toNat = true) (e1 : (a == 0) = false) (y2 : selfEq (mixV a b c).toNat = true) :
    Calls Try.prog 7 #[.int .u64 a, .int .u64 b, .int .u64 c] w fun e w' => e = .returned (.bool true) ∧ Grown w w' := by
  go_enter Try.func7, Try.ntmps7
  go_wp2_with (first | (go_at_call 14; refine (of_any _ _ _).mono ?_; rintro e w1 ⟨rfl, hg1⟩) | (go_at_call 20; refine (mix_any _ _ _ _).mono ?_; rintro e w1 ⟨rfl, hg3⟩) | (go_at_call 22; refine (pace_any _ _ _ _ a0 a1 b0 b1).mono ?_; rintro e w1 ⟨rfl, hg3⟩) | (go_at_call 19; refine (nan_any _ _ (by assumption) (by assumption)).mono ?_; rintro e w' ⟨rfl, rfl⟩) | (go_at_call 18; refine (awake_any _).mono ?_; rintro e w1 ⟨rfl, hg5⟩))
  refine wp_loop_rounds 4 ?_
  rw [rounds_succ]
  go_wp2_with (first | (go_at_call 14; refine (of_any _ _ _).mono ?_; rintro e w1 ⟨rfl, hg1⟩) | (go_at_call 20; refine (mix_any _ _ _ _).mono ?_; rintro e w1 ⟨rfl, hg3⟩) | (go_at_call 22; refine (pace_any _ _ _ _ a0 a1 b0 b1).mono ?_; rintro e w1 ⟨rfl, hg3⟩) | (go_at_call 19; refine (nan_any _ _ (by assumption) (by assumption)).mono ?_; rintro e w' ⟨rfl, rfl⟩) | (go_at_call 18; refine (awake_any _).mono ?_; rintro e w1 ⟨rfl, hg5⟩))
  rw [rounds_succ]
  go_wp2_with (first | (go_at_call 14; refine (of_any _ _ _).mono ?_; rintro e w1 ⟨rfl, hg1⟩) | (go_at_call 20; refine (mix_any _ _ _ _).mono ?_; rintro e w1 ⟨rfl, hg3⟩) | (go_at_call 22; refine (pace_any _ _ _ _ a0 a1 b0 b1).mono ?_; rintro e w1 ⟨rfl, hg3⟩) | (go_at_call 19; refine (nan_any _ _ (by assumption) (by assumption)).mono ?_; rintro e w' ⟨rfl, rfl⟩) | (go_at_call 18; refine (awake_any _).mono ?_; rintro e w1 ⟨rfl, hg5⟩))
  rw [rounds_succ]
  go_wp2_with (first | (go_at_call 14; refine (of_any _ _ _).mono ?_; rintro e w1 ⟨rfl, hg1⟩) | (go_at_call 20; refine (mix_any _ _ _ _).mono ?_; rintro e w1 ⟨rfl, hg3⟩) | (go_at_call 22; refine (pace_any _ _ _ _ a0 a1 b0 b1).mono ?_; rintro e w1 ⟨rfl, hg3⟩) | (go_at_call 19; refine (nan_any _ _ (by assumption) (by assumption)).mono ?_; rintro e w' ⟨rfl, rfl⟩) | (go_at_call 18; refine (awake_any _).mono ?_; rintro e w1 ⟨rfl, hg5⟩))
  rw [rounds_succ]
  go_wp2_with (first | (go_at_call 14; refine (of_any _ _ _).mono ?_; rintro e w1 ⟨rfl, hg1⟩) | (go_at_call 20; refine (mix_any _ _ _ _).mono ?_; rintro e w1 ⟨rfl, hg3⟩) | (go_at_call 22; refine (pace_any _ _ _ _ a0 a1 b0 b1).mono ?_; rintro e w1 ⟨rfl, hg3⟩) | (go_at_call 19; refine (nan_any _ _ (by assumption) (by assumption)).mono ?_; rintro e w' ⟨rfl, rfl⟩) | (go_at_call 18; refine (awake_any _).mono ?_; rintro e w1 ⟨rfl, hg5⟩))
  go_ret
  exact ⟨rfl, by repeat (first | exact Grown.refl _ | assumption | refine grown_trans ?_ (by assumption) | apply Grown.alloc)⟩

set_option maxHeartbeats 1000000 in
theorem canon_01 (a b c : Int) (w : World) (a0 : 0 ≤ a) (a1 : a ≤ 18446744073709551615) (b0 : 0 ≤ b) (b1 : b ≤ 18446744073709551615)
    (x0 : 0 ≤ ofV a b) (x1 : ofV a b ≤ 18446744073709551615) (y0 : 0 ≤ mixV a b c) (y1 : mixV a b c ≤ 18446744073709551615)
    (z0 : 0 ≤ paceV a b c) (z1 : paceV a b c ≤ 18446744073709551615) (z2 : selfEq (paceV a b c).toNat = true)
    (x2 : selfEq (ofV a b).toNat = true) (e1 : (a == 0) = false) (y2 : selfEq (mixV a b c).toNat = false) (y3 : mixV a b c = 9221120237041090561) :
    Calls Try.prog 7 #[.int .u64 a, .int .u64 b, .int .u64 c] w fun e w' => e = .returned (.bool true) ∧ Grown w w' := by
  have y4 : (mixV a b c != 9221120237041090561) = false := by rw [y3]; rfl
  clear y3
  go_enter Try.func7, Try.ntmps7
  go_wp2_with (first | (go_at_call 14; refine (of_any _ _ _).mono ?_; rintro e w1 ⟨rfl, hg1⟩) | (go_at_call 20; refine (mix_any _ _ _ _).mono ?_; rintro e w1 ⟨rfl, hg3⟩) | (go_at_call 22; refine (pace_any _ _ _ _ a0 a1 b0 b1).mono ?_; rintro e w1 ⟨rfl, hg3⟩) | (go_at_call 19; refine (nan_any _ _ (by assumption) (by assumption)).mono ?_; rintro e w' ⟨rfl, rfl⟩) | (go_at_call 18; refine (awake_any _).mono ?_; rintro e w1 ⟨rfl, hg5⟩))
  refine wp_loop_rounds 4 ?_
  rw [rounds_succ]
  go_wp2_with (first | (go_at_call 14; refine (of_any _ _ _).mono ?_; rintro e w1 ⟨rfl, hg1⟩) | (go_at_call 20; refine (mix_any _ _ _ _).mono ?_; rintro e w1 ⟨rfl, hg3⟩) | (go_at_call 22; refine (pace_any _ _ _ _ a0 a1 b0 b1).mono ?_; rintro e w1 ⟨rfl, hg3⟩) | (go_at_call 19; refine (nan_any _ _ (by assumption) (by assumption)).mono ?_; rintro e w' ⟨rfl, rfl⟩) | (go_at_call 18; refine (awake_any _).mono ?_; rintro e w1 ⟨rfl, hg5⟩))
  rw [rounds_succ]
  go_wp2_with (first | (go_at_call 14; refine (of_any _ _ _).mono ?_; rintro e w1 ⟨rfl, hg1⟩) | (go_at_call 20; refine (mix_any _ _ _ _).mono ?_; rintro e w1 ⟨rfl, hg3⟩) | (go_at_call 22; refine (pace_any _ _ _ _ a0 a1 b0 b1).mono ?_; rintro e w1 ⟨rfl, hg3⟩) | (go_at_call 19; refine (nan_any _ _ (by assumption) (by assumption)).mono ?_; rintro e w' ⟨rfl, rfl⟩) | (go_at_call 18; refine (awake_any _).mono ?_; rintro e w1 ⟨rfl, hg5⟩))
  rw [rounds_succ]
  go_wp2_with (first | (go_at_call 14; refine (of_any _ _ _).mono ?_; rintro e w1 ⟨rfl, hg1⟩) | (go_at_call 20; refine (mix_any _ _ _ _).mono ?_; rintro e w1 ⟨rfl, hg3⟩) | (go_at_call 22; refine (pace_any _ _ _ _ a0 a1 b0 b1).mono ?_; rintro e w1 ⟨rfl, hg3⟩) | (go_at_call 19; refine (nan_any _ _ (by assumption) (by assumption)).mono ?_; rintro e w' ⟨rfl, rfl⟩) | (go_at_call 18; refine (awake_any _).mono ?_; rintro e w1 ⟨rfl, hg5⟩))
  rw [rounds_succ]
  go_wp2_with (first | (go_at_call 14; refine (of_any _ _ _).mono ?_; rintro e w1 ⟨rfl, hg1⟩) | (go_at_call 20; refine (mix_any _ _ _ _).mono ?_; rintro e w1 ⟨rfl, hg3⟩) | (go_at_call 22; refine (pace_any _ _ _ _ a0 a1 b0 b1).mono ?_; rintro e w1 ⟨rfl, hg3⟩) | (go_at_call 19; refine (nan_any _ _ (by assumption) (by assumption)).mono ?_; rintro e w' ⟨rfl, rfl⟩) | (go_at_call 18; refine (awake_any _).mono ?_; rintro e w1 ⟨rfl, hg5⟩))
  go_ret
  exact ⟨rfl, by repeat (first | exact Grown.refl _ | assumption | refine grown_trans ?_ (by assumption) | apply Grown.alloc)⟩

set_option maxHeartbeats 1000000 in
theorem canon_10 (a b c : Int) (w : World) (a0 : 0 ≤ a) (a1 : a ≤ 18446744073709551615) (b0 : 0 ≤ b) (b1 : b ≤ 18446744073709551615)
    (x0 : 0 ≤ ofV a b) (x1 : ofV a b ≤ 18446744073709551615) (y0 : 0 ≤ mixV a b c) (y1 : mixV a b c ≤ 18446744073709551615)
    (z0 : 0 ≤ paceV a b c) (z1 : paceV a b c ≤ 18446744073709551615) (z2 : selfEq (paceV a b c).toNat = true)
    (x2 : selfEq (ofV a b).toNat = true) (e1 : (a == 0) = true) (e2 : (b == 0) = false) (y2 : selfEq (mixV a b c).toNat = true) :
    Calls Try.prog 7 #[.int .u64 a, .int .u64 b, .int .u64 c] w fun e w' => e = .returned (.bool true) ∧ Grown w w' := by
  go_enter Try.func7, Try.ntmps7
  go_wp2_with (first | (go_at_call 14; refine (of_any _ _ _).mono ?_; rintro e w1 ⟨rfl, hg1⟩) | (go_at_call 20; refine (mix_any _ _ _ _).mono ?_; rintro e w1 ⟨rfl, hg3⟩) | (go_at_call 22; refine (pace_any _ _ _ _ a0 a1 b0 b1).mono ?_; rintro e w1 ⟨rfl, hg3⟩) | (go_at_call 19; refine (nan_any _ _ (by assumption) (by assumption)).mono ?_; rintro e w' ⟨rfl, rfl⟩) | (go_at_call 18; refine (awake_any _).mono ?_; rintro e w1 ⟨rfl, hg5⟩))
  refine wp_loop_rounds 4 ?_
  rw [rounds_succ]
  go_wp2_with (first | (go_at_call 14; refine (of_any _ _ _).mono ?_; rintro e w1 ⟨rfl, hg1⟩) | (go_at_call 20; refine (mix_any _ _ _ _).mono ?_; rintro e w1 ⟨rfl, hg3⟩) | (go_at_call 22; refine (pace_any _ _ _ _ a0 a1 b0 b1).mono ?_; rintro e w1 ⟨rfl, hg3⟩) | (go_at_call 19; refine (nan_any _ _ (by assumption) (by assumption)).mono ?_; rintro e w' ⟨rfl, rfl⟩) | (go_at_call 18; refine (awake_any _).mono ?_; rintro e w1 ⟨rfl, hg5⟩))
  rw [rounds_succ]
  go_wp2_with (first | (go_at_call 14; refine (of_any _ _ _).mono ?_; rintro e w1 ⟨rfl, hg1⟩) | (go_at_call 20; refine (mix_any _ _ _ _).mono ?_; rintro e w1 ⟨rfl, hg3⟩) | (go_at_call 22; refine (pace_any _ _ _ _ a0 a1 b0 b1).mono ?_; rintro e w1 ⟨rfl, hg3⟩) | (go_at_call 19; refine (nan_any _ _ (by assumption) (by assumption)).mono ?_; rintro e w' ⟨rfl, rfl⟩) | (go_at_call 18; refine (awake_any _).mono ?_; rintro e w1 ⟨rfl, hg5⟩))
  rw [rounds_succ]
  go_wp2_with (first | (go_at_call 14; refine (of_any _ _ _).mono ?_; rintro e w1 ⟨rfl, hg1⟩) | (go_at_call 20; refine (mix_any _ _ _ _).mono ?_; rintro e w1 ⟨rfl, hg3⟩) | (go_at_call 22; refine (pace_any _ _ _ _ a0 a1 b0 b1).mono ?_; rintro e w1 ⟨rfl, hg3⟩) | (go_at_call 19; refine (nan_any _ _ (by assumption) (by assumption)).mono ?_; rintro e w' ⟨rfl, rfl⟩) | (go_at_call 18; refine (awake_any _).mono ?_; rintro e w1 ⟨rfl, hg5⟩))
  rw [rounds_succ]
  go_wp2_with (first | (go_at_call 14; refine (of_any _ _ _).mono ?_; rintro e w1 ⟨rfl, hg1⟩) | (go_at_call 20; refine (mix_any _ _ _ _).mono ?_; rintro e w1 ⟨rfl, hg3⟩) | (go_at_call 22; refine (pace_any _ _ _ _ a0 a1 b0 b1).mono ?_; rintro e w1 ⟨rfl, hg3⟩) | (go_at_call 19; refine (nan_any _ _ (by assumption) (by assumption)).mono ?_; rintro e w' ⟨rfl, rfl⟩) | (go_at_call 18; refine (awake_any _).mono ?_; rintro e w1 ⟨rfl, hg5⟩))
  go_ret
  exact ⟨rfl, by repeat (first | exact Grown.refl _ | assumption | refine grown_trans ?_ (by assumption) | apply Grown.alloc)⟩

set_option maxHeartbeats 1000000 in
theorem canon_11 (a b c : Int) (w : World) (a0 : 0 ≤ a) (a1 : a ≤ 18446744073709551615) (b0 : 0 ≤ b) (b1 : b ≤ 18446744073709551615)
    (x0 : 0 ≤ ofV a b) (x1 : ofV a b ≤ 18446744073709551615) (y0 : 0 ≤ mixV a b c) (y1 : mixV a b c ≤ 18446744073709551615)
    (z0 : 0 ≤ paceV a b c) (z1 : paceV a b c ≤ 18446744073709551615) (z2 : selfEq (paceV a b c).toNat = true)
    (x2 : selfEq (ofV a b).toNat = true) (e1 : (a == 0) = true) (e2 : (b == 0) = false) (y2 : selfEq (mixV a b c).toNat = false) (y3 : mixV a b c = 9221120237041090561) :
    Calls Try.prog 7 #[.int .u64 a, .int .u64 b, .int .u64 c] w fun e w' => e = .returned (.bool true) ∧ Grown w w' := by
  have y4 : (mixV a b c != 9221120237041090561) = false := by rw [y3]; rfl
  clear y3
  go_enter Try.func7, Try.ntmps7
  go_wp2_with (first | (go_at_call 14; refine (of_any _ _ _).mono ?_; rintro e w1 ⟨rfl, hg1⟩) | (go_at_call 20; refine (mix_any _ _ _ _).mono ?_; rintro e w1 ⟨rfl, hg3⟩) | (go_at_call 22; refine (pace_any _ _ _ _ a0 a1 b0 b1).mono ?_; rintro e w1 ⟨rfl, hg3⟩) | (go_at_call 19; refine (nan_any _ _ (by assumption) (by assumption)).mono ?_; rintro e w' ⟨rfl, rfl⟩) | (go_at_call 18; refine (awake_any _).mono ?_; rintro e w1 ⟨rfl, hg5⟩))
  refine wp_loop_rounds 4 ?_
  rw [rounds_succ]
  go_wp2_with (first | (go_at_call 14; refine (of_any _ _ _).mono ?_; rintro e w1 ⟨rfl, hg1⟩) | (go_at_call 20; refine (mix_any _ _ _ _).mono ?_; rintro e w1 ⟨rfl, hg3⟩) | (go_at_call 22; refine (pace_any _ _ _ _ a0 a1 b0 b1).mono ?_; rintro e w1 ⟨rfl, hg3⟩) | (go_at_call 19; refine (nan_any _ _ (by assumption) (by assumption)).mono ?_; rintro e w' ⟨rfl, rfl⟩) | (go_at_call 18; refine (awake_any _).mono ?_; rintro e w1 ⟨rfl, hg5⟩))
  rw [rounds_succ]
  go_wp2_with (first | (go_at_call 14; refine (of_any _ _ _).mono ?_; rintro e w1 ⟨rfl, hg1⟩) | (go_at_call 20; refine (mix_any _ _ _ _).mono ?_; rintro e w1 ⟨rfl, hg3⟩) | (go_at_call 22; refine (pace_any _ _ _ _ a0 a1 b0 b1).mono ?_; rintro e w1 ⟨rfl, hg3⟩) | (go_at_call 19; refine (nan_any _ _ (by assumption) (by assumption)).mono ?_; rintro e w' ⟨rfl, rfl⟩) | (go_at_call 18; refine (awake_any _).mono ?_; rintro e w1 ⟨rfl, hg5⟩))
  rw [rounds_succ]
  go_wp2_with (first | (go_at_call 14; refine (of_any _ _ _).mono ?_; rintro e w1 ⟨rfl, hg1⟩) | (go_at_call 20; refine (mix_any _ _ _ _).mono ?_; rintro e w1 ⟨rfl, hg3⟩) | (go_at_call 22; refine (pace_any _ _ _ _ a0 a1 b0 b1).mono ?_; rintro e w1 ⟨rfl, hg3⟩) | (go_at_call 19; refine (nan_any _ _ (by assumption) (by assumption)).mono ?_; rintro e w' ⟨rfl, rfl⟩) | (go_at_call 18; refine (awake_any _).mono ?_; rintro e w1 ⟨rfl, hg5⟩))
  rw [rounds_succ]
  go_wp2_with (first | (go_at_call 14; refine (of_any _ _ _).mono ?_; rintro e w1 ⟨rfl, hg1⟩) | (go_at_call 20; refine (mix_any _ _ _ _).mono ?_; rintro e w1 ⟨rfl, hg3⟩) | (go_at_call 22; refine (pace_any _ _ _ _ a0 a1 b0 b1).mono ?_; rintro e w1 ⟨rfl, hg3⟩) | (go_at_call 19; refine (nan_any _ _ (by assumption) (by assumption)).mono ?_; rintro e w' ⟨rfl, rfl⟩) | (go_at_call 18; refine (awake_any _).mono ?_; rintro e w1 ⟨rfl, hg5⟩))
  go_ret
  exact ⟨rfl, by repeat (first | exact Grown.refl _ | assumption | refine grown_trans ?_ (by assumption) | apply Grown.alloc)⟩

set_option maxHeartbeats 1000000 in
theorem canon_20 (a b c : Int) (w : World) (a0 : 0 ≤ a) (a1 : a ≤ 18446744073709551615) (b0 : 0 ≤ b) (b1 : b ≤ 18446744073709551615)
    (x0 : 0 ≤ ofV a b) (x1 : ofV a b ≤ 18446744073709551615) (y0 : 0 ≤ mixV a b c) (y1 : mixV a b c ≤ 18446744073709551615)
    (z0 : 0 ≤ paceV a b c) (z1 : paceV a b c ≤ 18446744073709551615) (z2 : selfEq (paceV a b c).toNat = true)
    (x2 : selfEq (ofV a b).toNat = false) (x3 : ofV a b = 9221120237041090561) (e1 : (a == 0) = true) (e2 : (b == 0) = true) (y2 : selfEq (mixV a b c).toNat = true) :
    Calls Try.prog 7 #[.int .u64 a, .int .u64 b, .int .u64 c] w fun e w' => e = .returned (.bool true) ∧ Grown w w' := by
  have x4 : (ofV a b != 9221120237041090561) = false := by rw [x3]; rfl
  clear x3
  go_enter Try.func7, Try.ntmps7
  go_wp2_with (first | (go_at_call 14; refine (of_any _ _ _).mono ?_; rintro e w1 ⟨rfl, hg1⟩) | (go_at_call 20; refine (mix_any _ _ _ _).mono ?_; rintro e w1 ⟨rfl, hg3⟩) | (go_at_call 22; refine (pace_any _ _ _ _ a0 a1 b0 b1).mono ?_; rintro e w1 ⟨rfl, hg3⟩) | (go_at_call 19; refine (nan_any _ _ (by assumption) (by assumption)).mono ?_; rintro e w' ⟨rfl, rfl⟩) | (go_at_call 18; refine (awake_any _).mono ?_; rintro e w1 ⟨rfl, hg5⟩))
  refine wp_loop_rounds 4 ?_
  rw [rounds_succ]
  go_wp2_with (first | (go_at_call 14; refine (of_any _ _ _).mono ?_; rintro e w1 ⟨rfl, hg1⟩) | (go_at_call 20; refine (mix_any _ _ _ _).mono ?_; rintro e w1 ⟨rfl, hg3⟩) | (go_at_call 22; refine (pace_any _ _ _ _ a0 a1 b0 b1).mono ?_; rintro e w1 ⟨rfl, hg3⟩) | (go_at_call 19; refine (nan_any _ _ (by assumption) (by assumption)).mono ?_; rintro e w' ⟨rfl, rfl⟩) | (go_at_call 18; refine (awake_any _).mono ?_; rintro e w1 ⟨rfl, hg5⟩))
  rw [rounds_succ]
  go_wp2_with (first | (go_at_call 14; refine (of_any _ _ _).mono ?_; rintro e w1 ⟨rfl, hg1⟩) | (go_at_call 20; refine (mix_any _ _ _ _).mono ?_; rintro e w1 ⟨rfl, hg3⟩) | (go_at_call 22; refine (pace_any _ _ _ _ a0 a1 b0 b1).mono ?_; rintro e w1 ⟨rfl, hg3⟩) | (go_at_call 19; refine (nan_any _ _ (by assumption) (by assumption)).mono ?_; rintro e w' ⟨rfl, rfl⟩) | (go_at_call 18; refine (awake_any _).mono ?_; rintro e w1 ⟨rfl, hg5⟩))
  rw [rounds_succ]
  go_wp2_with (first | (go_at_call 14; refine (of_any _ _ _).mono ?_; rintro e w1 ⟨rfl, hg1⟩) | (go_at_call 20; refine (mix_any _ _ _ _).mono ?_; rintro e w1 ⟨rfl, hg3⟩) | (go_at_call 22; refine (pace_any _ _ _ _ a0 a1 b0 b1).mono ?_; rintro e w1 ⟨rfl, hg3⟩) | (go_at_call 19; refine (nan_any _ _ (by assumption) (by assumption)).mono ?_; rintro e w' ⟨rfl, rfl⟩) | (go_at_call 18; refine (awake_any _).mono ?_; rintro e w1 ⟨rfl, hg5⟩))
  rw [rounds_succ]
  go_wp2_with (first | (go_at_call 14; refine (of_any _ _ _).mono ?_; rintro e w1 ⟨rfl, hg1⟩) | (go_at_call 20; refine (mix_any _ _ _ _).mono ?_; rintro e w1 ⟨rfl, hg3⟩) | (go_at_call 22; refine (pace_any _ _ _ _ a0 a1 b0 b1).mono ?_; rintro e w1 ⟨rfl, hg3⟩) | (go_at_call 19; refine (nan_any _ _ (by assumption) (by assumption)).mono ?_; rintro e w' ⟨rfl, rfl⟩) | (go_at_call 18; refine (awake_any _).mono ?_; rintro e w1 ⟨rfl, hg5⟩))
  go_ret
  exact ⟨rfl, by repeat (first | exact Grown.refl _ | assumption | refine grown_trans ?_ (by assumption) | apply Grown.alloc)⟩

set_option maxHeartbeats 1000000 in
theorem canon_21 (a b c : Int) (w : World) (a0 : 0 ≤ a) (a1 : a ≤ 18446744073709551615) (b0 : 0 ≤ b) (b1 : b ≤ 18446744073709551615)
    (x0 : 0 ≤ ofV a b) (x1 : ofV a b ≤ 18446744073709551615) (y0 : 0 ≤ mixV a b c) (y1 : mixV a b c ≤ 18446744073709551615)
    (z0 : 0 ≤ paceV a b c) (z1 : paceV a b c ≤ 18446744073709551615) (z2 : selfEq (paceV a b c).toNat = true)
    (x2 : selfEq (ofV a b).toNat = false) (x3 : ofV a b = 9221120237041090561) (e1 : (a == 0) = true) (e2 : (b == 0) = true) (y2 : selfEq (mixV a b c).toNat = false) (y3 : mixV a b c = 9221120237041090561) :
    Calls Try.prog 7 #[.int .u64 a, .int .u64 b, .int .u64 c] w fun e w' => e = .returned (.bool true) ∧ Grown w w' := by
  have x4 : (ofV a b != 9221120237041090561) = false := by rw [x3]; rfl
  clear x3
  have y4 : (mixV a b c != 9221120237041090561) = false := by rw [y3]; rfl
  clear y3
  go_enter Try.func7, Try.ntmps7
  go_wp2_with (first | (go_at_call 14; refine (of_any _ _ _).mono ?_; rintro e w1 ⟨rfl, hg1⟩) | (go_at_call 20; refine (mix_any _ _ _ _).mono ?_; rintro e w1 ⟨rfl, hg3⟩) | (go_at_call 22; refine (pace_any _ _ _ _ a0 a1 b0 b1).mono ?_; rintro e w1 ⟨rfl, hg3⟩) | (go_at_call 19; refine (nan_any _ _ (by assumption) (by assumption)).mono ?_; rintro e w' ⟨rfl, rfl⟩) | (go_at_call 18; refine (awake_any _).mono ?_; rintro e w1 ⟨rfl, hg5⟩))
  refine wp_loop_rounds 4 ?_
  rw [rounds_succ]
  go_wp2_with (first | (go_at_call 14; refine (of_any _ _ _).mono ?_; rintro e w1 ⟨rfl, hg1⟩) | (go_at_call 20; refine (mix_any _ _ _ _).mono ?_; rintro e w1 ⟨rfl, hg3⟩) | (go_at_call 22; refine (pace_any _ _ _ _ a0 a1 b0 b1).mono ?_; rintro e w1 ⟨rfl, hg3⟩) | (go_at_call 19; refine (nan_any _ _ (by assumption) (by assumption)).mono ?_; rintro e w' ⟨rfl, rfl⟩) | (go_at_call 18; refine (awake_any _).mono ?_; rintro e w1 ⟨rfl, hg5⟩))
  rw [rounds_succ]
  go_wp2_with (first | (go_at_call 14; refine (of_any _ _ _).mono ?_; rintro e w1 ⟨rfl, hg1⟩) | (go_at_call 20; refine (mix_any _ _ _ _).mono ?_; rintro e w1 ⟨rfl, hg3⟩) | (go_at_call 22; refine (pace_any _ _ _ _ a0 a1 b0 b1).mono ?_; rintro e w1 ⟨rfl, hg3⟩) | (go_at_call 19; refine (nan_any _ _ (by assumption) (by assumption)).mono ?_; rintro e w' ⟨rfl, rfl⟩) | (go_at_call 18; refine (awake_any _).mono ?_; rintro e w1 ⟨rfl, hg5⟩))
  rw [rounds_succ]
  go_wp2_with (first | (go_at_call 14; refine (of_any _ _ _).mono ?_; rintro e w1 ⟨rfl, hg1⟩) | (go_at_call 20; refine (mix_any _ _ _ _).mono ?_; rintro e w1 ⟨rfl, hg3⟩) | (go_at_call 22; refine (pace_any _ _ _ _ a0 a1 b0 b1).mono ?_; rintro e w1 ⟨rfl, hg3⟩) | (go_at_call 19; refine (nan_any _ _ (by assumption) (by assumption)).mono ?_; rintro e w' ⟨rfl, rfl⟩) | (go_at_call 18; refine (awake_any _).mono ?_; rintro e w1 ⟨rfl, hg5⟩))
  rw [rounds_succ]
  go_wp2_with (first | (go_at_call 14; refine (of_any _ _ _).mono ?_; rintro e w1 ⟨rfl, hg1⟩) | (go_at_call 20; refine (mix_any _ _ _ _).mono ?_; rintro e w1 ⟨rfl, hg3⟩) | (go_at_call 22; refine (pace_any _ _ _ _ a0 a1 b0 b1).mono ?_; rintro e w1 ⟨rfl, hg3⟩) | (go_at_call 19; refine (nan_any _ _ (by assumption) (by assumption)).mono ?_; rintro e w' ⟨rfl, rfl⟩) | (go_at_call 18; refine (awake_any _).mono ?_; rintro e w1 ⟨rfl, hg5⟩))
  go_ret
  exact ⟨rfl, by repeat (first | exact Grown.refl _ | assumption | refine grown_trans ?_ (by assumption) | apply Grown.alloc)⟩

theorem walk_RatioCanon (a b c : Int) (w0 : (Lit.int .u64 a).wf = true) (w1 : (Lit.int .u64 b).wf = true) (w2 : (Lit.int .u64 c).wf = true) (w : World) :
    Calls Try.prog 7 #[.int .u64 a, .int .u64 b, .int .u64 c] w fun e w' => e = .returned (.bool true) ∧ Grown w w' := by
  obtain ⟨a0, a1⟩ := u64_of w0
  obtain ⟨b0, b1⟩ := u64_of w1
  obtain ⟨c0, c1⟩ := u64_of w2
  obtain ⟨x0, x1, x⟩ := ofV_cases a b
  obtain ⟨y0, y1, y⟩ := mixV_cases a b c
  obtain ⟨z0, z1, -⟩ : 0 ≤ paceV a b c ∧ paceV a b c ≤ 18446744073709551615 ∧ _ := ofV_cases c (wayV a b)
  have z2 : selfEq (paceV a b c).toNat = true := by
    unfold paceV
    apply ofV_fine c0 c1
    · unfold wayV; split
      · split <;> omega
      · omega
    · unfold wayV; split
      · split <;> omega
      · omega
  by_cases ha : a = 0
  · have e1 : (a == 0) = true := by simpa using ha
    by_cases hb : b = 0
    · have e2 : (b == 0) = true := by simpa using hb
      have xc : ofV a b = 9221120237041090561 := by rw [ha, hb]; exact ofV_00
      have xs : selfEq (ofV a b).toNat = false := by rw [xc]; decide +kernel
      rcases y with y | ⟨y, y3⟩
      · exact canon_20 a b c w a0 a1 b0 b1 x0 x1 y0 y1 z0 z1 z2 xs xc e1 e2 y
      · exact canon_21 a b c w a0 a1 b0 b1 x0 x1 y0 y1 z0 z1 z2 xs xc e1 e2 y y3
    · have e2 : (b == 0) = false := by simpa using hb
      have xs := ofV_fine (a := a) (b := b) a0 a1 (by omega) b1
      rcases y with y | ⟨y, y3⟩
      · exact canon_10 a b c w a0 a1 b0 b1 x0 x1 y0 y1 z0 z1 z2 xs e1 e2 y
      · exact canon_11 a b c w a0 a1 b0 b1 x0 x1 y0 y1 z0 z1 z2 xs e1 e2 y y3
  · have e1 : (a == 0) = false := by simpa using ha
    have xs : selfEq (ofV a b).toNat = true := by
      by_cases hb : b = 0
      · subst hb; exact ofV_by0 (by omega) a1
      · exact ofV_fine a0 a1 (by omega) b1
    rcases y with y | ⟨y, y3⟩
    · exact canon_00 a b c w a0 a1 b0 b1 x0 x1 y0 y1 z0 z1 z2 xs e1 y
    · exact canon_01 a b c w a0 a1 b0 b1 x0 x1 y0 y1 z0 z1 z2 xs e1 y y3

end Go.Proofs.Ytbdngcifnlkijaa
