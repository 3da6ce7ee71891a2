/- The walks of the laws of layer 2, out of the contracts. -/
import Derived.Test.YtbdngcifnlkijaaWalks2
namespace Go.Proofs.Ytbdngcifnlkijaa
open Go.RowKit
set_option linter.unusedVariables false

theorem walk_RatioOf (a0 a1 a2 : Int) (_w0 : (Lit.int .u64 a0).wf = true) (_w1 : (Lit.int .u64 a1).wf = true) (_w2 : (Lit.int .u64 a2).wf = true) (w : World) :
    Calls Try.prog 3 #[.int .u64 a0, .int .u64 a1, .int .u64 a2] w fun e w' => e = .returned (.bool true) ∧ Grown w w' := by
  go_enter Try.func3, Try.ntmps3
  go_wp2_with (first | (go_at_call 14; refine (of_any _ _ _).mono ?_; rintro e w1 ⟨rfl, hg1⟩) | (go_at_call 15; refine (rof_any _ _ _).mono ?_; rintro e w1 ⟨rfl, hg2⟩) | (go_at_call 16; refine (times_any _ _ _).mono ?_; rintro e w1 ⟨rfl, hg3⟩) | (go_at_call 17; refine (rtimes_any _ _ _).mono ?_; rintro e w1 ⟨rfl, hg4⟩) | (go_at_call 18; refine (awake_any _).mono ?_; rintro e w1 ⟨rfl, hg5⟩))
  go_ret
  exact ⟨rfl, by repeat (first | exact Grown.refl _ | assumption | refine grown_trans ?_ (by assumption))⟩

theorem walk_RatioMixes (a0 a1 a2 : Int) (_w0 : (Lit.int .u64 a0).wf = true) (_w1 : (Lit.int .u64 a1).wf = true) (_w2 : (Lit.int .u64 a2).wf = true) (w : World) :
    Calls Try.prog 6 #[.int .u64 a0, .int .u64 a1, .int .u64 a2] w fun e w' => e = .returned (.bool true) ∧ Grown w w' := by
  go_enter Try.func6, Try.ntmps6
  go_wp2_with (first | (go_at_call 20; refine (mix_any _ _ _ _).mono ?_; rintro e w1 ⟨rfl, hg1⟩) | (go_at_call 21; refine (rmix_any _ _ _ _).mono ?_; rintro e w1 ⟨rfl, hg2⟩) | (go_at_call 18; refine (awake_any _).mono ?_; rintro e w1 ⟨rfl, hg5⟩))
  go_ret
  exact ⟨rfl, by repeat (first | exact Grown.refl _ | assumption | refine grown_trans ?_ (by assumption))⟩

theorem walk_RatioGoals (a0 a1 a2 a3 : Int) (w0 : (Lit.int .u64 a0).wf = true) (w1 : (Lit.int .u64 a1).wf = true) (w2 : (Lit.int .u64 a2).wf = true) (w3 : (Lit.int .i64 a3).wf = true) (w : World) :
    Calls Try.prog 9 #[.int .u64 a0, .int .u64 a1, .int .u64 a2, .int .i64 a3] w fun e w' => e = .returned (.bool true) ∧ Grown w w' := by
  obtain ⟨b0, b1⟩ := u64_of w0
  obtain ⟨c0, c1⟩ := u64_of w1
  have d1 := (i64_of w3).2
  clear w0 w1 w2 w3
  go_enter Try.func9, Try.ntmps9
  go_wp2_with (first | (go_at_call 23; refine (goal_any _ _ _ d1 b0 b1).mono ?_; rintro e w1 ⟨rfl, hg1⟩) | (go_at_call 24; refine (rgoal_any _ _ _ d1 b0 b1).mono ?_; rintro e w1 ⟨rfl, hg2⟩) | (go_at_call 22; refine (pace_any _ _ _ _ b0 b1 c0 c1).mono ?_; rintro e w1 ⟨rfl, hg3⟩) | (go_at_call 25; refine (rpace_any _ _ _ _ b0 b1 c0 c1).mono ?_; rintro e w1 ⟨rfl, hg4⟩) | (go_at_call 18; refine (awake_any _).mono ?_; rintro e w1 ⟨rfl, hg5⟩))
  go_ret
  exact ⟨rfl, by repeat (first | exact Grown.refl _ | assumption | refine grown_trans ?_ (by assumption))⟩

end Go.Proofs.Ytbdngcifnlkijaa
