/- The contracts of Goal and Pace, of package ratio and of its reference. -/
import Derived.Test.YtbdngcifnlkijaaWalks
namespace Go.Proofs.Ytbdngcifnlkijaa
open Go.RowKit
set_option linter.unusedVariables false

theorem goal_neg (live percent : Int) (w : World) (h : percent < 0) :
    Calls Try.prog 23 #[.int .u64 live, .int .i64 percent] w fun e w' => e = .returned (.int .u64 (goalV live percent)) ∧ Grown w w' := by
  have HT := Lib.hid (show goalV live percent = 18446744073709551615 by unfold goalV; rw [if_pos h])
  go_enter Try.func23, Try.ntmps23
  go_wp2
  go_ret
  exact ⟨by rw [HT.out]; rfl, Grown.refl _⟩

theorem goal_great (live percent : Int) (w : World) (h : 0 ≤ percent) (h1 : percent ≤ 9223372036854775807) (hl : 0 ≤ live) (hl1 : live ≤ 18446744073709551615) (hc : 18446744073709551615 < live + timesV live (ofV percent 100)) :
    Calls Try.prog 23 #[.int .u64 live, .int .i64 percent] w fun e w' => e = .returned (.int .u64 (goalV live percent)) ∧ Grown w w' := by
  have HT := Lib.hid (show goalV live percent = 18446744073709551615 by unfold goalV; rw [if_neg (by omega), if_pos hc])
  obtain ⟨hr0, hr1⟩ := timesV_range live (ofV percent 100)
  have ha := fun w => add64_great live (timesV live (ofV percent 100)) hl hr0 hc (by omega) w
  go_enter Try.func23, Try.ntmps23
  go_wp2_with (first | (go_at_call 14; refine (of_any _ _ _).mono ?_; rintro e w1 ⟨rfl, hg1⟩) | (go_at_call 16; refine (times_any _ _ _).mono ?_; rintro e w1 ⟨rfl, hg2⟩))
  go_ret
  exact ⟨by rw [HT.out]; rfl, by repeat (first | exact Grown.refl _ | assumption | refine grown_trans ?_ (by assumption))⟩

theorem goal_least (live percent : Int) (w : World) (h : 0 ≤ percent) (h1 : percent ≤ 9223372036854775807) (hl : 0 ≤ live) (hl1 : live ≤ 18446744073709551615) (hc : live + timesV live (ofV percent 100) < 4194304) :
    Calls Try.prog 23 #[.int .u64 live, .int .i64 percent] w fun e w' => e = .returned (.int .u64 (goalV live percent)) ∧ Grown w w' := by
  have HT := Lib.hid (show goalV live percent = 4194304 by unfold goalV; rw [if_neg (by omega), if_neg (by omega), if_pos hc])
  obtain ⟨hr0, hr1⟩ := timesV_range live (ofV percent 100)
  have ha := fun w => add64_small live (timesV live (ofV percent 100)) hl hr0 (by omega) w
  go_enter Try.func23, Try.ntmps23
  go_wp2_with (first | (go_at_call 14; refine (of_any _ _ _).mono ?_; rintro e w1 ⟨rfl, hg1⟩) | (go_at_call 16; refine (times_any _ _ _).mono ?_; rintro e w1 ⟨rfl, hg2⟩))
  go_ret
  exact ⟨by rw [HT.out]; rfl, by repeat (first | exact Grown.refl _ | assumption | refine grown_trans ?_ (by assumption))⟩

theorem goal_sum (live percent : Int) (w : World) (h : 0 ≤ percent) (h1 : percent ≤ 9223372036854775807) (hl : 0 ≤ live) (hl1 : live ≤ 18446744073709551615) (hc0 : 4194304 ≤ live + timesV live (ofV percent 100)) (hc : live + timesV live (ofV percent 100) ≤ 18446744073709551615) :
    Calls Try.prog 23 #[.int .u64 live, .int .i64 percent] w fun e w' => e = .returned (.int .u64 (goalV live percent)) ∧ Grown w w' := by
  have HT := Lib.hid (show goalV live percent = live + timesV live (ofV percent 100) by unfold goalV; rw [if_neg (by omega), if_neg (by omega), if_neg (by omega)])
  obtain ⟨hr0, hr1⟩ := timesV_range live (ofV percent 100)
  have ha := fun w => add64_small live (timesV live (ofV percent 100)) hl hr0 (by omega) w
  go_enter Try.func23, Try.ntmps23
  go_wp2_with (first | (go_at_call 14; refine (of_any _ _ _).mono ?_; rintro e w1 ⟨rfl, hg1⟩) | (go_at_call 16; refine (times_any _ _ _).mono ?_; rintro e w1 ⟨rfl, hg2⟩))
  go_ret
  exact ⟨by rw [HT.out]; rfl, by repeat (first | exact Grown.refl _ | assumption | refine grown_trans ?_ (by assumption))⟩

theorem goal_any (live percent : Int) (w : World) (h1 : percent ≤ 9223372036854775807) (hl : 0 ≤ live) (hl1 : live ≤ 18446744073709551615) :
    Calls Try.prog 23 #[.int .u64 live, .int .i64 percent] w fun e w' => e = .returned (.int .u64 (goalV live percent)) ∧ Grown w w' := by
  by_cases h : 0 ≤ percent
  · by_cases hc : 18446744073709551615 < live + timesV live (ofV percent 100)
    · exact goal_great live percent w h h1 hl hl1 hc
    · by_cases hc0 : live + timesV live (ofV percent 100) < 4194304
      · exact goal_least live percent w h h1 hl hl1 hc0
      · exact goal_sum live percent w h h1 hl hl1 (by omega) (by omega)
  · exact goal_neg live percent w (by omega)

theorem rgoal_neg (live percent : Int) (w : World) (h : percent < 0) :
    Calls Try.prog 24 #[.int .u64 live, .int .i64 percent] w fun e w' => e = .returned (.int .u64 (goalV live percent)) ∧ Grown w w' := by
  have HT := Lib.hid (show goalV live percent = 18446744073709551615 by unfold goalV; rw [if_pos h])
  go_enter Try.func24, Try.ntmps24
  go_wp2
  go_ret
  exact ⟨by rw [HT.out]; rfl, Grown.refl _⟩

theorem rgoal_great (live percent : Int) (w : World) (h : 0 ≤ percent) (h1 : percent ≤ 9223372036854775807) (hl : 0 ≤ live) (hl1 : live ≤ 18446744073709551615) (hc : 18446744073709551615 < live + timesV live (ofV percent 100)) :
    Calls Try.prog 24 #[.int .u64 live, .int .i64 percent] w fun e w' => e = .returned (.int .u64 (goalV live percent)) ∧ Grown w w' := by
  have HT := Lib.hid (show goalV live percent = 18446744073709551615 by unfold goalV; rw [if_neg (by omega), if_pos hc])
  obtain ⟨hr0, hr1⟩ := timesV_range live (ofV percent 100)
  go_enter Try.func24, Try.ntmps24
  go_wp2_with (first | (go_at_call 15; refine (rof_any _ _ _).mono ?_; rintro e w1 ⟨rfl, hg1⟩) | (go_at_call 17; refine (rtimes_any _ _ _).mono ?_; rintro e w1 ⟨rfl, hg2⟩))
  go_ret
  exact ⟨by rw [HT.out]; rfl, by repeat (first | exact Grown.refl _ | assumption | refine grown_trans ?_ (by assumption))⟩

theorem rgoal_least (live percent : Int) (w : World) (h : 0 ≤ percent) (h1 : percent ≤ 9223372036854775807) (hl : 0 ≤ live) (hl1 : live ≤ 18446744073709551615) (hc : live + timesV live (ofV percent 100) < 4194304) :
    Calls Try.prog 24 #[.int .u64 live, .int .i64 percent] w fun e w' => e = .returned (.int .u64 (goalV live percent)) ∧ Grown w w' := by
  have HT := Lib.hid (show goalV live percent = 4194304 by unfold goalV; rw [if_neg (by omega), if_neg (by omega), if_pos hc])
  obtain ⟨hr0, hr1⟩ := timesV_range live (ofV percent 100)
  go_enter Try.func24, Try.ntmps24
  go_wp2_with (first | (go_at_call 15; refine (rof_any _ _ _).mono ?_; rintro e w1 ⟨rfl, hg1⟩) | (go_at_call 17; refine (rtimes_any _ _ _).mono ?_; rintro e w1 ⟨rfl, hg2⟩))
  go_ret
  exact ⟨by rw [HT.out]; rfl, by repeat (first | exact Grown.refl _ | assumption | refine grown_trans ?_ (by assumption))⟩

theorem rgoal_sum (live percent : Int) (w : World) (h : 0 ≤ percent) (h1 : percent ≤ 9223372036854775807) (hl : 0 ≤ live) (hl1 : live ≤ 18446744073709551615) (hc0 : 4194304 ≤ live + timesV live (ofV percent 100)) (hc : live + timesV live (ofV percent 100) ≤ 18446744073709551615) :
    Calls Try.prog 24 #[.int .u64 live, .int .i64 percent] w fun e w' => e = .returned (.int .u64 (goalV live percent)) ∧ Grown w w' := by
  have HT := Lib.hid (show goalV live percent = live + timesV live (ofV percent 100) by unfold goalV; rw [if_neg (by omega), if_neg (by omega), if_neg (by omega)])
  obtain ⟨hr0, hr1⟩ := timesV_range live (ofV percent 100)
  go_enter Try.func24, Try.ntmps24
  go_wp2_with (first | (go_at_call 15; refine (rof_any _ _ _).mono ?_; rintro e w1 ⟨rfl, hg1⟩) | (go_at_call 17; refine (rtimes_any _ _ _).mono ?_; rintro e w1 ⟨rfl, hg2⟩))
  go_ret
  exact ⟨by rw [HT.out]; rfl, by repeat (first | exact Grown.refl _ | assumption | refine grown_trans ?_ (by assumption))⟩

theorem rgoal_any (live percent : Int) (w : World) (h1 : percent ≤ 9223372036854775807) (hl : 0 ≤ live) (hl1 : live ≤ 18446744073709551615) :
    Calls Try.prog 24 #[.int .u64 live, .int .i64 percent] w fun e w' => e = .returned (.int .u64 (goalV live percent)) ∧ Grown w w' := by
  by_cases h : 0 ≤ percent
  · by_cases hc : 18446744073709551615 < live + timesV live (ofV percent 100)
    · exact rgoal_great live percent w h h1 hl hl1 hc
    · by_cases hc0 : live + timesV live (ofV percent 100) < 4194304
      · exact rgoal_least live percent w h h1 hl hl1 hc0
      · exact rgoal_sum live percent w h h1 hl hl1 (by omega) (by omega)
  · exact rgoal_neg live percent w (by omega)

theorem pace_behind (live goal pages : Int) (w : World) (hl : 0 ≤ live) (hl1 : live ≤ 18446744073709551615) (hg : 0 ≤ goal) (hg1 : goal ≤ 18446744073709551615) (h : goal ≤ live) :
    Calls Try.prog 22 #[.int .u64 live, .int .u64 goal, .int .u64 pages] w fun e w' => e = .returned (.int .u64 (paceV live goal pages)) ∧ Grown w w' := by
  have HT := Lib.hid (show paceV live goal pages = ofV pages 8192 by unfold paceV wayV; rw [if_neg (by omega)])
  go_enter Try.func22, Try.ntmps22
  go_wp2_with (go_at_call 14; refine (of_any _ _ _).mono ?_; rintro e w1 ⟨rfl, hg1⟩)
  go_ret
  exact ⟨by rw [HT.out]; rfl, by assumption⟩

theorem pace_near (live goal pages : Int) (w : World) (hl : 0 ≤ live) (hl1 : live ≤ 18446744073709551615) (hg : 0 ≤ goal) (hg1 : goal ≤ 18446744073709551615) (h : live < goal) (h2 : goal - live < 8192) :
    Calls Try.prog 22 #[.int .u64 live, .int .u64 goal, .int .u64 pages] w fun e w' => e = .returned (.int .u64 (paceV live goal pages)) ∧ Grown w w' := by
  have HT := Lib.hid (show paceV live goal pages = ofV pages 8192 by unfold paceV wayV; rw [if_pos (by omega), if_neg (by omega)])
  go_enter Try.func22, Try.ntmps22
  go_wp2_with (go_at_call 14; refine (of_any _ _ _).mono ?_; rintro e w1 ⟨rfl, hg1⟩)
  go_ret
  exact ⟨by rw [HT.out]; rfl, by assumption⟩

theorem pace_far (live goal pages : Int) (w : World) (hl : 0 ≤ live) (hl1 : live ≤ 18446744073709551615) (hg : 0 ≤ goal) (hg1 : goal ≤ 18446744073709551615) (h : live < goal) (h2 : 8192 ≤ goal - live) :
    Calls Try.prog 22 #[.int .u64 live, .int .u64 goal, .int .u64 pages] w fun e w' => e = .returned (.int .u64 (paceV live goal pages)) ∧ Grown w w' := by
  have HT := Lib.hid (show paceV live goal pages = ofV pages (goal - live) by unfold paceV wayV; rw [if_pos (by omega)]; split; rfl; congr 1; omega)
  go_enter Try.func22, Try.ntmps22
  go_wp2_with (go_at_call 14; refine (of_any _ _ _).mono ?_; rintro e w1 ⟨rfl, hg1⟩)
  go_ret
  exact ⟨by rw [HT.out]; rfl, by assumption⟩

theorem pace_any (live goal pages : Int) (w : World) (hl : 0 ≤ live) (hl1 : live ≤ 18446744073709551615) (hg : 0 ≤ goal) (hg1 : goal ≤ 18446744073709551615) :
    Calls Try.prog 22 #[.int .u64 live, .int .u64 goal, .int .u64 pages] w fun e w' => e = .returned (.int .u64 (paceV live goal pages)) ∧ Grown w w' := by
  by_cases h : goal ≤ live
  · exact pace_behind live goal pages w hl hl1 hg hg1 h
  · by_cases h2 : goal - live < 8192
    · exact pace_near live goal pages w hl hl1 hg hg1 (by omega) h2
    · exact pace_far live goal pages w hl hl1 hg hg1 (by omega) (by omega)

theorem rpace_behind (live goal pages : Int) (w : World) (hl : 0 ≤ live) (hl1 : live ≤ 18446744073709551615) (hg : 0 ≤ goal) (hg1 : goal ≤ 18446744073709551615) (h : goal ≤ live) :
    Calls Try.prog 25 #[.int .u64 live, .int .u64 goal, .int .u64 pages] w fun e w' => e = .returned (.int .u64 (paceV live goal pages)) ∧ Grown w w' := by
  have HT := Lib.hid (show paceV live goal pages = ofV pages 8192 by unfold paceV wayV; rw [if_neg (by omega)])
  go_enter Try.func25, Try.ntmps25
  go_wp2_with (go_at_call 15; refine (rof_any _ _ _).mono ?_; rintro e w1 ⟨rfl, hg1⟩)
  go_ret
  exact ⟨by rw [HT.out]; rfl, by assumption⟩

theorem rpace_near (live goal pages : Int) (w : World) (hl : 0 ≤ live) (hl1 : live ≤ 18446744073709551615) (hg : 0 ≤ goal) (hg1 : goal ≤ 18446744073709551615) (h : live < goal) (h2 : goal - live ≤ 8192) :
    Calls Try.prog 25 #[.int .u64 live, .int .u64 goal, .int .u64 pages] w fun e w' => e = .returned (.int .u64 (paceV live goal pages)) ∧ Grown w w' := by
  have HT := Lib.hid (show paceV live goal pages = ofV pages 8192 by unfold paceV wayV; rw [if_pos (by omega), if_neg (by omega)])
  go_enter Try.func25, Try.ntmps25
  go_wp2_with (go_at_call 15; refine (rof_any _ _ _).mono ?_; rintro e w1 ⟨rfl, hg1⟩)
  go_ret
  exact ⟨by rw [HT.out]; rfl, by assumption⟩

theorem rpace_far (live goal pages : Int) (w : World) (hl : 0 ≤ live) (hl1 : live ≤ 18446744073709551615) (hg : 0 ≤ goal) (hg1 : goal ≤ 18446744073709551615) (h : live < goal) (h2 : 8192 < goal - live) :
    Calls Try.prog 25 #[.int .u64 live, .int .u64 goal, .int .u64 pages] w fun e w' => e = .returned (.int .u64 (paceV live goal pages)) ∧ Grown w w' := by
  have HT := Lib.hid (show paceV live goal pages = ofV pages (goal - live) by unfold paceV wayV; rw [if_pos (by omega), if_pos (by omega)])
  go_enter Try.func25, Try.ntmps25
  go_wp2_with (go_at_call 15; refine (rof_any _ _ _).mono ?_; rintro e w1 ⟨rfl, hg1⟩)
  go_ret
  exact ⟨by rw [HT.out]; rfl, by assumption⟩

theorem rpace_any (live goal pages : Int) (w : World) (hl : 0 ≤ live) (hl1 : live ≤ 18446744073709551615) (hg : 0 ≤ goal) (hg1 : goal ≤ 18446744073709551615) :
    Calls Try.prog 25 #[.int .u64 live, .int .u64 goal, .int .u64 pages] w fun e w' => e = .returned (.int .u64 (paceV live goal pages)) ∧ Grown w w' := by
  by_cases h : goal ≤ live
  · exact rpace_behind live goal pages w hl hl1 hg hg1 h
  · by_cases h2 : goal - live ≤ 8192
    · exact rpace_near live goal pages w hl hl1 hg hg1 (by omega) h2
    · exact rpace_far live goal pages w hl hl1 hg hg1 (by omega) (by omega)

end Go.Proofs.Ytbdngcifnlkijaa
