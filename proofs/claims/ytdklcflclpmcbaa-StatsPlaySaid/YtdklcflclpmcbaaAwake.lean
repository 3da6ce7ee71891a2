/- The contracts of Whole and of awake. -/
import Derived.Test.YtdklcflclpmcbaaWalks4
namespace Go.Proofs.Ytdklcflclpmcbaa
open Go.RowKit
set_option linter.unusedVariables false

theorem whole_zero (w : World) : Calls Try.prog 7 #[.agg #[.int .u64 0, .int .u64 0, .int .u64 0, .int .u64 0, .int .u64 0, .int .u64 0, .int .u64 0, .int .u64 0, .int .u64 0, .int .u64 0, .int .u64 0]] w fun r w' => r = .returned (.bool true) ∧ Ext w w' := by
  go_enter Try.func7, Try.ntmps7
  go_wp2
  go_ret
  exact ⟨rfl, by repeat (first | exact Ext.refl _ | apply Ext.alloc)⟩

set_option maxHeartbeats 2000000 in
theorem awake_any (w : World) : Calls Try.prog 8 #[] w fun r w' => r = .returned (.bool true) ∧ Ext w w' := by
  go_enter Try.func8, Try.ntmps8
  go_wp2_with fail
  refine (new_some 2 w (by omega) (by omega)).mono ?_
  rintro e w1 ⟨rfl, ht1, hx1⟩
  have HT1 := Lib.hid ht1
  have HX1 := Lib.hid hx1
  clear ht1 hx1
  go_wp2_with fail
  refine (malloc_yes _ _ 2 0 5 48 _ _ _ HT1.out (by omega) (by omega)).mono ?_
  rintro e w2 ⟨rfl, ht2, hk2⟩
  have HT2 := Lib.hid ht2
  have HK2 := Lib.hid hk2
  clear ht2 hk2
  go_wp2_with fail
  refine (malloc_yes _ _ 2 1 5 48 _ _ _ HT2.out (by omega) (by omega)).mono ?_
  rintro e w3 ⟨rfl, ht3, hk3⟩
  have HT3 := Lib.hid ht3
  have HK3 := Lib.hid hk3
  clear ht3 hk3
  go_wp2_with fail
  refine (free_yes _ _ 2 1 5 48 _ _ _ HT3.out (by omega) (by omega)).mono ?_
  rintro e w4 ⟨rfl, ht4, hk4⟩
  have HT4 := Lib.hid ht4
  have HK4 := Lib.hid hk4
  clear ht4 hk4
  go_wp2_with fail
  refine (class_yes _ _ 2 5 _ _ _ HT4.out (by omega)).mono ?_
  rintro e w5 ⟨rfl, hw5⟩
  subst hw5
  go_wp2_with fail
  refine (all_any _ _ 2 _ _ _ HT4.out.drew).mono ?_
  rintro e w6 ⟨rfl, hx6⟩
  have HX6 := Lib.hid hx6
  clear hx6
  have s0 : sumTo (freeL (mallocL (mallocL (List.replicate (2 * 4) 0) 0 48) 1 48) 1 48) 0 2 = 2 := by decide +kernel
  have s1 : sumTo (freeL (mallocL (mallocL (List.replicate (2 * 4) 0) 0 48) 1 48) 1 48) 1 2 = 1 := by decide +kernel
  have s2 : sumTo (freeL (mallocL (mallocL (List.replicate (2 * 4) 0) 0 48) 1 48) 1 48) 2 2 = 96 := by decide +kernel
  have s3 : sumTo (freeL (mallocL (mallocL (List.replicate (2 * 4) 0) 0 48) 1 48) 1 48) 3 2 = 48 := by decide +kernel
  rw [s0, s1, s2, s3]
  clear s0 s1 s2 s3
  go_wp2_with fail
  refine (whole_zero _).mono ?_
  rintro e w7 ⟨rfl, hx7⟩
  have HX7 := Lib.hid hx7
  clear hx7
  go_wp2
  go_ret
  refine ⟨rfl, ?_⟩
  have g1 : w.heap.size ≤ w.heap.size + 1 := Nat.le_succ _
  have g2 : w.heap.size ≤ w.heap.size := Nat.le_refl _
  exact ((HK4.out w (HK3.out w (HK2.out w HX1.out g1 g2) g1 g2) g1 g2).drew.trans HX6.out).trans HX7.out

end Go.Proofs.Ytdklcflclpmcbaa
