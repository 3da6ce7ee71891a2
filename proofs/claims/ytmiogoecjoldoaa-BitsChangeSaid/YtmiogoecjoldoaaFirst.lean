/- The walk of the law BitsFirst. -/
import Derived.Test.YtmiogoecjoldoaaAwake
namespace Go.Proofs.Ytmiogoecjoldoaa
open Go.RowKit
set_option linter.unusedVariables false

/-- new memory that holds a row's words twice: the argument, and a row of its own. -/
def boxed (w : World) (f : Nat → Bool) : World := (w.alloc (.cells (arr f) 23)).alloc (.cells (arr f) 24)
theorem boxed_row (w : World) (f : Nat → Bool) : RowAt (boxed w f) (w.heap.size + 1) 0 f := by
  have := Blk.new (w.alloc (.cells (arr f) 23)) 24 (arr f)
  simp only [World.size_alloc] at this
  exact row_of_blk this
theorem boxed_arg (w : World) (f : Nat → Bool) : Blk (boxed w f) w.heap.size 23 (arr f) := (Blk.new w _ _).alloc _
theorem boxed_ext (w : World) (f : Nat → Bool) : Ext w (boxed w f) := ((Ext.refl w).alloc _ _).alloc _ _

theorem cntF_nat (f : Nat → Bool) (q n : Nat) (h : q + n ≤ 512) : cntF f q n = (cnt f q n : Nat) := by
  unfold cntF rightB
  rw [if_pos (by simp; omega)]
  rfl

theorem find_form (f : Nat → Bool) (n frm : Nat) (h1 : 1 ≤ n) (h2 : n ≤ 512) (h3 : frm ≤ 512) :
    (∃ p : Nat, findI f n frm = p ∧ findB f n frm = true ∧ frm ≤ p ∧ p + n ≤ 512 ∧ cntF f p n = 0 ∧ ∀ q : Nat, frm ≤ q → q < p → cntF f q n ≠ 0) ∨
    (findI f n frm = 0 ∧ findB f n frm = false ∧ ∀ q : Nat, frm ≤ q → q < 513 - n → cntF f q n ≠ 0) := by
  have ho : findO f n frm = findG f n (512 - frm) frm 0 := by unfold findO; rw [if_neg (by omega)]; rfl
  have hs := findG_spec f n (by omega) (512 - frm) frm 0 frm (by omega) (by omega) (fun j h4 h5 => by omega) (fun p h4 h5 => by omega) (.inl (by omega))
  have one : ∀ q j : Nat, q + n ≤ 512 → q ≤ j → j < q + n → f j = true → cntF f q n ≠ 0 := fun q j h4 h5 h6 h7 h8 => by
    rw [cntF_nat f q n h4] at h8
    rw [cnt_eq_zero f n q (by omega) j h5 h6] at h7
    cases h7
  unfold findI findB
  rw [ho]
  revert hs
  cases findG f n (512 - frm) frm 0 with
  | none =>
    intro hs
    refine .inr ⟨rfl, rfl, fun q h4 h5 => ?_⟩
    obtain ⟨j, a, b, c⟩ := hs q h4 (by omega)
    exact one q j (by omega) a b c
  | some p =>
    rintro ⟨a, b, c, d⟩
    refine .inl ⟨p, rfl, rfl, a, by omega, ?_, fun q h4 h5 => ?_⟩
    · rw [cntF_nat f p n (by omega), cnt_zero n p c]; rfl
    · obtain ⟨j, e, g, h⟩ := d q h4 h5
      exact one q j (by omega) e g h

set_option maxRecDepth 20000 in
set_option maxHeartbeats 2000000 in
theorem first_any (f : Nat → Bool) (n frm : Nat) (w : World) (h1 : 1 ≤ n) (h2 : n ≤ 512) (h3 : frm ≤ 512) : Calls Try.prog 4 #[.agg (arr f), .int .i64 n, .int .i64 frm] w fun r w' => r = .returned (.bool true) ∧ Ext w w' := by
  have HR := Lib.hid (boxed_row w f)
  have HX := Lib.hid (boxed_ext w f)
  have HF := Lib.hid (find_form f n frm h1 h2 h3)
  unfold boxed at HR HX
  unfold arr at HR HX ⊢
  generalize word f 0 = x0 at *
  generalize word f 1 = x1 at *
  generalize word f 2 = x2 at *
  generalize word f 3 = x3 at *
  generalize word f 4 = x4 at *
  generalize word f 5 = x5 at *
  generalize word f 6 = x6 at *
  generalize word f 7 = x7 at *
  go_enter Try.func4, Try.ntmps4
  go_wp2_with fail
  refine (find_any (w.heap.size + 1) 0 n frm f _ HR.out (by omega)).mono ?_
  rintro r w1 ⟨rfl, hw1⟩
  rw [← hw1]
  clear hw1
  have hq : ∃ (T : Nat) (HQ : Hid (∀ q : Nat, frm ≤ q → q < T → cntF f q n ≠ 0)), T ≤ 512 ∧ ((findI f n frm = T ∧ findB f n frm = true ∧ frm ≤ T ∧ T + n ≤ 512 ∧ Hid (cntF f T n = 0)) ∨ (findI f n frm = 0 ∧ findB f n frm = false ∧ (T : Int) = 513 - n)) := by
    rcases HF.out with ⟨p, e1, e2, e3, e4, e5, e6⟩ | ⟨e1, e2, e3⟩
    · exact ⟨p, Lib.hid e6, by omega, .inl ⟨e1, e2, e3, e4, Lib.hid e5⟩⟩
    · exact ⟨513 - n, Lib.hid e3, by omega, .inr ⟨e1, e2, by omega⟩⟩
  obtain ⟨T, HQ, hT, hway⟩ := hq
  clear HF
  generalize (w.alloc _).alloc _ = w2 at *
  rcases hway with ⟨e1, e2, e3, e4, e5⟩ | ⟨e1, e2, e3⟩
  all_goals
    rw [e1, e2]
    clear e1 e2
  · have k5 : decide (T < frm) = false := decide_eq_false (by omega)
    have k6 : decide ((512 : Int) - (n : Int) < (T : Int)) = false := decide_eq_false (by omega)
    go_wp2_with fail
    refine (count_any (w.heap.size + 1) 0 T n f _ HR.out).mono ?_
    rintro r w3 ⟨rfl, hx⟩
    rw [e5.out]
    have HR3 := Lib.hid (HR.out.later hx)
    have HX3 := Lib.hid (HX.out.trans hx)
    clear hx e5
    go_wp2_with fail
    go_loopw [11] (fun vk wr => ∃ k : Nat, vk = .int .i64 k ∧ frm ≤ k ∧ k ≤ 600 ∧ Hid (RowAt wr (w.heap.size + 1) 0 f) ∧ Hid (Ext w wr)) (fun vk _ => T - (intOf vk).toNat)
    case atStart => exact ⟨frm, rfl, Nat.le_refl _, by omega, HR3, HX3⟩
    case round =>
      obtain ⟨k, rfl, hfk, hk, hR, hX⟩ := hrel
      by_cases hlt : k < T
      · have hne := HQ.out k hfk hlt
        have HC := Lib.hid (count_any (w.heap.size + 1) 0 k n f wr hR.out)
        generalize cntF f k n = c at *
        have hcb : (c == 0) = false := by simpa using hne
        clear hne
        go_wp2_with fail
        refine HC.out.mono ?_
        rintro r w4 ⟨rfl, hx⟩
        have HR4 := Lib.hid (hR.out.later hx)
        have HX4 := Lib.hid (hX.out.trans hx)
        clear hx HC
        go_wp2_with fail
        go_roundw
        case rel => exact ⟨k + 1, by go_num, by omega, by omega, HR4, HX4⟩
        case measure => simp [intOf]; omega
      · go_wp2_with (go_at_call 19; refine (awake_any _).mono ?_; rintro r w5 ⟨rfl, hx5⟩)
        go_ret
        exact ⟨rfl, hX.out.trans hx5⟩
  · have e4 : (513 : Int) - n = (T : Int) := e3.symm
    clear e3
    go_wp2_with fail
    go_loopw [11] (fun vk wr => ∃ k : Nat, vk = .int .i64 k ∧ frm ≤ k ∧ k ≤ 600 ∧ Hid (RowAt wr (w.heap.size + 1) 0 f) ∧ Hid (Ext w wr)) (fun vk _ => T - (intOf vk).toNat)
    case atStart => exact ⟨frm, rfl, Nat.le_refl _, by omega, HR, HX⟩
    case round =>
      obtain ⟨k, rfl, hfk, hk, hR, hX⟩ := hrel
      by_cases hlt : k < T
      · have hne := HQ.out k hfk hlt
        have HC := Lib.hid (count_any (w.heap.size + 1) 0 k n f wr hR.out)
        generalize cntF f k n = c at *
        have hcb : (c == 0) = false := by simpa using hne
        clear hne
        go_wp2_with fail
        refine HC.out.mono ?_
        rintro r w4 ⟨rfl, hx⟩
        have HR4 := Lib.hid (hR.out.later hx)
        have HX4 := Lib.hid (hX.out.trans hx)
        clear hx HC
        go_wp2_with fail
        go_roundw
        case rel => exact ⟨k + 1, by go_num, by omega, by omega, HR4, HX4⟩
        case measure => simp [intOf]; omega
      · go_wp2_with (go_at_call 19; refine (awake_any _).mono ?_; rintro r w5 ⟨rfl, hx5⟩)
        go_ret
        exact ⟨rfl, hX.out.trans hx5⟩

theorem first_out (f : Nat → Bool) (n frm : Int) (w : World) (h : n < 1 ∨ 512 < n ∨ frm < 0 ∨ 512 < frm) : Calls Try.prog 4 #[.agg (arr f), .int .i64 n, .int .i64 frm] w fun r w' => r = .returned (.bool true) ∧ Ext w w' := by
  have hx : Ext w (w.alloc (.cells (arr f) 23)) := (Ext.refl w).alloc _ _
  have HX := Lib.hid hx
  clear hx
  unfold arr at HX ⊢
  generalize word f 0 = x0 at *
  generalize word f 1 = x1 at *
  generalize word f 2 = x2 at *
  generalize word f 3 = x3 at *
  generalize word f 4 = x4 at *
  generalize word f 5 = x5 at *
  generalize word f 6 = x6 at *
  generalize word f 7 = x7 at *
  by_cases h1 : n < 1
  · have k1 : decide (n < 1) = true := decide_eq_true h1
    clear h
    go_enter Try.func4, Try.ntmps4
    go_wp2
    go_ret
    exact ⟨rfl, HX.out⟩
  have k1 : decide (n < 1) = false := decide_eq_false h1
  by_cases h2 : 512 < n
  · have k2 : decide (512 < n) = true := decide_eq_true h2
    clear h
    go_enter Try.func4, Try.ntmps4
    go_wp2
    go_ret
    exact ⟨rfl, HX.out⟩
  have k2 : decide (512 < n) = false := decide_eq_false h2
  by_cases h3 : frm < 0
  · have k3 : decide (frm < 0) = true := decide_eq_true h3
    clear h
    go_enter Try.func4, Try.ntmps4
    go_wp2
    go_ret
    exact ⟨rfl, HX.out⟩
  have k3 : decide (frm < 0) = false := decide_eq_false h3
  have k4 : decide (512 < frm) = true := decide_eq_true (by omega)
  clear h
  go_enter Try.func4, Try.ntmps4
  go_wp2
  go_ret
  exact ⟨rfl, HX.out⟩

theorem walk_BitsFirst {W : World} (v : Value) (f : Nat → Bool) (hv : v = .agg (arr f)) (n : Int) (wn : (Lit.int .i64 n).wf = true) (frm : Int) (wf : (Lit.int .i64 frm).wf = true) :
    Calls Try.prog 4 #[v, .int .i64 n, .int .i64 frm] W fun r w' => r = .returned (.bool true) ∧ Ext W w' := by
  subst hv
  by_cases h : n < 1 ∨ 512 < n ∨ frm < 0 ∨ 512 < frm
  · exact first_out f n frm W h
  · have := first_any f n.toNat frm.toNat W (by omega) (by omega) (by omega)
    rwa [show ((n.toNat : Nat) : Int) = n by omega, show ((frm.toNat : Nat) : Int) = frm by omega] at this

end Go.Proofs.Ytmiogoecjoldoaa
