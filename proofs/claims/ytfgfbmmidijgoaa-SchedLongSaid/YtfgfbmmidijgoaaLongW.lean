/- The walk of SchedLong. -/
import Derived.Test.YtfgfbmmidijgoaaLong
namespace Go.Proofs.Ytfgfbmmidijgoaa
open Go.RowKit
set_option linter.unusedVariables false

theorem chg_undrew {F : Nat → Prop} {a w : World} (h : Chg F a.drew w) : Chg F a w := ⟨h.os, h.tape, h.output, h.size, h.frozen, h.block⟩

set_option maxRecDepth 20000 in
set_option maxHeartbeats 8000000 in
theorem walk_SchedLong (n : Int) (wn : (Lit.int .i64 n).wf = true) (m : Int) (wm : (Lit.int .i64 m).wf = true) (W : World) :
    Calls Try.prog 3 #[.int .i64 n, .int .i64 m] W fun e W' => e = .returned (.bool true) ∧ Ext W W' := by
  obtain ⟨i1, hi1, hy0, hy1, hy2⟩ := info_parts step_info
  by_cases h1 : n < 1
  · go_enter Try.func3, Try.ntmps3
    go_wp2
    go_ret
    exact ⟨rfl, Ext.refl _⟩
  by_cases h70 : 70 < n
  · go_enter Try.func3, Try.ntmps3
    go_wp2
    go_ret
    exact ⟨rfl, Ext.refl _⟩
  by_cases h0 : m < 0
  · go_enter Try.func3, Try.ntmps3
    go_wp2
    go_ret
    exact ⟨rfl, Ext.refl _⟩
  by_cases h10 : 10010 < m
  · go_enter Try.func3, Try.ntmps3
    go_wp2
    go_ret
    exact ⟨rfl, Ext.refl _⟩
  obtain ⟨n, rfl⟩ : ∃ k : Nat, n = k := ⟨n.toNat, by omega⟩
  obtain ⟨m, rfl⟩ : ∃ k : Nat, m = k := ⟨m.toNat, by omega⟩
  have h1 : 1 ≤ n := by omega
  have h70 : n ≤ 70 := by omega
  have h10 : m ≤ 10010 := by omega
  have hmk := make_rows n (by omega)
  clear h0 wn wm
  go_enter Try.func3, Try.ntmps3
  go_wp2
  go_loopw [6] (fun i wr => ∃ (k : Nat) (V : Nat → Value) (ts : List (List St)), k ≤ m ∧ i = .int .i64 k ∧ Hid (LongI n k ts) ∧ Hid (LongAt W wr W.heap.size n V ts)) (fun i _ => m - (intOf i).toNat)
  case atStart => exact ⟨0, _, _, by omega, rfl, Lib.hid (LongI.start n), Lib.hid (LongAt.start W n)⟩
  case round =>
    obtain ⟨k, V, ts, hk, rfl, hI, hA⟩ := hrel
    by_cases hlt : k < m
    · have hr : k % n < n := Nat.mod_lt _ (by omega)
      have hrm : ((k : Int)).tmod (n : Int) = ((k % n : Nat) : Int) := by
        rw [Int.tmod_eq_emod_of_nonneg (by omega)]; rfl
      have cr : wr.cell? ⟨W.heap.size, k % n, none⟩ = some (V (k % n)) := by rw [hA.out.blk.cell, vl_get V n _ hr]
      have hrow := hA.out.rows (k % n) hr
      have hst := fun v' w2 cs => hA.out.step (w2 := w2) (v' := v') (x := ⟨5, k, 0⟩) (cs := cs) hI.out.len hr
      have HI2 := Lib.hid (hI.out.step (by omega) (by omega))
      obtain ⟨pv, capv, hVe, -, hcm, -⟩ := owns_form hrow
      have hln := total_le ts (k % n)
      have htot := hI.out.tot
      have hsz := hA.out.blk.lt
      simp only [hVe] at hst
      rw [hVe] at cr hrow
      generalize hge : k % n = r at *
      have HS := Lib.hid hst
      have HRow := Lib.hid hrow
      clear hst hrow hVe hge
      generalize hgt : ts.getD r [] = t at *
      clear hgt
      have hrm2 : ((k : Int)) % (n : Int) = (r : Int) := by rw [← hrm, Int.tmod_eq_emod_of_nonneg (by omega)]
      have hn0 : n ≠ 0 := by omega
      have hnb : decide ((n : Int) = 0) = false := decide_eq_false (by omega)
      go_wp2_with fail
      go_region_law (refine step_append_all (W.heap.size + 1) rfl (.tmp 39) (.tmp 42) 23 rfl 25 i1 _ 3 24 Try.underlying23 hi1 hy0 hy1 hy2 rfl (by decide) (.slice pv t.length capv) t.length (stsL t) (by simp [Act.eval]) (owns_later HRow.out ((Ext.refl wr).drew.alloc _ _).below) (.slice (some ⟨wr.heap.size, 0, none⟩) 1 1) 1 [.int .i64 5, .int .i64 k, .int .i64 0] (by simp [Act.eval]) (src_blk (t := 25) (Blk.new _ _ _) rfl) (by intro u hu; simp at hu; rcases hu with rfl | rfl | rfl <;> rfl) (by unfold maxLen; omega) (by omega) (by simp; omega) ?_; intro v' w2 hown hchg hat; obtain ⟨hA2, c2, f2, l2⟩ := HS.out v' w2 _ hown (chg_undrew hchg) hat; have HA2 := Lib.hid hA2; obtain ⟨p', cap', rfl, -, -, -⟩ := owns_form hown; clear hown hchg hat hA2)
      all_goals (
        go_wp2_with fail
        go_roundw
        case rel => exact ⟨k + 1, _, _, by omega, by go_num, HI2, HA2⟩
        case measure => simp [intOf]; omega)
    · obtain rfl : k = m := by omega
      have HT := Lib.hid (hA.out.tsin hI.out.len)
      have HX := Lib.hid hA.out.ext
      have HI := hI
      clear hI hA
      by_cases hbad : 64 < n ∨ 10000 < k
      · have HB := Lib.hid hbad
        go_wp2_with (first
          | (go_at_call 11; refine (new_any ts _ _ HT.out (by rw [HI.out.len]; omega) (by rw [HI.out.tot]; omega) HI.out.wf).mono ?_; rintro r w1 ⟨hx, hp⟩; rw [if_pos (by rw [HI.out.len, HI.out.tot]; exact HB.out)] at hp; subst hp; have H1 := Lib.hid (HX.out.trans hx); clear hx)
          | (go_at_call 12; refine (awake_any _).mono ?_; rintro r w9 ⟨rfl, hx⟩; have H9 := Lib.hid (H1.out.trans hx); clear hx H1))
        all_goals (
          go_ret
          exact ⟨rfl, H9.out⟩)
      · have h64 : n ≤ 64 := by omega
        have h4 : k ≤ 10000 := by omega
        have HE := Lib.hid HI.out.en
        have hmin : (((min n k : Nat) : Int) != if k < n then (k : Int) else (n : Int)) = false := by
          rw [bne_eq_false_iff_eq]
          split <;> omega
        clear hbad
        go_wp2_with (first
          | (go_at_call 11; refine (g_new (W := W) (R := fun _ => False) HX.out (fun _ h => h.elim) ts _ HT.out (by rw [HI.out.len]; omega) (by rw [HI.out.tot]; omega) HI.out.wf (by rw [HI.out.len]; omega) (by rw [HI.out.tot]; omega) HI.out.ok).mono ?_; rintro r w1 ⟨b, rfl, h, -⟩; have H1 := Lib.hid h; clear h)
          | (go_at_call 13; refine (g_enabled H1.out).mono ?_; rintro r w2 ⟨v, rfl, ho, hx⟩; rw [HE.out] at ho; obtain ⟨pe, cape, rfl, -, -, -⟩ := owns_form ho; have H2 := Lib.hid (H1.out.ext.trans hx); clear hx ho H1)
          | (go_at_call 12; refine (awake_any _).mono ?_; rintro r w9 ⟨rfl, hx⟩; have H9 := Lib.hid (H2.out.trans hx); clear hx H2))
        all_goals (
          go_ret
          exact ⟨rfl, H9.out⟩)

end Go.Proofs.Ytfgfbmmidijgoaa
