/- The walk of the law BitsLast. -/
import Derived.Test.YtmiogoecjoldoaaFirst
namespace Go.Proofs.Ytmiogoecjoldoaa
open Go.RowKit
set_option linter.unusedVariables false

theorem last_form (f : Nat → Bool) (n : Int) (to : Nat) (hto : to ≤ 512) :
    (lastN f n to = 0 ∧ lastI f n to = 0 ∧ (n < 1 ∨ (1 ≤ n ∧ cntF f 0 to = to))) ∨
    (∃ k i : Nat, lastN f n to = k ∧ lastI f n to = i ∧ 1 ≤ k ∧ (k : Int) ≤ n ∧ i + k ≤ to ∧ cntF f i k = 0 ∧ cntF f ((i : Int) + k) ((to : Int) - i - k) = (to : Int) - i - k ∧ ((k : Int) = n ∨ ((k : Int) ≠ n ∧ i = 0) ∨ ((k : Int) ≠ n ∧ 0 < i ∧ getB f ((i : Int) - 1) = true))) := by
  have hT : lastT to = to := by unfold lastT; split <;> omega
  by_cases hn : n < 1
  · left
    have h1 : lastN f n to = 0 := by unfold lastN; rw [if_pos hn]
    exact ⟨h1, by unfold lastI; rw [if_pos h1], .inl hn⟩
  · have h1 : lastN f n to = runz f (topz f to) n.toNat := by unfold lastN; rw [if_neg hn, hT]
    have ht := topz_le f to
    by_cases h0 : runz f (topz f to) n.toNat = 0
    · left
      rw [h0] at h1
      refine ⟨h1, by unfold lastI; rw [if_pos h1], .inr ⟨by omega, ?_⟩⟩
      have hz : topz f to = 0 := by
        rcases Nat.eq_zero_or_pos (topz f to) with h2 | h2
        · exact h2
        · exfalso
          have h3 := topz_clear f to h2
          obtain ⟨t, e⟩ : ∃ t, topz f to = t + 1 := ⟨topz f to - 1, by omega⟩
          obtain ⟨m, em⟩ : ∃ m, n.toNat = m + 1 := ⟨n.toNat - 1, by omega⟩
          rw [e, Nat.add_sub_cancel] at h3
          rw [e, em, runz_on f t m h3] at h0
          omega
      have := cntF_nat f 0 to (by omega)
      rw [cnt_all to 0 (fun j h2 h3 => topz_set f to j (by omega) (by omega))] at this
      exact this
    · right
      obtain ⟨hr1, hr2⟩ := runz_le f (topz f to) n.toNat
      have hi : lastI f n to = topz f to - runz f (topz f to) n.toNat := by unfold lastI; rw [h1, if_neg h0, hT]
      have hc := runz_clear f (topz f to) n.toNat
      have hs := topz_set f to
      have hst := runz_stop f (topz f to) n.toNat
      refine ⟨_, _, h1, hi, by omega, by omega, by omega, ?_, ?_, ?_⟩
      · rw [cntF_nat f _ _ (by omega), cnt_zero _ _ (fun j h2 h3 => hc j h2 (by omega))]; rfl
      · generalize runz f (topz f to) n.toNat = k at *
        generalize topz f to = t at *
        rw [show ((t - k : Nat) : Int) + k = (t : Int) by omega, show (to : Int) - ((t - k : Nat) : Int) - k = ((to - t : Nat) : Int) by omega, cntF_nat f t (to - t) (by omega), cnt_all (to - t) t (fun j h2 h3 => hs j h2 (by omega))]
      · generalize runz f (topz f to) n.toNat = k at *
        generalize topz f to = t at *
        rcases hst with h2 | h2 | h2
        · left; omega
        · by_cases h3 : (k : Int) = n
          · exact .inl h3
          · exact .inr (.inl ⟨h3, by omega⟩)
        · by_cases h3 : (k : Int) = n
          · exact .inl h3
          · by_cases h4 : t - k = 0
            · exact .inr (.inl ⟨h3, h4⟩)
            · refine .inr (.inr ⟨h3, by omega, ?_⟩)
              unfold getB
              rw [decide_eq_true (by omega), Bool.true_and, show (((t - k : Nat) : Int) - 1).toNat = t - k - 1 by omega]
              exact h2

set_option maxRecDepth 20000 in
set_option maxHeartbeats 2000000 in
theorem last_law (f : Nat → Bool) (n : Int) (to : Nat) (w : World) (h1 : to ≤ 512) (hn : n ≤ 9223372036854775807) : Calls Try.prog 6 #[.agg (arr f), .int .i64 n, .int .i64 to] w fun r w' => r = .returned (.bool true) ∧ Ext w w' := by
  have HR := Lib.hid (boxed_row w f)
  have HX := Lib.hid (boxed_ext w f)
  have HF := Lib.hid (last_form f n to h1)
  have HN := Lib.hid hn
  clear hn
  unfold boxed at HR HX
  unfold arr at HR HX ⊢
  generalize word f 0 = x0 at *
  generalize word f 1 = x1 at *
  generalize word f 2 = x2 at *
  generalize word f 3 = x3 at *
  generalize word f 4 = x4 at *
  generalize word f 5 = x5 at *
  generalize word f 6 = x6 at *
  generalize word f 7 = x7 at *
  go_enter Try.func6, Try.ntmps6
  go_wp2_with fail
  refine (last_any (w.heap.size + 1) 0 n to f _ HR.out HN.out).mono ?_
  rintro r w1 ⟨rfl, hw1⟩
  rw [← hw1]
  clear hw1
  generalize (w.alloc _).alloc _ = w2 at *
  rcases HF.out with ⟨e1, e2, e3⟩ | ⟨k, i, e1, e2, hk1, hkn, hik, hc1, hc2, hst⟩
  · rw [e1, e2]
    clear e1 e2 HF
    rcases e3 with e3 | ⟨e3, e4⟩
    · go_wp2_with (go_at_call 19; refine (awake_any _).mono ?_; rintro r w5 ⟨rfl, hx5⟩)
      go_ret
      exact ⟨rfl, HX.out.trans hx5⟩
    · have k1 : decide (n < 1) = false := decide_eq_false (by omega)
      have HC := Lib.hid (count_any (w.heap.size + 1) 0 0 to f w2 HR.out)
      rw [e4] at HC
      clear e4
      go_wp2_with fail
      refine HC.out.mono ?_
      rintro r w3 ⟨rfl, hx⟩
      have HX3 := Lib.hid (HX.out.trans hx)
      clear hx
      go_wp2_with (go_at_call 19; refine (awake_any _).mono ?_; rintro r w5 ⟨rfl, hx5⟩)
      go_ret
      exact ⟨rfl, HX3.out.trans hx5⟩
  · rw [e1, e2]
    clear e1 e2 HF
    have k0 : ((k : Int) == 0) = false := by simp; omega
    have k1 : decide (n < 1) = false := decide_eq_false (by omega)
    have k2 : decide ((k : Int) < 1) = false := decide_eq_false (by omega)
    have k3 : decide (n < (k : Int)) = false := decide_eq_false (by omega)
    have HC1 := Lib.hid (fun w3 h => count_any (w.heap.size + 1) 0 i k f w3 h)
    have HC2 := Lib.hid (fun w3 h => count_any (w.heap.size + 1) 0 ((i : Int) + k) ((to : Int) - i - k) f w3 h)
    rw [hc1] at HC1
    rw [hc2] at HC2
    clear hc1 hc2
    have he : ∀ x : Int, (x != x) = false := fun x => by simp
    have he2 := he ((to : Int) - i - k)
    clear he
    go_wp2_with fail
    refine (HC1.out _ HR.out).mono ?_
    rintro r w3 ⟨rfl, hx⟩
    have HR3 := Lib.hid (HR.out.later hx)
    have HX3 := Lib.hid (HX.out.trans hx)
    clear hx
    go_wp2_with fail
    refine (HC2.out _ HR3.out).mono ?_
    rintro r w4 ⟨rfl, hx⟩
    have HR4 := Lib.hid (HR3.out.later hx)
    have HX4 := Lib.hid (HX3.out.trans hx)
    clear hx
    rcases hst with hst | ⟨hst, hi0⟩ | ⟨hst, hi0, hg⟩
    · have q1 : ((k : Int) == n) = true := by simpa using hst
      clear hst
      go_wp2_with (go_at_call 19; refine (awake_any _).mono ?_; rintro r w5 ⟨rfl, hx5⟩)
      go_ret
      exact ⟨rfl, HX4.out.trans hx5⟩
    · have q1 : ((k : Int) == n) = false := by simpa using hst
      have q2 : ((i : Int) == 0) = true := by simp; omega
      clear hst hi0
      go_wp2_with (go_at_call 19; refine (awake_any _).mono ?_; rintro r w5 ⟨rfl, hx5⟩)
      go_ret
      exact ⟨rfl, HX4.out.trans hx5⟩
    · have q1 : ((k : Int) == n) = false := by simpa using hst
      have q2 : ((i : Int) == 0) = false := by simp; omega
      have HG := Lib.hid (get_any (w.heap.size + 1) 0 ((i : Int) - 1) f w4 HR4.out)
      rw [hg] at HG
      clear hst hg
      go_wp2_with fail
      refine HG.out.mono ?_
      rintro r w5 ⟨rfl, rfl⟩
      go_wp2_with (go_at_call 19; refine (awake_any _).mono ?_; rintro r w5 ⟨rfl, hx5⟩)
      go_ret
      exact ⟨rfl, HX4.out.trans hx5⟩

theorem lastL_out (f : Nat → Bool) (n to : Int) (w : World) (h : to < 0 ∨ 512 < to) : Calls Try.prog 6 #[.agg (arr f), .int .i64 n, .int .i64 to] w fun r w' => r = .returned (.bool true) ∧ Ext w w' := by
  have hx : Ext w (w.alloc (.cells (arr f) 23)) := (Ext.refl w).alloc _ _
  have HX := Lib.hid hx
  clear hx
  unfold arr at HX ⊢
  generalize word f 0 = x0 at *
  generalize word f 1 = x1 at *
  generalize word f 2 = x2 at *
  generalize word f 3 = x3 at *
  generalize word f 4 = x4 at *
  generalize word f 5 = x5 at *
  generalize word f 6 = x6 at *
  generalize word f 7 = x7 at *
  by_cases h1 : to < 0
  · have k1 : decide (to < 0) = true := decide_eq_true h1
    clear h
    go_enter Try.func6, Try.ntmps6
    go_wp2
    go_ret
    exact ⟨rfl, HX.out⟩
  have k1 : decide (to < 0) = false := decide_eq_false h1
  have k2 : decide (512 < to) = true := decide_eq_true (by omega)
  clear h
  go_enter Try.func6, Try.ntmps6
  go_wp2
  go_ret
  exact ⟨rfl, HX.out⟩

theorem walk_BitsLast {W : World} (v : Value) (f : Nat → Bool) (hv : v = .agg (arr f)) (n : Int) (wn : (Lit.int .i64 n).wf = true) (to : Int) (wt : (Lit.int .i64 to).wf = true) :
    Calls Try.prog 6 #[v, .int .i64 n, .int .i64 to] W fun r w' => r = .returned (.bool true) ∧ Ext W w' := by
  subst hv
  have hn : n ≤ 9223372036854775807 := by simp [Lit.wf, IntKind.min, IntKind.max, IntKind.signed, IntKind.bits] at wn; omega
  by_cases h : to < 0 ∨ 512 < to
  · exact lastL_out f n to W h
  · have := last_law f n to.toNat W (by omega) hn
    rwa [show ((to.toNat : Nat) : Int) = to by omega] at this

end Go.Proofs.Ytmiogoecjoldoaa
