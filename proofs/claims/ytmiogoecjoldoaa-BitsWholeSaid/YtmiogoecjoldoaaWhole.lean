/- The walk of the law BitsWhole. -/
import Derived.Test.YtmiogoecjoldoaaFirst
import Derived.Test.YtmiogoecjoldoaaSumsP
import Derived.Test.YtmiogoecjoldoaaBitsF
namespace Go.Proofs.Ytmiogoecjoldoaa
open Go.RowKit
set_option linter.unusedVariables false

def onB : Nat → Bool := fun _ => true

theorem sum_no : sumV noB = .agg #[.int .i64 512, .int .i64 512, .int .i64 512] := by
  have h : ∀ k, endS noB k = k ∧ maxS noB k = k ∧ startS noB k = k := by
    intro k
    induction k with
    | zero => exact ⟨rfl, rfl, rfl⟩
    | succ k ih =>
      obtain ⟨h1, h2, h3⟩ := ih
      have hf : noB k = false := rfl
      refine ⟨?_, ?_, ?_⟩
      · rw [endS_on _ _ hf, h1]
      · rw [maxS_more _ _ hf (by rw [h1, h2]; omega), h1]
      · exact startS_more _ _ hf h1
  obtain ⟨h1, h2, h3⟩ := h 512
  unfold sumV
  rw [h1, h2, h3]
  rfl

theorem sum_on : sumV onB = .agg #[.int .i64 0, .int .i64 0, .int .i64 0] := by
  have h : ∀ k, maxS onB k = 0 ∧ startS onB k = 0 := by
    intro k
    induction k with
    | zero => exact ⟨rfl, rfl⟩
    | succ k ih =>
      obtain ⟨h2, h3⟩ := ih
      exact ⟨(maxS_hit _ _ rfl).trans h2, (startS_hit _ _ rfl).trans h3⟩
  obtain ⟨h2, h3⟩ := h 512
  have h1 : endS onB 512 = 0 := endS_hit _ 511 rfl
  unfold sumV
  rw [h1, h2, h3]
  rfl

theorem find_on : findB onB 1 0 = false := by
  rcases find_form onB 1 0 (by omega) (by omega) (by omega) with ⟨p, -, -, -, h2, h3, -⟩ | ⟨-, h, -⟩
  · rw [cntF_nat _ _ _ h2, cnt_all (f := onB) 1 p (fun _ _ _ => rfl)] at h3
    cases h3
  · exact h

theorem find_noB (n : Int) : findI noB n 0 = 0 ∧ findB noB n 0 = decide (1 ≤ n ∧ n ≤ 512) := by
  by_cases h : 1 ≤ n ∧ n ≤ 512
  · obtain ⟨m, rfl⟩ : ∃ m : Nat, n = m := ⟨n.toNat, by omega⟩
    rw [decide_eq_true h]
    have hz : cntF noB (0 : Nat) (m : Nat) = 0 := by
      rw [cntF_nat _ _ _ (by omega), cnt_zero (f := noB) m 0 (fun _ _ _ => rfl)]; rfl
    rcases find_form noB m 0 (by omega) (by omega) (by omega) with ⟨p, h1, h2, -, -, -, h3⟩ | ⟨-, -, h3⟩
    · refine ⟨?_, h2⟩
      by_cases hp : 0 < p
      · exact absurd hz (h3 0 (by omega) hp)
      · have : p = 0 := by omega
        subst this
        exact h1
    · exact absurd hz (h3 0 (by omega) (by omega))
  · rw [decide_eq_false h]
    have ho : findO noB n 0 = none := by unfold findO; rw [if_pos (by omega)]
    unfold findI findB
    rw [ho]
    exact ⟨rfl, rfl⟩

theorem row_no {w : World} {b : Nat} (h : RowAt w b 0 noB) (k : Nat) (hk : k < 8) : w.cell? ⟨b, k, none⟩ = some (.int .u64 0) := by
  have := h.cell k hk
  rw [word_no, Nat.zero_add] at this
  exact this

set_option maxRecDepth 100000 in
set_option maxHeartbeats 2000000 in
theorem whole_law (f : Nat → Bool) (n : Int) (wn : (Lit.int .i64 n).wf = true) (w : World) : Calls Try.prog 9 #[.agg (arr f), .int .i64 n] w fun r w' => r = .returned (.bool true) ∧ Ext w w' := by
  have HR := Lib.hid (boxed_row w f)
  have HX := Lib.hid (boxed_ext w f)
  unfold boxed at HR HX
  have hsz : w.heap.size ≤ w.heap.size + 1 := by omega
  have HSet := Lib.hid (fun (i n : Int) (f : Nat → Bool) w h => set_any (w.heap.size + 1) 0 i n f w h)
  unfold arr at HR HX ⊢
  generalize word f 0 = x0 at *
  generalize word f 1 = x1 at *
  generalize word f 2 = x2 at *
  generalize word f 3 = x3 at *
  generalize word f 4 = x4 at *
  generalize word f 5 = x5 at *
  generalize word f 6 = x6 at *
  generalize word f 7 = x7 at *
  clear HSet
  go_enter Try.func9, Try.ntmps9
  go_wp2_with fail
  refine (set_any (w.heap.size + 1) 0 0 512 f _ HR.out).mono ?_
  rintro r w1 ⟨rfl, hr, hx⟩
  have HR1 := Lib.hid (hr.congr (g := onB) (fun j hj => by
    rw [show setF f 0 512 = setB f 0 512 from rfl]; unfold setB inB onB; simp; omega))
  have HX1 := Lib.hid (hx.chg.ext HX.out (fun i hi => by subst hi; omega))
  clear hr hx HR HX
  rw [show putE 0 512 = 0 from rfl]
  go_wp2_with fail
  refine (count_any (w.heap.size + 1) 0 0 512 onB _ HR1.out).mono ?_
  rintro r w2 ⟨rfl, hx⟩
  rw [show cntF onB 0 512 = 512 from (cntF_nat onB 0 512 (by omega)).trans (by rw [cnt_all (f := onB) 512 0 (fun _ _ _ => rfl)]; rfl)]
  have HR2 := Lib.hid (HR1.out.later hx)
  have HX2 := Lib.hid (HX1.out.trans hx)
  clear hx HR1 HX1
  go_wp2_with fail
  refine (sum_any (w.heap.size + 1) 0 onB _ HR2.out).mono ?_
  rintro r w3 ⟨rfl, hx⟩
  rw [sum_on]
  have HR3 := Lib.hid (HR2.out.later hx)
  have HX3 := Lib.hid (HX2.out.trans hx)
  clear hx HR2 HX2
  go_wp2_with fail
  refine (find_any (w.heap.size + 1) 0 1 0 onB _ HR3.out (by omega)).mono ?_
  rintro r w4 ⟨rfl, rfl⟩
  rw [find_on]
  go_wp2_with fail
  refine (clear_any (w.heap.size + 1) 0 0 512 onB _ HR3.out).mono ?_
  rintro r w5 ⟨rfl, hr, hx⟩
  have HR5 := Lib.hid (hr.congr (g := noB) (fun j hj => by
    rw [show clrF onB 0 512 = clrB onB 0 512 from rfl]; unfold clrB inB onB noB; simp; omega))
  have HX5 := Lib.hid (hx.chg.ext HX3.out (fun i hi => by subst hi; omega))
  clear hr hx HR3 HX3
  rw [show putE 0 512 = 0 from rfl]
  have c0 := row_no HR5.out 0 (by omega)
  have c1 := row_no HR5.out 1 (by omega)
  have c2 := row_no HR5.out 2 (by omega)
  have c3 := row_no HR5.out 3 (by omega)
  have c4 := row_no HR5.out 4 (by omega)
  have c5 := row_no HR5.out 5 (by omega)
  have c6 := row_no HR5.out 6 (by omega)
  have c7 := row_no HR5.out 7 (by omega)
  have he := fun w => row_same 0 0 0 0 0 0 0 0 w
  go_wp2_with fail
  refine (sum_any (w.heap.size + 1) 0 noB _ HR5.out).mono ?_
  rintro r w6 ⟨rfl, hx⟩
  rw [sum_no]
  have HR6 := Lib.hid (HR5.out.later hx)
  have HX6 := Lib.hid (HX5.out.trans hx)
  clear hx HR5 HX5 c0 c1 c2 c3 c4 c5 c6 c7
  go_wp2_with fail
  refine (find_any (w.heap.size + 1) 0 n 0 noB _ HR6.out (by omega)).mono ?_
  rintro r w7 ⟨rfl, rfl⟩
  obtain ⟨fi, fb⟩ := find_noB n
  rw [fi, fb]
  clear fi fb
  have fin : ∀ b : Bool, decide (1 ≤ n ∧ n ≤ 512) = b → (1 ≤ n ∧ n ≤ 512 ∧ b = true) ∨ (n < 1 ∧ b = false) ∨ (1 ≤ n ∧ 512 < n ∧ b = false) := by
    rintro b rfl
    simp only [decide_eq_true_eq, decide_eq_false_iff_not]
    omega
  generalize hb : decide (1 ≤ n ∧ n ≤ 512) = b
  have hb := fin b hb
  clear fin
  rcases hb with ⟨h1, h2, rfl⟩ | ⟨h1, rfl⟩ | ⟨h1, h2, rfl⟩
  all_goals
    try have k9 : decide (n ≤ 512) = false := decide_eq_false (by omega)
    go_wp2_with fail
    refine (set_any (w.heap.size + 1) 0 0 0 noB _ HR6.out).mono ?_
    rintro r w1 ⟨rfl, hr, hx⟩
    rw [show setF noB 0 0 = noB from setB_zero noB 0] at hr
    have HR1 := Lib.hid hr
    have HX1 := Lib.hid (hx.chg.ext HX6.out (fun i hi => by subst hi; omega))
    clear hr hx HR6 HX6
    rw [show putE 0 0 = 0 from rfl]
    go_wp2_with fail
    refine (set_any (w.heap.size + 1) 0 512 0 noB _ HR1.out).mono ?_
    rintro r w2 ⟨rfl, hr, hx⟩
    rw [show setF noB 512 0 = noB from setB_zero noB 512] at hr
    have HR2 := Lib.hid hr
    have HX2 := Lib.hid (hx.chg.ext HX1.out (fun i hi => by subst hi; omega))
    clear hr hx HR1 HX1
    rw [show putE 512 0 = 0 from rfl]
    go_wp2_with fail
    refine (set_any (w.heap.size + 1) 0 0 513 noB _ HR2.out).mono ?_
    rintro r w3 ⟨rfl, hr, hx⟩
    rw [show setF noB 0 513 = noB from rfl] at hr
    have HR3 := Lib.hid hr
    have HX3 := Lib.hid (hx.chg.ext HX2.out (fun i hi => by subst hi; omega))
    clear hr hx HR2 HX2
    rw [show putE 0 513 = 1 from rfl]
    have c0 := row_no HR3.out 0 (by omega)
    have c1 := row_no HR3.out 1 (by omega)
    have c2 := row_no HR3.out 2 (by omega)
    have c3 := row_no HR3.out 3 (by omega)
    have c4 := row_no HR3.out 4 (by omega)
    have c5 := row_no HR3.out 5 (by omega)
    have c6 := row_no HR3.out 6 (by omega)
    have c7 := row_no HR3.out 7 (by omega)
    go_wp2_with (go_at_call 19; refine (awake_any _).mono ?_; rintro r w8 ⟨rfl, hx8⟩)
    go_ret
    exact ⟨rfl, HX3.out.trans hx8⟩

theorem walk_BitsWhole {W : World} (v : Value) (f : Nat → Bool) (hv : v = .agg (arr f)) (n : Int) (wn : (Lit.int .i64 n).wf = true) :
    Calls Try.prog 9 #[v, .int .i64 n] W fun r w' => r = .returned (.bool true) ∧ Ext W w' := by
  subst hv
  exact whole_law f n wn W

end Go.Proofs.Ytmiogoecjoldoaa
