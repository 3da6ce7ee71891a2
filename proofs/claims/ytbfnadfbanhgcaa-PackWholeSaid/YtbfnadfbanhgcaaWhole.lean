/- The walk of the law PackWhole. -/
import Derived.Test.YtbfnadfbanhgcaaAlike
namespace Go.Proofs.Ytbfnadfbanhgcaa
open Go.RowKit
set_option linter.unusedVariables false

theorem info25 : (Try.prog.info? 25).map (fun i => (i.zero, i.size, i.bytes)) = some (some (.agg #[.int .i64 0, .int .i64 0, .int .i64 0]), 3, 24) := by kernel_rfl

theorem owns_snoc {w : World} {base : Nat} {v : Value} {k : Nat} {x : Sm} (h : w.ownsRow base 25 3 v (k + 1) (rowCells (List.replicate k x) ++ x.three)) :
    w.ownsRow base 25 3 v (List.replicate (k + 1) x).length (rowCells (List.replicate (k + 1) x)) := by
  rw [rowCells_snoc, ← List.replicate_succ'] at h
  simpa using h

set_option maxHeartbeats 4000000 in
theorem whole_free (n : Nat) (p : Int) (w : World) (n1 : 1 ≤ n) (n2 : n ≤ 64) (p1 : 1 ≤ p) (p2 : p ≤ 32768) :
    Calls Try.prog 5 #[.int .i64 n, .int .i64 p, .bool true] w fun r w' => r = .returned (.bool true) ∧ Ext w w' := by
  have b0 : 0 < (n : Int) * p := Int.mul_pos (by omega) (by omega)
  have b1 : 0 ≤ (n : Int) * p := by omega
  have b2 : (n : Int) * p ≤ 2097152 := by
    have := Int.mul_le_mul (show (n : Int) ≤ 64 by omega) p2 (by omega) (by omega)
    omega
  have f1 : decide ((n : Int) < 1) = false := by simp; omega
  have f2 : decide (64 < (n : Int)) = false := by simp; omega
  obtain ⟨i0, hi, hz0, hz1, hz2⟩ := info_parts info25
  go_enter Try.func5, Try.ntmps5
  go_wp2_with fail
  go_loopw [7, 8] (fun v i wr => ∃ k : Nat, k ≤ n ∧ i = .int .i64 k ∧ Hid (wr.ownsRow w.heap.size 25 3 v (List.replicate k (⟨p, p, p⟩ : Sm)).length (rowCells (List.replicate k ⟨p, p, p⟩))) ∧ Hid (Ext w wr))
    (fun _ i _ => n - (intOf i).toNat)
  case atStart => exact ⟨0, Nat.zero_le _, rfl, Lib.hid (World.ownsRow_nil _ _ _ _), Lib.hid (Ext.refl _)⟩
  case round =>
    obtain ⟨k, hk, rfl, hown, hx⟩ := hrel
    go_wp2_with (first | (at_builtin; refine wpList_append_ext w _ rfl (.tmp 44) (.tmp 46) 22 rfl 25 i0 _ 3 24 Try.underlying22 hi hz0 hz1 hz2 rfl (by decide) _ _ _ rfl (owns_ext hown.out (by repeat (first | exact Ext.refl _ | (refine Ext.setCell ?_ (by simp) _) | (refine Ext.alloc ?_ _ _)))) _ 1 1 (by decide) [.int .i64 p, .int .i64 p, .int .i64 p] rfl rfl (by
        intro j u hu
        match j, hu with
        | 0, hu => simp at hu; subst hu; simp [Addr.add]
        | 1, hu => simp at hu; subst hu; simp [Addr.add]
        | 2, hu => simp at hu; subst hu; simp [Addr.add]) (by intro u hu; simp at hu; subst hu; rfl) (by simp [maxLen]; omega) (by simp; omega) (hx.out.trans (by repeat (first | exact Ext.refl _ | (refine Ext.setCell ?_ (by simp) _) | (refine Ext.alloc ?_ _ _)))) ?_) | fail)
    · intro v' w1 hown' hx'
      have ho := Lib.hid (owns_snoc (x := ⟨p, p, p⟩) (by simpa [Sm.three] using hown'))
      have hy := Lib.hid hx'
      clear hown' hx' hown hx
      go_wp2
      go_roundw
      case rel => exact ⟨k + 1, by omega, by go_num, ho, hy⟩
      case measure => simp [intOf]; omega
    · have hkn : n = k := by omega
      subst hkn
      have HS := Lib.hid (sl_of_owns hown.out)
      clear hown
      refine (merge_any _ _ _ _ HS.out).mono ?_
      rintro r w2 ⟨rfl, hg2⟩
      rw [free_merge n p p1 (by omega) n2]
      have HX2 := Lib.hid (hx.out.trans hg2)
      have HS2 := Lib.hid (HS.out.ext hg2)
      clear hg2 HS hx
      go_wp2_with fail
      refine (fits_any _ _ _ _ _ (HS2.out.ext (by repeat (first | exact Ext.refl _ | (refine Ext.setCell ?_ (by simp) _) | (refine Ext.alloc ?_ _ _)))) (by omega)).mono ?_
      rintro r w4 ⟨rfl, hg4⟩
      rw [free_fits n p n1 p1 (by omega) n2]
      have z4 : w2.heap.size + 2 ≤ w4.heap.size := by have := hg4.size; simp at this; omega
      have q0 : w4.cell? ⟨w2.heap.size, 0, none⟩ = some (.int .i64 (n * p)) := (hg4.cell _ _ (by simp; omega)).trans (by simp)
      have q1 : w4.cell? ⟨w2.heap.size, 1, none⟩ = some (.int .i64 (n * p)) := (hg4.cell _ _ (by simp; omega)).trans (by simp)
      have q2 : w4.cell? ⟨w2.heap.size, 2, none⟩ = some (.int .i64 (n * p)) := (hg4.cell _ _ (by simp; omega)).trans (by simp)
      have q3 : w4.cell? ⟨w2.heap.size + 1, 0, none⟩ = some (.int .i64 (n * p)) := (hg4.cell _ _ (by simp)).trans (by simp)
      have q4 : w4.cell? ⟨w2.heap.size + 1, 1, none⟩ = some (.int .i64 (n * p)) := (hg4.cell _ _ (by simp)).trans (by simp)
      have q5 : w4.cell? ⟨w2.heap.size + 1, 2, none⟩ = some (.int .i64 (n * p)) := (hg4.cell _ _ (by simp)).trans (by simp)
      have hE : Ext w2 w4 := Ext.trans (by repeat (first | exact Ext.refl _ | (refine Ext.setCell ?_ (by simp) _) | (refine Ext.alloc ?_ _ _))) hg4
      have HX4 := Lib.hid (HX2.out.trans hE)
      have HS4 := Lib.hid (HS2.out.ext hE)
      clear hg4 HX2 HS2 hE
      go_wp2_with fail
      refine (fits_any _ _ _ _ _ HS4.out (by omega)).mono ?_
      rintro r w5 ⟨rfl, hg5⟩
      rw [free_fits1 n p n1 p1 (by omega) n2]
      have r0 := (hg5.cell w2.heap.size 0 (by omega)).trans q0
      have r1 := (hg5.cell w2.heap.size 1 (by omega)).trans q1
      have r2 := (hg5.cell w2.heap.size 2 (by omega)).trans q2
      have r3 := (hg5.cell (w2.heap.size + 1) 0 (by omega)).trans q3
      have r4 := (hg5.cell (w2.heap.size + 1) 1 (by omega)).trans q4
      have r5 := (hg5.cell (w2.heap.size + 1) 2 (by omega)).trans q5
      have HX5 := Lib.hid (HX4.out.trans hg5)
      clear hg5 HX4 HS4 q0 q1 q2 q3 q4 q5
      go_wp2_with (first | (go_at_call 16; refine (awake_any _).mono ?_; rintro r w6 ⟨rfl, hg6⟩) | fail)
      go_ret
      exact ⟨rfl, HX5.out.trans hg6⟩

set_option maxHeartbeats 4000000 in
theorem whole_full (n : Nat) (p : Int) (w : World) (n1 : 1 ≤ n) (n2 : n ≤ 64) (p1 : 1 ≤ p) (p2 : p ≤ 32768) :
    Calls Try.prog 5 #[.int .i64 n, .int .i64 p, .bool false] w fun r w' => r = .returned (.bool true) ∧ Ext w w' := by
  have b0 : 0 < (n : Int) * p := Int.mul_pos (by omega) (by omega)
  have b1 : 0 ≤ (n : Int) * p := by omega
  have b2 : (n : Int) * p ≤ 2097152 := by
    have := Int.mul_le_mul (show (n : Int) ≤ 64 by omega) p2 (by omega) (by omega)
    omega
  have f1 : decide ((n : Int) < 1) = false := by simp; omega
  have f2 : decide (64 < (n : Int)) = false := by simp; omega
  obtain ⟨i0, hi, hz0, hz1, hz2⟩ := info_parts info25
  go_enter Try.func5, Try.ntmps5
  go_wp2_with fail
  go_loopw [7, 8] (fun v i wr => ∃ k : Nat, k ≤ n ∧ i = .int .i64 k ∧ Hid (wr.ownsRow w.heap.size 25 3 v (List.replicate k (⟨0, 0, 0⟩ : Sm)).length (rowCells (List.replicate k ⟨0, 0, 0⟩))) ∧ Hid (Ext w wr))
    (fun _ i _ => n - (intOf i).toNat)
  case atStart => exact ⟨0, Nat.zero_le _, rfl, Lib.hid (World.ownsRow_nil _ _ _ _), Lib.hid (Ext.refl _)⟩
  case round =>
    obtain ⟨k, hk, rfl, hown, hx⟩ := hrel
    go_wp2_with (first | (at_builtin; refine wpList_append_ext w _ rfl (.tmp 44) (.tmp 46) 22 rfl 25 i0 _ 3 24 Try.underlying22 hi hz0 hz1 hz2 rfl (by decide) _ _ _ rfl (owns_ext hown.out (by repeat (first | exact Ext.refl _ | (refine Ext.setCell ?_ (by simp) _) | (refine Ext.alloc ?_ _ _)))) _ 1 1 (by decide) [.int .i64 0, .int .i64 0, .int .i64 0] rfl rfl (by
        intro j u hu
        match j, hu with
        | 0, hu => simp at hu; subst hu; simp [Addr.add]
        | 1, hu => simp at hu; subst hu; simp [Addr.add]
        | 2, hu => simp at hu; subst hu; simp [Addr.add]) (by intro u hu; simp at hu; subst hu; rfl) (by simp [maxLen]; omega) (by simp; omega) (hx.out.trans (by repeat (first | exact Ext.refl _ | (refine Ext.setCell ?_ (by simp) _) | (refine Ext.alloc ?_ _ _)))) ?_) | fail)
    · intro v' w1 hown' hx'
      have ho := Lib.hid (owns_snoc (x := ⟨0, 0, 0⟩) (by simpa [Sm.three] using hown'))
      have hy := Lib.hid hx'
      clear hown' hx' hown hx
      go_wp2
      go_roundw
      case rel => exact ⟨k + 1, by omega, by go_num, ho, hy⟩
      case measure => simp [intOf]; omega
    · have hkn : n = k := by omega
      subst hkn
      have HS := Lib.hid (sl_of_owns hown.out)
      clear hown
      refine (merge_any _ _ _ _ HS.out).mono ?_
      rintro r w2 ⟨rfl, hg2⟩
      rw [full_merge n p p1 (by omega) n2]
      have HX2 := Lib.hid (hx.out.trans hg2)
      have HS2 := Lib.hid (HS.out.ext hg2)
      clear hg2 HS hx
      go_wp2_with fail
      refine (fits_any _ _ _ _ _ (HS2.out.ext (by repeat (first | exact Ext.refl _ | (refine Ext.setCell ?_ (by simp) _) | (refine Ext.alloc ?_ _ _)))) (by omega)).mono ?_
      rintro r w4 ⟨rfl, hg4⟩
      rw [full_fits n p _ (by omega) p1 (by omega) n2]
      have z4 : w2.heap.size + 2 ≤ w4.heap.size := by have := hg4.size; simp at this; omega
      have q0 : w4.cell? ⟨w2.heap.size, 0, none⟩ = some (.int .i64 (0)) := (hg4.cell _ _ (by simp; omega)).trans (by simp)
      have q1 : w4.cell? ⟨w2.heap.size, 1, none⟩ = some (.int .i64 (0)) := (hg4.cell _ _ (by simp; omega)).trans (by simp)
      have q2 : w4.cell? ⟨w2.heap.size, 2, none⟩ = some (.int .i64 (0)) := (hg4.cell _ _ (by simp; omega)).trans (by simp)
      have q3 : w4.cell? ⟨w2.heap.size + 1, 0, none⟩ = some (.int .i64 (0)) := (hg4.cell _ _ (by simp)).trans (by simp)
      have q4 : w4.cell? ⟨w2.heap.size + 1, 1, none⟩ = some (.int .i64 (0)) := (hg4.cell _ _ (by simp)).trans (by simp)
      have q5 : w4.cell? ⟨w2.heap.size + 1, 2, none⟩ = some (.int .i64 (0)) := (hg4.cell _ _ (by simp)).trans (by simp)
      have hE : Ext w2 w4 := Ext.trans (by repeat (first | exact Ext.refl _ | (refine Ext.setCell ?_ (by simp) _) | (refine Ext.alloc ?_ _ _))) hg4
      have HX4 := Lib.hid (HX2.out.trans hE)
      have HS4 := Lib.hid (HS2.out.ext hE)
      clear hg4 HX2 HS2 hE
      go_wp2_with fail
      refine (fits_any _ _ _ _ _ HS4.out (by omega)).mono ?_
      rintro r w5 ⟨rfl, hg5⟩
      rw [full_fits n p _ (by omega) p1 (by omega) n2]
      have r0 := (hg5.cell w2.heap.size 0 (by omega)).trans q0
      have r1 := (hg5.cell w2.heap.size 1 (by omega)).trans q1
      have r2 := (hg5.cell w2.heap.size 2 (by omega)).trans q2
      have r3 := (hg5.cell (w2.heap.size + 1) 0 (by omega)).trans q3
      have r4 := (hg5.cell (w2.heap.size + 1) 1 (by omega)).trans q4
      have r5 := (hg5.cell (w2.heap.size + 1) 2 (by omega)).trans q5
      have HX5 := Lib.hid (HX4.out.trans hg5)
      clear hg5 HX4 HS4 q0 q1 q2 q3 q4 q5
      go_wp2_with (first | (go_at_call 16; refine (awake_any _).mono ?_; rintro r w6 ⟨rfl, hg6⟩) | fail)
      go_ret
      exact ⟨rfl, HX5.out.trans hg6⟩

theorem whole_out (n p : Int) (b : Bool) (w : World) (h : n < 1 ∨ 64 < n ∨ p < 1 ∨ 32768 < p) :
    Calls Try.prog 5 #[.int .i64 n, .int .i64 p, .bool b] w fun r w' => r = .returned (.bool true) ∧ Ext w w' := by
  by_cases h1 : n < 1
  · go_enter Try.func5, Try.ntmps5
    go_wp2
    go_ret
    exact ⟨rfl, Ext.refl _⟩
  by_cases h2 : 64 < n
  · go_enter Try.func5, Try.ntmps5
    go_wp2
    go_ret
    exact ⟨rfl, Ext.refl _⟩
  by_cases h3 : p < 1
  · go_enter Try.func5, Try.ntmps5
    go_wp2
    go_ret
    exact ⟨rfl, Ext.refl _⟩
  have h4 : 32768 < p := by omega
  go_enter Try.func5, Try.ntmps5
  go_wp2
  go_ret
  exact ⟨rfl, Ext.refl _⟩

theorem walk_PackWhole (n p : Int) (b : Bool) (_w0 : (Lit.int .i64 n).wf = true) (_w1 : (Lit.int .i64 p).wf = true) (w : World) :
    Calls Try.prog 5 #[.int .i64 n, .int .i64 p, .bool b] w fun r w' => r = .returned (.bool true) ∧ Grown w w' := by
  by_cases h : n < 1 ∨ 64 < n ∨ p < 1 ∨ 32768 < p
  · exact (whole_out n p b w h).mono fun _ _ k => ⟨k.1, k.2.grown⟩
  · obtain ⟨m, rfl⟩ : ∃ m : Nat, n = m := ⟨n.toNat, by omega⟩
    cases b
    · exact (whole_full m p w (by omega) (by omega) (by omega) (by omega)).mono fun _ _ k => ⟨k.1, k.2.grown⟩
    · exact (whole_free m p w (by omega) (by omega) (by omega) (by omega)).mono fun _ _ k => ⟨k.1, k.2.grown⟩

end Go.Proofs.Ytbfnadfbanhgcaa
