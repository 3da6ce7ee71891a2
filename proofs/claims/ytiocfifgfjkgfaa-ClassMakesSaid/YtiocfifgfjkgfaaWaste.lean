/- The walk of the law ClassWaste. -/
import Derived.Test.YtiocfifgfjkgfaaWasteL
import Derived.Test.YtiocfifgfjkgfaaFits
import Derived.Test.YtiocfifgfjkgfaaQuick
namespace Go.Proofs.Ytiocfifgfjkgfaa
open Go.RowKit
set_option linter.unusedVariables false

set_option maxHeartbeats 1000000 in
theorem waste_no (p m : Int) (W : World) (h : makeOk p m = false) : Calls Try.prog 5 #[.int .i64 p, .int .i64 m] W fun r w' => r = .returned (.bool true) ∧ Ext W w' := by
  have H := Lib.hid (make_no p m W h)
  clear h
  go_enter Try.func5, Try.ntmps5
  go_wp2_with fail
  refine H.out.mono ?_
  rintro r w1 ⟨rfl, rfl⟩
  go_wp2_with (go_at_call 13; refine (awake_any _).mono ?_; rintro r w4 ⟨rfl, hx4⟩)
  go_ret
  exact ⟨rfl, hx4⟩

/-- a list of classes in memory, opened. -/
structure ListAt (w : World) (g : Nat) (l : List Cl) : Prop where
  lt : g < w.heap.size
  all : ∀ j, j < l.length * 4 → w.cell? ⟨g, j, none⟩ = (cls l)[j]?

theorem ListAt.ext {w w' : World} {g : Nat} {l : List Cl} (h : ListAt w g l) (hx : Ext w w') : ListAt w' g l :=
  ⟨Nat.lt_of_lt_of_le h.lt hx.size, fun i hi => (hx.cell _ _ h.lt).trans (h.all i hi)⟩

theorem ListAt.four {w : World} {g : Nat} {l : List Cl} (h : ListAt w g l) (i : Nat) (hi : i < l.length) : w.cell? ⟨g, i * 4, none⟩ = some (.int .i64 (l.getD i zeroC).a) ∧ w.cell? ⟨g, i * 4 + 1, none⟩ = some (.int .i64 (l.getD i zeroC).b) ∧ w.cell? ⟨g, i * 4 + 2, none⟩ = some (.int .i64 (l.getD i zeroC).c) ∧ w.cell? ⟨g, i * 4 + 3, none⟩ = some (.int .u32 (l.getD i zeroC).d) := by
  obtain ⟨a, b, c, d⟩ := cls_at l i hi
  have e : l.getD i zeroC = l[i] := by simp [List.getD, hi]
  rw [e]
  exact ⟨(h.all _ (by omega)).trans a, (h.all _ (by omega)).trans b, (h.all _ (by omega)).trans c, (h.all _ (by omega)).trans d⟩

theorem list_open {w : World} {B q : Nat} {v : Value} {l : List Cl} (hl : l.length = q + 1) (h : w.ownsRow B 30 4 v l.length (cls l)) : ∃ g cap, v = .slice (some ⟨g, 0, none⟩) (q + 1) cap ∧ B ≤ g ∧ q + 1 ≤ cap ∧ cap ≤ maxLen ∧ ListAt w g l := by
  have h0 := h
  rw [hl] at h
  obtain ⟨g, cap, rfl, hb, hg, hc, hm⟩ := own_form (n := q) h
  exact ⟨g, cap, rfl, hb, hc, hm, hg, fun j hj => h.cellAt j (by omega)⟩

set_option maxRecDepth 100000 in
set_option maxHeartbeats 4000000 in
theorem waste_yes (p m : Int) (W : World) (hok : makeOk p m = true) (p1 : 1024 ≤ p) (p2 : p ≤ 65536) (m1 : 64 ≤ m) (m2 : m ≤ 4 * p) (hpp : Hid (powB p = true)) (hpm : Hid (powB m = true)) : Calls Try.prog 5 #[.int .i64 p, .int .i64 m] W fun r w' => r = .returned (.bool true) ∧ Ext W w' := by
  have H := Lib.hid (make_yes p m W hok p1 p2 m1 m2 hpp hpm)
  have hw := wasteL_of (waste_of hok)
  generalize makeL p m = l at *
  clear hok hpp hpm
  obtain ⟨q, hq⟩ : ∃ q, l.length = q + 2 := ⟨l.length - 2, by have := hw.two; omega⟩
  have HW := Lib.hid hw
  have hz := hw.zero
  have hone := hw.one
  have hlast := hw.last
  rw [hq, show q + 2 - 1 = q + 1 by omega] at hlast
  have HQ := Lib.hid hq
  clear hw hq
  go_enter Try.func5, Try.ntmps5
  go_wp2_with fail
  refine H.out.mono ?_
  rintro r w1 ⟨v, rfl, ho, hx⟩
  obtain ⟨g, cap, rfl, hb, hc, hmx, ht⟩ := list_open (q := q + 1) HQ.out ho
  obtain ⟨a0, a1, a2, a3⟩ := ht.four 0 (by have := HQ.out; omega)
  obtain ⟨b0, -, -, -⟩ := ht.four 1 (by have := HQ.out; omega)
  obtain ⟨c0, -, -, -⟩ := ht.four (q + 1) (by have := HQ.out; omega)
  rw [hz] at a0 a1 a2 a3
  rw [hone] at b0
  simp only [Nat.zero_mul, Nat.zero_add, Nat.one_mul, zeroC] at a0 a1 a2 a3 b0
  have HX := Lib.hid hx
  have HT := Lib.hid ht
  clear ho hx ht hz hone H
  generalize (l.getD (q + 1) zeroC).a = z at *
  have q1 : q + 2 ≤ 2002 := by have := HW.out.len; have := HQ.out; omega
  have d1 : decide ((q : Int) + 1 + 1 < 2) = false := decide_eq_false (by omega)
  go_wp2_with fail
  go_loopw [7] (fun a wr => ∃ j : Nat, j ≤ q + 1 ∧ a = .int .i64 ((j : Int) + 1) ∧ Hid (Ext w1 wr)) (fun a _ => (q + 2 - intOf a).toNat)
  case atStart => exact ⟨0, by omega, rfl, Lib.hid (Ext.refl _)⟩
  case round =>
    obtain ⟨j, hj, rfl, hx⟩ := hrel
    by_cases hlt : j < q + 1
    · have hA := HW.out.each j (by have := HQ.out; omega)
      have t1 := (HT.out.ext hx.out).four (j + 1) (by have := HQ.out; omega)
      have t0 := (HT.out.ext hx.out).four j (by have := HQ.out; omega)
      obtain ⟨e0, e1, e2, e3⟩ := t1
      obtain ⟨f0, -, -, -⟩ := t0
      have hlt2 := (HT.out.ext hx.out).lt
      generalize l.getD (j + 1) zeroC = c at *
      generalize (l.getD j zeroC) = y at *
      obtain ⟨ya, yb, yc, yd⟩ := y
      obtain ⟨ca, cb, cc, cd⟩ := c
      obtain ⟨r1, r2, r3, r4, r5, r6, r7, r8, r9, r10⟩ := hA
      dsimp only at *
      have g1 : 0 ≤ cb * p := Int.mul_nonneg (by omega) (by omega)
      have g2 : cb * p ≤ 33 * 65536 := Int.mul_le_mul (by omega) p2 (by omega) (by omega)
      have g3 : 0 ≤ cc * ca := Int.mul_nonneg (by omega) (by omega)
      have g4 : ca ≤ cc * ca := by have := Int.mul_le_mul_of_nonneg_right (c := ca) r6 (by omega); omega
      have HX1 := Lib.hid (HX.out.trans hx.out)
      have HXr := hx
      clear hx hlast c0 HX
      have n1 : (ca % 8 != 0) = false := by simp [r3]
      have n2 : (ca.tmod 8 != 0) = false := by rw [Int.tmod_eq_emod_of_nonneg (by omega)]; exact n1
      have n3 : decide (ca < ya) = false := decide_eq_false (by omega)
      have n4 : decide (cb < 1) = false := decide_eq_false (by omega)
      have n5 : decide (cc < 1) = false := decide_eq_false (by omega)
      have n6 : decide (cb * p < cc * ca) = false := decide_eq_false (by omega)
      have n7 : decide (ca ≤ cb * p - cc * ca) = false := decide_eq_false (by omega)
      have hcase : ya < ca ∨ (ca = ya ∧ p ≠ 8192) ∨ (ca = ya ∧ p = 8192 ∧ m ≠ 32768) := by omega
      rcases hcase with hh | ⟨rfl, hh⟩ | ⟨rfl, rfl, hh⟩
      · have n8 : (ca == ya) = false := by simp; omega
        go_wp2_with fail
        have k0 : (wr.alloc (.cells #[.int .i64 ca, .int .i64 cb, .int .i64 cc, .int .u32 cd] 30)).cell? ⟨wr.heap.size, 0, none⟩ = some (.int .i64 ca) := by simp
        have k1 : (wr.alloc (.cells #[.int .i64 ca, .int .i64 cb, .int .i64 cc, .int .u32 cd] 30)).cell? ⟨wr.heap.size, 1, none⟩ = some (.int .i64 cb) := by simp
        have k2 : (wr.alloc (.cells #[.int .i64 ca, .int .i64 cb, .int .i64 cc, .int .u32 cd] 30)).cell? ⟨wr.heap.size, 2, none⟩ = some (.int .i64 cc) := by simp
        have k3 := (((Ext.refl wr).alloc #[.int .i64 ca, .int .i64 cb, .int .i64 cc, .int .u32 cd] 30).cell g (j * 4) hlt2).trans f0
        have KX : Hid (Ext w1 (wr.alloc (.cells #[.int .i64 ca, .int .i64 cb, .int .i64 cc, .int .u32 cd] 30))) := Lib.hid (HXr.out.alloc _ _)
        clear e0 e1 e2 e3 f0 HXr HX1
        generalize wr.alloc (.cells #[.int .i64 ca, .int .i64 cb, .int .i64 cc, .int .u32 cd] 30) = W2 at *
        refine wp_region_quiet_lit (by kernel_rfl) (lex_of_quick (by kernel_rfl) (by kernel_rfl)) ?_
        try simp only [List.append_eq, List.cons_append, List.nil_append]
        repeat (go_big_quiet_step (fail))
        refine wpQuiet_nil ?_
        intro _ hw'
        obtain ⟨nq, hw''⟩ := hw'
        subst hw''
        go_wp2
        go_roundw
        case rel => exact ⟨j + 1, by omega, by go_num, Lib.hid (KX.out.drewN _)⟩
        case measure => simp [intOf]; omega
      · have n8 : (p == 8192) = false := by simp [hh]
        have n9 : decide (ca < ca) = false := by simp
        go_wp2_with fail
        have k0 : (wr.alloc (.cells #[.int .i64 ca, .int .i64 cb, .int .i64 cc, .int .u32 cd] 30)).cell? ⟨wr.heap.size, 0, none⟩ = some (.int .i64 ca) := by simp
        have k1 : (wr.alloc (.cells #[.int .i64 ca, .int .i64 cb, .int .i64 cc, .int .u32 cd] 30)).cell? ⟨wr.heap.size, 1, none⟩ = some (.int .i64 cb) := by simp
        have k2 : (wr.alloc (.cells #[.int .i64 ca, .int .i64 cb, .int .i64 cc, .int .u32 cd] 30)).cell? ⟨wr.heap.size, 2, none⟩ = some (.int .i64 cc) := by simp
        have k3 := (((Ext.refl wr).alloc #[.int .i64 ca, .int .i64 cb, .int .i64 cc, .int .u32 cd] 30).cell g (j * 4) hlt2).trans f0
        have KX : Hid (Ext w1 (wr.alloc (.cells #[.int .i64 ca, .int .i64 cb, .int .i64 cc, .int .u32 cd] 30))) := Lib.hid (HXr.out.alloc _ _)
        clear e0 e1 e2 e3 f0 HXr HX1
        generalize wr.alloc (.cells #[.int .i64 ca, .int .i64 cb, .int .i64 cc, .int .u32 cd] 30) = W2 at *
        refine wp_region_quiet_lit (by kernel_rfl) (lex_of_quick (by kernel_rfl) (by kernel_rfl)) ?_
        try simp only [List.append_eq, List.cons_append, List.nil_append]
        repeat (go_big_quiet_step (fail))
        refine wpQuiet_nil ?_
        intro _ hw'
        obtain ⟨nq, hw''⟩ := hw'
        subst hw''
        go_wp2
        go_roundw
        case rel => exact ⟨j + 1, by omega, by go_num, Lib.hid (KX.out.drewN _)⟩
        case measure => simp [intOf]; omega
      · have n8 : (m == 32768) = false := by simp [hh]
        have n9 : decide (ca < ca) = false := by simp
        go_wp2_with fail
        have k0 : (wr.alloc (.cells #[.int .i64 ca, .int .i64 cb, .int .i64 cc, .int .u32 cd] 30)).cell? ⟨wr.heap.size, 0, none⟩ = some (.int .i64 ca) := by simp
        have k1 : (wr.alloc (.cells #[.int .i64 ca, .int .i64 cb, .int .i64 cc, .int .u32 cd] 30)).cell? ⟨wr.heap.size, 1, none⟩ = some (.int .i64 cb) := by simp
        have k2 : (wr.alloc (.cells #[.int .i64 ca, .int .i64 cb, .int .i64 cc, .int .u32 cd] 30)).cell? ⟨wr.heap.size, 2, none⟩ = some (.int .i64 cc) := by simp
        have k3 := (((Ext.refl wr).alloc #[.int .i64 ca, .int .i64 cb, .int .i64 cc, .int .u32 cd] 30).cell g (j * 4) hlt2).trans f0
        have KX : Hid (Ext w1 (wr.alloc (.cells #[.int .i64 ca, .int .i64 cb, .int .i64 cc, .int .u32 cd] 30))) := Lib.hid (HXr.out.alloc _ _)
        clear e0 e1 e2 e3 f0 HXr HX1
        generalize wr.alloc (.cells #[.int .i64 ca, .int .i64 cb, .int .i64 cc, .int .u32 cd] 30) = W2 at *
        refine wp_region_quiet_lit (by kernel_rfl) (lex_of_quick (by kernel_rfl) (by kernel_rfl)) ?_
        try simp only [List.append_eq, List.cons_append, List.nil_append]
        repeat (go_big_quiet_step (fail))
        refine wpQuiet_nil ?_
        intro _ hw'
        obtain ⟨nq, hw''⟩ := hw'
        subst hw''
        go_wp2
        go_roundw
        case rel => exact ⟨j + 1, by omega, by go_num, Lib.hid (KX.out.drewN _)⟩
        case measure => simp [intOf]; omega
    · obtain rfl : j = q + 1 := by omega
      go_wp2_with (go_at_call 13; refine (awake_any _).mono ?_; rintro r w4 ⟨rfl, hx4⟩)
      go_ret
      exact ⟨rfl, HX.out.trans (hx.out.trans hx4)⟩

theorem walk_ClassWaste (p : Int) (wp : (Lit.int .i64 p).wf = true) (m : Int) (wm : (Lit.int .i64 m).wf = true) (W : World) : Calls Try.prog 5 #[.int .i64 p, .int .i64 m] W fun r w' => r = .returned (.bool true) ∧ Ext W w' := by
  cases h : makeOk p m
  · exact waste_no p m W h
  · have h' := h
    unfold makeOk at h'
    simp only [Bool.and_eq_true, decide_eq_true_eq] at h'
    obtain ⟨⟨⟨⟨p1, p2⟩, hp⟩, m1, m2⟩, hm⟩ := h'
    exact waste_yes p m W h p1 p2 m1 m2 (Lib.hid hp) (Lib.hid hm)

end Go.Proofs.Ytiocfifgfjkgfaa

