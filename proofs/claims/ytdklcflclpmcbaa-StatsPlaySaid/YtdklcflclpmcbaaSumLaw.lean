/- The walk of the law StatsSum. -/
import Derived.Test.YtdklcflclpmcbaaSum
import Derived.Test.YtdklcflclpmcbaaFar
import Derived.Test.YtdklcflclpmcbaaFrame
import Derived.BigRegion
namespace Go.Proofs.Ytdklcflclpmcbaa
open Go.RowKit
set_option linter.unusedVariables false

theorem info31 : (Try.prog.info? 31).map (fun i => (i.zero, i.size, i.bytes)) = some (some (.agg #[.int .u64 0, .int .u64 0, .int .u64 0, .int .u64 0]), 4, 32) := by kernel_rfl

/-- so many rows are gathered: their counts in a list of the law's own, their sums in its first block. -/
structure SRel (w wr : World) (zs : List Int) (v : Value) (k : Nat) : Prop where
  own : wr.ownsRow (w.heap.size + 1) 31 4 v k ((zs.map (Value.int .u64)).take (k * 4))
  ext : Ext w wr
  size : w.heap.size < wr.heap.size
  sums : Four wr w.heap.size 0 (sumTo zs 0 k) (sumTo zs 1 k) (sumTo zs 2 k) (sumTo zs 3 k)
  free : ∀ j, wr.frozen? ⟨w.heap.size, j, none⟩ = false

theorem srel_start (w : World) (zs : List Int) : SRel w (w.alloc (.cells #[.int .u64 0, .int .u64 0, .int .u64 0, .int .u64 0] 31)) zs (.slice none 0 0) 0 where
  own := by simpa using World.ownsRow_nil _ _ _ _
  ext := (Ext.refl _).alloc _ _
  size := by simp
  sums := ⟨by simp [sumTo], by simp [sumTo], by simp [sumTo], by simp [sumTo]⟩
  free := fun j => (frozen?_alloc_cells _ _ _ _).trans (frozen_none _ _ _ (by omega))

theorem take_four (zs : List Int) (j : Nat) (h : j + 3 < zs.length) : (zs.map (Value.int .u64)).take (j + 4) = (zs.map (Value.int .u64)).take j ++ [.int .u64 (zs.getD j 0), .int .u64 (zs.getD (j + 1) 0), .int .u64 (zs.getD (j + 2) 0), .int .u64 (zs.getD (j + 3) 0)] := by
  have e : ∀ i, i < zs.length → (zs.map (Value.int .u64)).take (i + 1) = (zs.map (Value.int .u64)).take i ++ [.int .u64 (zs.getD i 0)] := fun i hi => by
    rw [List.take_succ_eq_append_getElem (by simpa using hi)]; simp [List.getD, hi]
  rw [show j + 4 = j + 3 + 1 by omega, e _ (by omega), show j + 3 = j + 2 + 1 by omega, e _ (by omega), show j + 2 = j + 1 + 1 by omega, e _ (by omega), e _ (by omega)]
  simp

theorem Ext.drewN {W w : World} (h : Ext W w) (n : Nat) : Ext W (w.drewN n) := ⟨⟨h.below.os, h.below.tape, h.below.output, h.below.size, h.below.block⟩, h.frozen⟩

theorem own_ne {w : World} {base : Nat} {e : TypeId} {size : Nat} {v : Value} {n : Nat} {xs : List Value} (h : w.ownsRow base e size v n xs) {b : Nat} (hb : w.heap.size ≤ b) : v.ownBlock ≠ some b := fun e => by
  have := (owns_lt h _ e).2
  omega

theorem keep_cell {B b o : Nat} {w0 w1 w2 : World} (hx : Ext w0 w1) (ho : Off B w1 w2) (hb : b < w0.heap.size) (hB : b < B) : w2.cell? ⟨b, o, none⟩ = w0.cell? ⟨b, o, none⟩ :=
  (ho.cell b o hB).trans (hx.cell b o hb)

theorem Ext.off {W w w' : World} (h : Ext W w) {B : Nat} (k : Off B w w') (hB : W.heap.size ≤ B) : Ext W w' :=
  ⟨h.below.trans (k.below.mono hB), fun x => (k.frozen x).trans (h.frozen x)⟩

/-- behind four sums more. -/
def summed (w1 : World) (B : Nat) (x0 x1 x2 x3 y0 y1 y2 y3 : Int) : World :=
  (((w1.setCell ⟨B, 0, none⟩ (.int .u64 (plus x0 y0))).setCell ⟨B, 1, none⟩ (.int .u64 (plus x1 y1))).setCell ⟨B, 2, none⟩ (.int .u64 (plus x2 y2))).setCell ⟨B, 3, none⟩ (.int .u64 (plus x3 y3))

structure SNext (w w2 : World) (v : Value) (n : Nat) (xs : List Value) (x0 x1 x2 x3 : Int) : Prop where
  own : w2.ownsRow (w.heap.size + 1) 31 4 v n xs
  ext : Ext w w2
  size : w.heap.size < w2.heap.size
  sums : Four w2 w.heap.size 0 x0 x1 x2 x3

theorem srel_next {w w1 : World} {v : Value} {n : Nat} {xs : List Value} {x0 x1 x2 x3 y0 y1 y2 y3 : Int} (ho : w1.ownsRow (w.heap.size + 1) 31 4 v n xs) (hx : Ext w w1) (hz : w.heap.size < w1.heap.size)
    (g0 : w1.cell? ⟨w.heap.size, 0, none⟩ = some (.int .u64 x0)) (g1 : w1.cell? ⟨w.heap.size, 1, none⟩ = some (.int .u64 x1)) (g2 : w1.cell? ⟨w.heap.size, 2, none⟩ = some (.int .u64 x2)) (g3 : w1.cell? ⟨w.heap.size, 3, none⟩ = some (.int .u64 x3)) :
    SNext w (summed w1 w.heap.size x0 x1 x2 x3 y0 y1 y2 y3) v n xs (plus x0 y0) (plus x1 y1) (plus x2 y2) (plus x3 y3) where
  own := ownsRow_setCell_below (ownsRow_setCell_below (ownsRow_setCell_below (ownsRow_setCell_below ho (Nat.lt_succ_self _) _) (Nat.lt_succ_self _) _) (Nat.lt_succ_self _) _) (Nat.lt_succ_self _) _
  ext := (((hx.setCell (Nat.le_refl _) _).setCell (Nat.le_refl _) _).setCell (Nat.le_refl _) _).setCell (Nat.le_refl _) _
  size := by unfold summed; rw [World.size_setCell, World.size_setCell, World.size_setCell, World.size_setCell]; exact hz
  sums := by
    unfold summed
    refine ⟨?_, ?_, ?_, ?_⟩
    · rw [set_other (ne_off (by decide)), set_other (ne_off (by decide)), set_other (ne_off (by decide)), set_same g0]
    · rw [set_other (ne_off (by decide)), set_other (ne_off (by decide)), set_same (by rw [set_other (ne_off (by decide))]; exact g1)]
    · rw [set_other (ne_off (by decide)), set_same (by rw [set_other (ne_off (by decide)), set_other (ne_off (by decide))]; exact g2)]
    · rw [set_same (by rw [set_other (ne_off (by decide)), set_other (ne_off (by decide)), set_other (ne_off (by decide))]; exact g3)]

theorem src_own {w : World} {base g cap k : Nat} {xs : List Value} (h : w.ownsRow base 31 4 (.slice (some ⟨g, 0, none⟩) k cap) k xs) : Src w 4 (.slice (some ⟨g, 0, none⟩) k cap) k xs :=
  .inr ⟨_, _, rfl, h.1, h.cells (g := g) rfl⟩

theorem own_rows {w : World} {base g cap k : Nat} {zs : List Int} (h : w.ownsRow base 31 4 (.slice (some ⟨g, 0, none⟩) k cap) k ((zs.map (Value.int .u64)).take (k * 4))) (hk : k * 4 ≤ zs.length) : Rows4 w g k zs := by
  intro j hj
  have := h.cells (g := g) rfl j (.int .u64 (zs.getD j 0)) (by
    rw [List.getElem?_take_of_lt hj, List.getElem?_map]
    simp [List.getD, show j < zs.length by omega])
  rw [Addr.add_lit, Nat.zero_add] at this
  exact this

theorem take_one (zs : List Int) (k : Nat) : ∀ u ∈ (zs.map (Value.int .u64)).take (k * 4), u.oneCell' = true := by
  intro u hu
  have := List.mem_of_mem_take hu
  rw [List.mem_map] at this
  obtain ⟨x, -, rfl⟩ := this
  rfl

/-- a list with its mark behind, opened. -/
theorem marked {w : World} {B : Nat} {v : Value} {zs : List Int} {k : Nat} (h : w.ownsRow B 31 4 v (k + 1) ((zs.map (Value.int .u64)).take (k * 4) ++ [.int .u64 0, .int .u64 171, .int .u64 0, .int .u64 0])) (hk : k * 4 ≤ zs.length) :
    ∃ g cap, v = .slice (some ⟨g, 0, none⟩) (k + 1) cap ∧ B ≤ g ∧ g < w.heap.size ∧ k < cap ∧ cap ≤ maxLen ∧ Rows4 w g k zs ∧ w.cell? ⟨g, k * 4 + 1, none⟩ = some (.int .u64 171) := by
  have h' := h
  rcases h.2 with ⟨-, h0⟩ | ⟨g, cap, cur, rfl, hb, hg, hnc, hcm, -⟩
  · omega
  · have hc := h'.cells (g := g) rfl
    have hl : ((zs.map (Value.int .u64)).take (k * 4)).length = k * 4 := by simp; omega
    refine ⟨g, cap, rfl, hb, (Array.getElem?_eq_some_iff.1 hg).1, by omega, hcm, fun j hj => ?_, ?_⟩
    · have := hc j (.int .u64 (zs.getD j 0)) (by
        rw [List.getElem?_append_left (by omega), List.getElem?_take_of_lt hj, List.getElem?_map]
        simp [List.getD, show j < zs.length by omega])
      rw [Addr.add_lit, Nat.zero_add] at this
      exact this
    · have := hc (k * 4 + 1) (.int .u64 171) (by
        rw [List.getElem?_append_right (by omega), hl, show k * 4 + 1 - k * 4 = 1 by omega]
        rfl)
      rw [Addr.add_lit, Nat.zero_add] at this
      exact this

theorem sum_lit (b n cap : Nat) (L : List Int) (w : World) (hb : b < w.heap.size) (h : Rows4 w b n L) (hn : n ≤ 9223372036854775807) :
    Calls Try.prog 9 #[.slice (some ⟨b, 0, none⟩) n cap] w fun r w' => r = .returned (.agg #[.int .u64 (sumTo L 0 n), .int .u64 (sumTo L 1 n), .int .u64 (sumTo L 2 n), .int .u64 (sumTo L 3 n)]) ∧ Ext w w' := sum_any b n cap L w hb h hn

theorem row_cells {w wr : World} {b off : Nat} {zs : List Int} (h : ∀ i (hi : i < zs.length), w.cell? ⟨b, off + i, none⟩ = some (.int .u64 zs[i])) (hb : b < w.heap.size) (hx : Ext w wr) (j : Nat) (hj : j + 3 < zs.length) :
    wr.cell? ⟨b, off + j, none⟩ = some (.int .u64 (zs.getD j 0)) ∧ wr.cell? ⟨b, off + (j + 1), none⟩ = some (.int .u64 (zs.getD (j + 1) 0)) ∧ wr.cell? ⟨b, off + (j + 2), none⟩ = some (.int .u64 (zs.getD (j + 2) 0)) ∧ wr.cell? ⟨b, off + (j + 3), none⟩ = some (.int .u64 (zs.getD (j + 3) 0)) := by
  have e : ∀ i, i < zs.length → wr.cell? ⟨b, off + i, none⟩ = some (.int .u64 (zs.getD i 0)) := fun i hi => by
    rw [hx.cell _ _ hb, h i hi]; simp [List.getD, hi]
  exact ⟨e _ (by omega), e _ (by omega), e _ (by omega), e _ (by omega)⟩

set_option maxHeartbeats 4000000 in
theorem sum_row (b off cap : Nat) (zs : List Int) (w : World) (hb : b < w.heap.size) (hl : zs.length ≤ 2000) (HC : Hid (∀ i (hi : i < zs.length), w.cell? ⟨b, off + i, none⟩ = some (.int .u64 zs[i]))) : Calls Try.prog 4 #[.slice (some ⟨b, off, none⟩) zs.length cap] w fun r w' => r = .returned (.bool true) ∧ Ext w w' := by
  have k1 : decide (2000 < (zs.length : Int)) = false := by simp; omega
  obtain ⟨i0, hi, hz0, hz1, hz2⟩ := info_parts info31
  go_enter Try.func4, Try.ntmps4
  go_wp2_with fail
  go_loopw [3, 5] (fun v i wr => ∃ k : Nat, k * 4 ≤ zs.length ∧ i = .int .i64 ((k * 4 : Nat) : Int) ∧ Hid (SRel w wr zs v k))
    (fun _ i _ => zs.length + 4 - (intOf i).toNat)
  case atStart => exact ⟨0, by omega, rfl, Lib.hid (srel_start w zs)⟩
  case round =>
    obtain ⟨k, hk, rfl, hrel⟩ := hrel
    by_cases hlt : k * 4 + 3 < zs.length
    · obtain ⟨c0, c1, c2, c3⟩ := row_cells HC.out hb hrel.out.ext (k * 4) hlt
      have s0 := hrel.out.sums.c0
      have s1 := hrel.out.sums.c1
      have s2 := hrel.out.sums.c2
      have s3 := hrel.out.sums.c3
      rw [Nat.zero_add] at s1 s2 s3
      have fr := hrel.out.free
      have hz := hrel.out.size
      have hbr : b < wr.heap.size := Nat.lt_of_lt_of_le hb hrel.out.ext.size
      have S0 := Lib.hid (show sumTo zs 0 (k + 1) = plus (sumTo zs 0 k) (zs.getD (k * 4) 0) from rfl)
      have S1 := Lib.hid (show sumTo zs 1 (k + 1) = plus (sumTo zs 1 k) (zs.getD (k * 4 + 1) 0) from rfl)
      have S2 := Lib.hid (show sumTo zs 2 (k + 1) = plus (sumTo zs 2 k) (zs.getD (k * 4 + 2) 0) from rfl)
      have S3 := Lib.hid (show sumTo zs 3 (k + 1) = plus (sumTo zs 3 k) (zs.getD (k * 4 + 3) 0) from rfl)
      have HT := Lib.hid (take_four zs (k * 4) hlt)
      generalize zs.getD (k * 4) 0 = y0 at *
      generalize zs.getD (k * 4 + 1) 0 = y1 at *
      generalize zs.getD (k * 4 + 2) 0 = y2 at *
      generalize zs.getD (k * 4 + 3) 0 = y3 at *
      generalize sumTo zs 0 k = x0 at *
      generalize sumTo zs 1 k = x1 at *
      generalize sumTo zs 2 k = x2 at *
      generalize sumTo zs 3 k = x3 at *
      go_wp2
      go_region
      go_wp2_with (first | (at_builtin; refine wpList_append_far (w.heap.size + 1) _ rfl (.tmp 40) (.tmp 42) 29 rfl 31 i0 _ 4 32 Try.underlying29 hi hz0 hz1 hz2 rfl (by decide) _ k _ (by rfl) (by exact owns_later hrel.out.own (Ext.below (by repeat (first | exact Ext.refl _ | refine Ext.drew ?_ | refine Ext.alloc ?_ _ _)))) (.slice (some ⟨wr.heap.size + 1, 0, none⟩) 1 1) 1 [.int .u64 y0, .int .u64 y1, .int .u64 y2, .int .u64 y3] (by rfl) (by
        refine .inr ⟨_, _, rfl, rfl, fun j u hu => ?_⟩
        match j, hu with
        | 0, hu => simp at hu; subst hu; simp [Addr.add]
        | 1, hu => simp at hu; subst hu; simp [Addr.add]
        | 2, hu => simp at hu; subst hu; simp [Addr.add]
        | 3, hu => simp at hu; subst hu; simp [Addr.add]) (by intro u hu; simp at hu; rcases hu with rfl | rfl | rfl | rfl <;> rfl) (by unfold maxLen; omega) (by omega) (by simp; omega) ?_) | fail)
      intro v' w1 hown' hoff hfar
      have g0 : w1.cell? ⟨w.heap.size, 0, none⟩ = some (.int .u64 x0) := (keep_cell (by repeat (first | exact Ext.refl _ | refine Ext.drew ?_ | refine Ext.alloc ?_ _ _)) hoff hz (by omega)).trans s0
      have g1 : w1.cell? ⟨w.heap.size, 1, none⟩ = some (.int .u64 x1) := (keep_cell (by repeat (first | exact Ext.refl _ | refine Ext.drew ?_ | refine Ext.alloc ?_ _ _)) hoff hz (by omega)).trans s1
      have g2 : w1.cell? ⟨w.heap.size, 2, none⟩ = some (.int .u64 x2) := (keep_cell (by repeat (first | exact Ext.refl _ | refine Ext.drew ?_ | refine Ext.alloc ?_ _ _)) hoff hz (by omega)).trans s2
      have g3 : w1.cell? ⟨w.heap.size, 3, none⟩ = some (.int .u64 x3) := (keep_cell (by repeat (first | exact Ext.refl _ | refine Ext.drew ?_ | refine Ext.alloc ?_ _ _)) hoff hz (by omega)).trans s3
      have hne := own_ne hrel.out.own (Nat.le_refl _)
      have f0 : w1.cell? ⟨wr.heap.size, 0, none⟩ = some (.int .u64 y0) := (far_cell hfar (by simp <;> omega) hne).trans (by simp)
      have f1 : w1.cell? ⟨wr.heap.size, 1, none⟩ = some (.int .u64 y1) := (far_cell hfar (by simp <;> omega) hne).trans (by simp)
      have f2 : w1.cell? ⟨wr.heap.size, 2, none⟩ = some (.int .u64 y2) := (far_cell hfar (by simp <;> omega) hne).trans (by simp)
      have f3 : w1.cell? ⟨wr.heap.size, 3, none⟩ = some (.int .u64 y3) := (far_cell hfar (by simp <;> omega) hne).trans (by simp)
      have hx1 : Ext w w1 := (hrel.out.ext.trans (by repeat (first | exact Ext.refl _ | refine Ext.drew ?_ | refine Ext.alloc ?_ _ _))).off hoff (by omega)
      have fr1 : ∀ j, w1.frozen? ⟨w.heap.size, j, none⟩ = false := fun j => by rw [hx1.frozen]; exact frozen_none _ _ _ (Nat.le_refl _)
      have hz1' : w.heap.size < w1.heap.size := by have := hoff.size; simp at this; omega
      have hz2' : wr.heap.size < w1.heap.size := by have := hoff.size; simp at this; omega
      have hne3 : w.heap.size ≠ wr.heap.size := by omega
      have hne4 : wr.heap.size ≠ w.heap.size := by omega
      have HX := Lib.hid hx1
      have HO := Lib.hid hown'
      have HN := Lib.hid (srel_next (y0 := y0) (y1 := y1) (y2 := y2) (y3 := y3) HO.out hx1 hz1' g0 g1 g2 g3)
      clear s0 s1 s2 s3 hx1 hown' hoff hfar c0 c1 c2 c3 hne
      go_wp2
      go_roundw
      case rel => exact ⟨k + 1, by omega, by go_num, Lib.hid { own := by rw [show (k + 1) * 4 = k * 4 + 4 by omega, HT.out]; exact HN.out.own, ext := HN.out.ext, size := HN.out.size, sums := by rw [S0.out, S1.out, S2.out, S3.out]; exact HN.out.sums, free := fun j => (HN.out.ext.frozen _).trans (frozen_none _ _ _ (Nat.le_refl _)) }⟩
      case measure => simp [intOf]; omega
    · rcases hrel.out.own.2 with ⟨rfl, rfl⟩ | ⟨g, cap0, cur, rfl, hbg0, hg0, hnc0, hcm0, -⟩
      · have HW := Lib.hid hrel.out.ext
        have hzw := hrel.out.size
        have q0 := hrel.out.sums.c0
        have q1 := hrel.out.sums.c1
        have q2 := hrel.out.sums.c2
        have q3 := hrel.out.sums.c3
        rw [Nat.zero_add] at q1 q2 q3
        clear hrel
        go_wp2_with (first | (at_builtin; refine wpList_append_far wr.heap.size _ rfl (.tmp 68) (.tmp 69) 29 rfl 31 i0 _ 4 32 Try.underlying29 hi hz0 hz1 hz2 rfl (by decide) _ 0 [] (by rfl) (by exact owns_empty wr _ _ _ (Nat.le_refl _)) (.slice none 0 0) 0 [] (by rfl) (by exact .inl ⟨rfl, rfl, rfl⟩) (by intro u hu; cases hu) (by unfold maxLen; omega) (by omega) (by simp) ?_) | fail)
        rintro v1 w1 hown1 hoff1 -
        have hx1 : Ext wr w1 := ((Ext.refl wr).alloc #[] 31).off hoff1 (Nat.le_refl _)
        try simp only [Nat.zero_add, List.nil_append] at hown1
        have HO1 := Lib.hid hown1
        have HX1 := Lib.hid hx1
        have hsz := hx1.size
        clear hown1 hoff1 hx1
        go_wp2_with (first | (at_builtin; refine wpList_append_far wr.heap.size _ rfl (.tmp 70) (.tmp 72) 29 rfl 31 i0 _ 4 32 Try.underlying29 hi hz0 hz1 hz2 rfl (by decide) v1 0 [] (by rfl) (by exact HO1.out.alloc _) (.slice (some ⟨w1.heap.size, 0, none⟩) 1 1) 1 [.int .u64 0, .int .u64 171, .int .u64 0, .int .u64 0] (by rfl) (by
          refine .inr ⟨_, _, rfl, rfl, fun j u hu => ?_⟩
          match j, hu with
          | 0, hu => simp at hu; subst hu; simp [Addr.add]
          | 1, hu => simp at hu; subst hu; simp [Addr.add]
          | 2, hu => simp at hu; subst hu; simp [Addr.add]
          | 3, hu => simp at hu; subst hu; simp [Addr.add]) (by intro u hu; simp at hu; rcases hu with rfl | rfl | rfl <;> rfl) (by unfold maxLen; omega) (by omega) (by simp; omega) ?_) | fail)
        rintro v2 w2 hown2 hoff2 -
        have hx2 : Ext wr w2 := (HX1.out.alloc #[.int .u64 0, .int .u64 171, .int .u64 0, .int .u64 0] 31).off hoff2 (Nat.le_refl _)
        obtain ⟨g2, cap2, rfl, hbg, hg2, hnc, hcm, hrows, hmark⟩ := marked (zs := zs) (k := 0) (by simpa using hown2) (by omega)
        have HX2 := Lib.hid hx2
        have HR2 := Lib.hid hrows
        have hcm' : cap2 ≤ 9223372036854775807 := by unfold maxLen at hcm; omega
        have p0 := (HX2.out.cell _ _ hzw).trans q0
        have p1 := (HX2.out.cell _ _ hzw).trans q1
        have p2 := (HX2.out.cell _ _ hzw).trans q2
        have p3 := (HX2.out.cell _ _ hzw).trans q3
        have hzw2 : w.heap.size < w2.heap.size := Nat.lt_of_lt_of_le hzw HX2.out.size
        clear hown2 hoff2 hx2 hrows hcm q0 q1 q2 q3 HO1 HX1
        have l0 := later_cell p0 hzw2
        have l1 := later_cell p1 hzw2
        have l2 := later_cell p2 hzw2
        have l3 := later_cell p3 hzw2
        have lm := later_cell hmark hg2
        clear p0 p1 p2 p3
        go_wp2_with fail
        refine wp_region_later w2 (by kernel_rfl) (by kernel_rfl) (Ext.refl _) ?_
        repeat (go_big_quiet_step ((go_at_call 9; exact later_call (sum_lit g2 0 _ zs _ (Nat.lt_of_lt_of_le hg2 (Later.ext _).size) (HR2.out.ext hg2 (Later.ext _)) (by omega)))))
        refine wpQuiet_nil ?_
        rintro ⟨w3, hg3⟩
        dsimp only
        have HX3 := Lib.hid (HX2.out.trans hg3)
        have HG3 := Lib.hid hg3
        clear l0 l1 l2 l3 lm hg3
        go_wp2
        refine wp_loop_rounds 1 ?_
        rw [rounds_succ]
        go_wp2_with (first | (go_at_call 8; refine (awake_any _).mono ?_; rintro r w4 ⟨rfl, hg4⟩) | fail)
        go_ret
        exact ⟨rfl, (HW.out.trans HX3.out).trans hg4⟩
      · have HP := Lib.hid hrel.out.own
        have HW := Lib.hid hrel.out.ext
        have hzw := hrel.out.size
        have q0 := hrel.out.sums.c0
        have q1 := hrel.out.sums.c1
        have q2 := hrel.out.sums.c2
        have q3 := hrel.out.sums.c3
        rw [Nat.zero_add] at q1 q2 q3
        clear hrel
        go_wp2_with (first | (at_builtin; refine wpList_append_far wr.heap.size _ rfl (.tmp 68) (.tmp 69) 29 rfl 31 i0 _ 4 32 Try.underlying29 hi hz0 hz1 hz2 rfl (by decide) _ 0 [] (by rfl) (by exact owns_empty wr _ _ _ (Nat.le_refl _)) (.slice (some ⟨g, 0, none⟩) k cap0) k ((zs.map (Value.int .u64)).take (k * 4)) (by rfl) (by exact src_own (owns_later HP.out (Ext.below (by repeat (first | exact Ext.refl _ | refine Ext.drew ?_ | refine Ext.alloc ?_ _ _))))) (take_one zs k) (by unfold maxLen; omega) (by omega) (by simp) ?_) | fail)
        rintro v1 w1 hown1 hoff1 -
        have hx1 : Ext wr w1 := ((Ext.refl wr).alloc #[] 31).off hoff1 (Nat.le_refl _)
        try simp only [Nat.zero_add, List.nil_append] at hown1
        have HO1 := Lib.hid hown1
        have HX1 := Lib.hid hx1
        have hsz := hx1.size
        clear hown1 hoff1 hx1
        go_wp2_with (first | (at_builtin; refine wpList_append_far wr.heap.size _ rfl (.tmp 70) (.tmp 72) 29 rfl 31 i0 _ 4 32 Try.underlying29 hi hz0 hz1 hz2 rfl (by decide) v1 k ((zs.map (Value.int .u64)).take (k * 4)) (by rfl) (by exact HO1.out.alloc _) (.slice (some ⟨w1.heap.size, 0, none⟩) 1 1) 1 [.int .u64 0, .int .u64 171, .int .u64 0, .int .u64 0] (by rfl) (by
          refine .inr ⟨_, _, rfl, rfl, fun j u hu => ?_⟩
          match j, hu with
          | 0, hu => simp at hu; subst hu; simp [Addr.add]
          | 1, hu => simp at hu; subst hu; simp [Addr.add]
          | 2, hu => simp at hu; subst hu; simp [Addr.add]
          | 3, hu => simp at hu; subst hu; simp [Addr.add]) (by intro u hu; simp at hu; rcases hu with rfl | rfl | rfl <;> rfl) (by unfold maxLen; omega) (by omega) (by simp; omega) ?_) | fail)
        rintro v2 w2 hown2 hoff2 -
        have hx2 : Ext wr w2 := (HX1.out.alloc #[.int .u64 0, .int .u64 171, .int .u64 0, .int .u64 0] 31).off hoff2 (Nat.le_refl _)
        obtain ⟨g2, cap2, rfl, hbg, hg2, hnc, hcm, hrows, hmark⟩ := marked (zs := zs) (k := k) (by simpa using hown2) (by omega)
        have HX2 := Lib.hid hx2
        have HR2 := Lib.hid hrows
        have hcm' : cap2 ≤ 9223372036854775807 := by unfold maxLen at hcm; omega
        have p0 := (HX2.out.cell _ _ hzw).trans q0
        have p1 := (HX2.out.cell _ _ hzw).trans q1
        have p2 := (HX2.out.cell _ _ hzw).trans q2
        have p3 := (HX2.out.cell _ _ hzw).trans q3
        have hzw2 : w.heap.size < w2.heap.size := Nat.lt_of_lt_of_le hzw HX2.out.size
        clear hown2 hoff2 hx2 hrows hcm q0 q1 q2 q3 HO1 HX1
        have l0 := later_cell p0 hzw2
        have l1 := later_cell p1 hzw2
        have l2 := later_cell p2 hzw2
        have l3 := later_cell p3 hzw2
        have lm := later_cell hmark hg2
        clear p0 p1 p2 p3
        go_wp2_with fail
        refine wp_region_later w2 (by kernel_rfl) (by kernel_rfl) (Ext.refl _) ?_
        repeat (go_big_quiet_step ((go_at_call 9; exact later_call (sum_lit g2 k _ zs _ (Nat.lt_of_lt_of_le hg2 (Later.ext _).size) (HR2.out.ext hg2 (Later.ext _)) (by omega)))))
        refine wpQuiet_nil ?_
        rintro ⟨w3, hg3⟩
        dsimp only
        have HX3 := Lib.hid (HX2.out.trans hg3)
        have HG3 := Lib.hid hg3
        clear l0 l1 l2 l3 lm hg3
        go_wp2
        go_loopw [8] (fun i wx => ∃ m : Nat, m ≤ k ∧ i = .int .i64 m ∧ ∃ nn, wx = w3.drewN nn) (fun i _ => k - (intOf i).toNat)
        case atStart => exact ⟨0, Nat.zero_le _, rfl, 0, rfl⟩
        case round =>
          obtain ⟨m, hm, rfl, nn, rfl⟩ := hrel
          by_cases hlm : m < k
          · have hA := own_rows HP.out (zs := zs) (by omega)
            have hgl : g < wr.heap.size := (owns_lt HP.out g rfl).2
            have a0 := (HX3.out.cell _ _ hgl).trans (hA (m * 4) (by omega))
            have a1 := (HX3.out.cell _ _ hgl).trans (hA (m * 4 + 1) (by omega))
            have a2 := (HX3.out.cell _ _ hgl).trans (hA (m * 4 + 2) (by omega))
            have a3 := (HX3.out.cell _ _ hgl).trans (hA (m * 4 + 3) (by omega))
            have b0 := (HG3.out.cell _ _ hg2).trans (HR2.out (m * 4) (by omega))
            have b1 := (HG3.out.cell _ _ hg2).trans (HR2.out (m * 4 + 1) (by omega))
            have b2 := (HG3.out.cell _ _ hg2).trans (HR2.out (m * 4 + 2) (by omega))
            have b3 := (HG3.out.cell _ _ hg2).trans (HR2.out (m * 4 + 3) (by omega))
            clear hA
            go_wp2
            go_quiet (fail)
            go_wp2
            go_roundw
            case rel => exact ⟨m + 1, hlm, by go_num, _, rfl⟩
            case measure => simp [intOf]; omega
          · obtain rfl : m = k := by omega
            go_wp2_with (first | (go_at_call 8; refine (awake_any _).mono ?_; rintro r w4 ⟨rfl, hg4⟩) | fail)
            go_ret
            exact ⟨rfl, ((HW.out.trans HX3.out).drewN nn).trans hg4⟩


set_option maxHeartbeats 2000000 in
theorem sum_nil (w : World) : Calls Try.prog 4 #[.slice none 0 0] w fun r w' => r = .returned (.bool true) ∧ Ext w w' := by
  obtain ⟨i0, hi, hz0, hz1, hz2⟩ := info_parts info31
  have hrel := srel_start w []
  go_enter Try.func4, Try.ntmps4
  go_wp2_with fail
  generalize w.alloc (.cells #[.int .u64 0, .int .u64 0, .int .u64 0, .int .u64 0] 31) = wr at hrel ⊢
  refine wp_loop_rounds 1 ?_
  rw [rounds_succ]
  have HW := Lib.hid hrel.ext
  have hzw := hrel.size
  have q0 := hrel.sums.c0
  have q1 := hrel.sums.c1
  have q2 := hrel.sums.c2
  have q3 := hrel.sums.c3
  rw [Nat.zero_add] at q1 q2 q3
  clear hrel
  go_wp2_with (first | (at_builtin; refine wpList_append_far wr.heap.size _ rfl (.tmp 68) (.tmp 69) 29 rfl 31 i0 _ 4 32 Try.underlying29 hi hz0 hz1 hz2 rfl (by decide) _ 0 [] (by rfl) (by exact owns_empty wr _ _ _ (Nat.le_refl _)) (.slice none 0 0) 0 [] (by rfl) (by exact .inl ⟨rfl, rfl, rfl⟩) (by intro u hu; cases hu) (by unfold maxLen; omega) (by omega) (by simp) ?_) | fail)
  rintro v1 w1 hown1 hoff1 -
  have hx1 : Ext wr w1 := ((Ext.refl wr).alloc #[] 31).off hoff1 (Nat.le_refl _)
  try simp only [Nat.zero_add, List.nil_append] at hown1
  have HO1 := Lib.hid hown1
  have HX1 := Lib.hid hx1
  have hsz := hx1.size
  clear hown1 hoff1 hx1
  go_wp2_with (first | (at_builtin; refine wpList_append_far wr.heap.size _ rfl (.tmp 70) (.tmp 72) 29 rfl 31 i0 _ 4 32 Try.underlying29 hi hz0 hz1 hz2 rfl (by decide) v1 0 [] (by rfl) (by exact HO1.out.alloc _) (.slice (some ⟨w1.heap.size, 0, none⟩) 1 1) 1 [.int .u64 0, .int .u64 171, .int .u64 0, .int .u64 0] (by rfl) (by
    refine .inr ⟨_, _, rfl, rfl, fun j u hu => ?_⟩
    match j, hu with
    | 0, hu => simp at hu; subst hu; simp [Addr.add]
    | 1, hu => simp at hu; subst hu; simp [Addr.add]
    | 2, hu => simp at hu; subst hu; simp [Addr.add]
    | 3, hu => simp at hu; subst hu; simp [Addr.add]) (by intro u hu; simp at hu; rcases hu with rfl | rfl | rfl <;> rfl) (by unfold maxLen; omega) (by omega) (by simp; omega) ?_) | fail)
  rintro v2 w2 hown2 hoff2 -
  have hx2 : Ext wr w2 := (HX1.out.alloc #[.int .u64 0, .int .u64 171, .int .u64 0, .int .u64 0] 31).off hoff2 (Nat.le_refl _)
  obtain ⟨g2, cap2, rfl, hbg, hg2, hnc, hcm, hrows, hmark⟩ := marked (zs := ([] : List Int)) (k := 0) (by simpa using hown2) (by omega)
  have HX2 := Lib.hid hx2
  have HR2 := Lib.hid hrows
  have hcm' : cap2 ≤ 9223372036854775807 := by unfold maxLen at hcm; omega
  have p0 := (HX2.out.cell _ _ hzw).trans q0
  have p1 := (HX2.out.cell _ _ hzw).trans q1
  have p2 := (HX2.out.cell _ _ hzw).trans q2
  have p3 := (HX2.out.cell _ _ hzw).trans q3
  have hzw2 : w.heap.size < w2.heap.size := Nat.lt_of_lt_of_le hzw HX2.out.size
  clear hown2 hoff2 hx2 hrows hcm q0 q1 q2 q3 HO1 HX1
  have l0 := later_cell p0 hzw2
  have l1 := later_cell p1 hzw2
  have l2 := later_cell p2 hzw2
  have l3 := later_cell p3 hzw2
  have lm := later_cell hmark hg2
  clear p0 p1 p2 p3
  go_wp2_with fail
  refine wp_region_later w2 (by kernel_rfl) (by kernel_rfl) (Ext.refl _) ?_
  repeat (go_big_quiet_step ((go_at_call 9; exact later_call (sum_lit g2 0 _ ([] : List Int) _ (Nat.lt_of_lt_of_le hg2 (Later.ext _).size) (HR2.out.ext hg2 (Later.ext _)) (by omega)))))
  refine wpQuiet_nil ?_
  rintro ⟨w3, hg3⟩
  dsimp only
  have HX3 := Lib.hid (HX2.out.trans hg3)
  have HG3 := Lib.hid hg3
  clear l0 l1 l2 l3 lm hg3
  go_wp2
  refine wp_loop_rounds 1 ?_
  rw [rounds_succ]
  go_wp2_with (first | (go_at_call 8; refine (awake_any _).mono ?_; rintro r w4 ⟨rfl, hg4⟩) | fail)
  go_ret
  exact ⟨rfl, (HW.out.trans HX3.out).trans hg4⟩

theorem open_zs {H : Type} {enc : TypeId × Value → H} {W : World} {base : Nat} {v : Value} {d : DataW H} {p : List MemPlace} (hval : Value.okWide Try.prog W .any base 28 v) (h : DataW.Trod enc Try.prog W 0 (fun _ => true) true 28 v d p) :
    ∃ zs : List Int, (∀ n ∈ zs, (Lit.int .u64 n).wf = true) ∧ zs.length ≤ maxLen ∧
      ((v = .slice none 0 0 ∧ zs = []) ∨ ∃ b off cap, v = .slice (some ⟨b, off, none⟩) zs.length cap ∧ b < W.heap.size ∧ ∀ i (hi : i < zs.length), W.cell? ⟨b, off + i, none⟩ = some (.int .u64 zs[i])) :=
  open_nums Try.underlying28 Try.underlying22 (by kernel_rfl) hval h

theorem walk_StatsSum {W : World} (v : Value) (zs : List Int) (hl : (∀ n ∈ zs, (Lit.int .u64 n).wf = true) ∧ zs.length ≤ maxLen ∧
      ((v = .slice none 0 0 ∧ zs = []) ∨ ∃ b off cap, v = .slice (some ⟨b, off, none⟩) zs.length cap ∧ b < W.heap.size ∧ ∀ i (hi : i < zs.length), W.cell? ⟨b, off + i, none⟩ = some (.int .u64 zs[i]))) :
    Calls Try.prog 4 #[v] W fun r w' => r = .returned (.bool true) ∧ Ext W w' := by
  obtain ⟨-, hm, hv⟩ := hl
  unfold maxLen at hm
  rcases hv with ⟨rfl, -⟩ | ⟨b, off, cap, rfl, hb, hc⟩
  · exact sum_nil W
  · by_cases h : zs.length ≤ 2000
    · exact sum_row b off cap zs W hb h (Lib.hid hc)
    · have k1 : decide (2000 < (zs.length : Int)) = true := by simp; omega
      clear hc
      go_enter Try.func4, Try.ntmps4
      go_wp2
      go_ret
      exact ⟨rfl, Ext.refl _⟩

end Go.Proofs.Ytdklcflclpmcbaa
