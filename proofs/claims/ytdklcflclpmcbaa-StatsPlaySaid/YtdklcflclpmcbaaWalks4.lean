/- The contracts of package stats: All, Whole. -/
import Derived.Test.YtdklcflclpmcbaaWalks3
namespace Go.Proofs.Ytdklcflclpmcbaa
open Go.RowKit
set_option linter.unusedVariables false

/-- four counts at a place. -/
structure Four (w : World) (b o : Nat) (x0 x1 x2 x3 : Int) : Prop where
  c0 : w.cell? ⟨b, o, none⟩ = some (.int .u64 x0)
  c1 : w.cell? ⟨b, o + 1, none⟩ = some (.int .u64 x1)
  c2 : w.cell? ⟨b, o + 2, none⟩ = some (.int .u64 x2)
  c3 : w.cell? ⟨b, o + 3, none⟩ = some (.int .u64 x3)

section
variable {w : World} {b o : Nat} {x0 x1 x2 x3 y0 y1 y2 y3 : Int}

theorem added_frozen (a : Addr) : (added w b o x0 x1 x2 x3 y0 y1 y2 y3).frozen? a = w.frozen? a := by
  unfold added
  refine (frozen?_alloc_cells _ _ _ _).trans ?_
  rw [World.frozen?_setCell, World.frozen?_setCell, World.frozen?_setCell, World.frozen?_setCell]

theorem added_size : (added w b o x0 x1 x2 x3 y0 y1 y2 y3).heap.size = w.heap.size + 1 := by
  have h : (added w b o x0 x1 x2 x3 y0 y1 y2 y3).heap.size = (((((w.setCell ⟨b, o, none⟩ (.int .u64 (IntKind.u64.wrap (x0 + y0)))).setCell ⟨b, o + 1, none⟩ (.int .u64 (IntKind.u64.wrap (x1 + y1)))).setCell ⟨b, o + 2, none⟩ (.int .u64 (IntKind.u64.wrap (x2 + y2)))).setCell ⟨b, o + 3, none⟩ (.int .u64 (IntKind.u64.wrap (x3 + y3)))).alloc
    (.cells #[.int .u64 y0, .int .u64 y1, .int .u64 y2, .int .u64 y3] 31)).heap.size := rfl
  rw [h, World.size_alloc, World.size_setCell, World.size_setCell, World.size_setCell, World.size_setCell]

theorem added_cell (c k : Nat) (hc : c < w.heap.size) : (added w b o x0 x1 x2 x3 y0 y1 y2 y3).cell? ⟨c, k, none⟩ =
    ((((w.setCell ⟨b, o, none⟩ (.int .u64 (IntKind.u64.wrap (x0 + y0)))).setCell ⟨b, o + 1, none⟩ (.int .u64 (IntKind.u64.wrap (x1 + y1)))).setCell ⟨b, o + 2, none⟩ (.int .u64 (IntKind.u64.wrap (x2 + y2)))).setCell ⟨b, o + 3, none⟩ (.int .u64 (IntKind.u64.wrap (x3 + y3)))).cell? ⟨c, k, none⟩ := by
  unfold added
  show (World.alloc _ _).cell? _ = _
  exact World.cell?_alloc_past _ _ _ (by simpa using hc)

theorem added_other {c k : Nat} (hc : c < w.heap.size) (h : b ≠ c) : (added w b o x0 x1 x2 x3 y0 y1 y2 y3).cell? ⟨c, k, none⟩ = w.cell? ⟨c, k, none⟩ := by
  rw [added_cell c k hc, set_other (ne_block h), set_other (ne_block h), set_other (ne_block h), set_other (ne_block h)]

theorem added_far {k : Nat} (hc : b < w.heap.size) (h : k < o ∨ o + 3 < k) : (added w b o x0 x1 x2 x3 y0 y1 y2 y3).cell? ⟨b, k, none⟩ = w.cell? ⟨b, k, none⟩ := by
  rw [added_cell b k hc, set_other (ne_off (by omega)), set_other (ne_off (by omega)), set_other (ne_off (by omega)), set_other (ne_off (by omega))]

theorem added_four (hb : b < w.heap.size) (h : Four w b o x0 x1 x2 x3) : Four (added w b o x0 x1 x2 x3 y0 y1 y2 y3) b o (plus x0 y0) (plus x1 y1) (plus x2 y2) (plus x3 y3) := by
  refine ⟨?_, ?_, ?_, ?_⟩
  · rw [added_cell _ _ hb, set_other (ne_off (by omega)), set_other (ne_off (by omega)), set_other (ne_off (by omega)), set_same h.c0]; rfl
  · rw [added_cell _ _ hb, set_other (ne_off (by omega)), set_other (ne_off (by omega)), set_same (by rw [set_other (ne_off (by omega))]; exact h.c1)]; rfl
  · rw [added_cell _ _ hb, set_other (ne_off (by omega)), set_same (by rw [set_other (ne_off (by omega)), set_other (ne_off (by omega))]; exact h.c2)]; rfl
  · rw [added_cell _ _ hb, set_same (by rw [set_other (ne_off (by omega)), set_other (ne_off (by omega)), set_other (ne_off (by omega))]; exact h.c3)]; rfl

theorem added_ext {W : World} (h : Ext W w) (hb : W.heap.size ≤ b) : Ext W (added w b o x0 x1 x2 x3 y0 y1 y2 y3) :=
  ((((((((h.setCell hb _).setCell hb _).setCell hb _).setCell hb _).alloc _ _).drew).drew).drew).drew
end

/-- so many rows' counts of one kind, together. -/
def sumTo (L : List Int) (c : Nat) : Nat → Int
  | 0 => 0
  | k + 1 => plus (sumTo L c k) (L.getD (k * 4 + c) 0)

/-- the memory of a call that gathers counts in block B1, its answer's block B0. -/
structure SInv (w : World) (B0 B1 : Nat) (x0 x1 x2 x3 : Int) (wr : World) : Prop where
  ext : Ext w wr
  hB0 : w.heap.size ≤ B0
  hB : B0 < B1
  size : B1 < wr.heap.size
  res : Four wr B0 0 0 0 0 0
  sum : Four wr B1 0 x0 x1 x2 x3
  fa : ∀ j, wr.frozen? ⟨B0, j, none⟩ = false
  fo : ∀ j, wr.frozen? ⟨B1, j, none⟩ = false

theorem SInv.add {w : World} {B0 B1 : Nat} {x0 x1 x2 x3 : Int} {wr : World} (h : SInv w B0 B1 x0 x1 x2 x3 wr) (y0 y1 y2 y3 : Int) :
    SInv w B0 B1 (plus x0 y0) (plus x1 y1) (plus x2 y2) (plus x3 y3) (added wr B1 0 x0 x1 x2 x3 y0 y1 y2 y3) where
  ext := added_ext h.ext (Nat.le_trans h.hB0 (Nat.le_of_lt h.hB))
  hB0 := h.hB0
  hB := h.hB
  size := by rw [added_size]; exact Nat.lt_succ_of_lt h.size
  res := by
    have hne : B1 ≠ B0 := by have := h.hB; omega
    have hlt : B0 < wr.heap.size := Nat.lt_trans h.hB h.size
    exact ⟨(added_other hlt hne).trans h.res.c0, (added_other hlt hne).trans h.res.c1, (added_other hlt hne).trans h.res.c2, (added_other hlt hne).trans h.res.c3⟩
  sum := added_four h.size h.sum
  fa := fun j => (added_frozen _).trans (h.fa j)
  fo := fun j => (added_frozen _).trans (h.fo j)

set_option maxHeartbeats 1000000 in
theorem all_any (B B' n : Nat) (L C : List Int) (w : World) (h : Tab w B B' n L C) :
    Calls Try.prog 16 #[.pointer (some ⟨B, 0, none⟩)] w fun r w' => r = .returned (.agg #[.int .u64 (sumTo L 0 n), .int .u64 (sumTo L 1 n), .int .u64 (sumTo L 2 n), .int .u64 (sumTo L 3 n)]) ∧ Ext w w' := by
  have hd := h.hd
  have hn := h.hn
  have hB := h.hB
  have hB' := h.hB'
  have HH := Lib.hid h
  clear h
  go_enter Try.func16, Try.ntmps16
  go_wp2
  go_loopw [10] (fun i wr => ∃ k : Nat, k ≤ n ∧ i = .int .i64 k ∧ SInv w w.heap.size (w.heap.size + 1) (sumTo L 0 k) (sumTo L 1 k) (sumTo L 2 k) (sumTo L 3 k) wr) (fun i _ => n - (intOf i).toNat)
  case atStart =>
    refine ⟨0, Nat.zero_le _, rfl, { ext := ((Ext.refl _).alloc _ _).alloc _ _, hB0 := Nat.le_refl _, hB := Nat.lt_succ_self _, size := by simp, res := ⟨by simp, by simp, by simp, by simp⟩, sum := ⟨by simp [sumTo], by simp [sumTo], by simp [sumTo], by simp [sumTo]⟩, fa := fun j => ?_, fo := fun j => ?_ }⟩
    · exact (frozen?_alloc_cells _ _ _ _).trans ((frozen?_alloc_cells _ _ _ _).trans (frozen_none _ _ _ (by omega)))
    · exact (frozen?_alloc_cells _ _ _ _).trans ((frozen?_alloc_cells _ _ _ _).trans (frozen_none _ _ _ (by omega)))
  case round =>
    obtain ⟨k, hk, rfl, inv⟩ := hrel
    have HI := Lib.hid inv
    by_cases hlt : k < n
    · have tb := HH.out.later inv.ext
      have hd' := tb.hd
      have p0 := tb.ps (k * 4) (by omega)
      have p1 := tb.ps (k * 4 + 1) (by omega)
      have p2 := tb.ps (k * 4 + 2) (by omega)
      have p3 := tb.ps (k * 4 + 3) (by omega)
      have hzr := inv.size
      have S0 := Lib.hid (show sumTo L 0 (k + 1) = plus (sumTo L 0 k) (L.getD (k * 4) 0) from rfl)
      have S1 := Lib.hid (show sumTo L 1 (k + 1) = plus (sumTo L 1 k) (L.getD (k * 4 + 1) 0) from rfl)
      have S2 := Lib.hid (show sumTo L 2 (k + 1) = plus (sumTo L 2 k) (L.getD (k * 4 + 2) 0) from rfl)
      have S3 := Lib.hid (show sumTo L 3 (k + 1) = plus (sumTo L 3 k) (L.getD (k * 4 + 3) 0) from rfl)
      clear tb inv hd
      go_wp2_with fail
      refine (add_any (w.heap.size + 1) 0 _ _ _ _ _ _ _ _ _ hzr HI.out.sum.c0 HI.out.sum.c1 HI.out.sum.c2 HI.out.sum.c3 HI.out.fo).mono ?_
      rintro e w2 ⟨rfl, hw2⟩
      subst hw2
      have HN := Lib.hid (HI.out.add (L.getD (k * 4) 0) (L.getD (k * 4 + 1) 0) (L.getD (k * 4 + 2) 0) (L.getD (k * 4 + 3) 0))
      go_wp2
      go_roundw
      case rel => exact ⟨k + 1, hlt, by go_num, by rw [S0.out, S1.out, S2.out, S3.out]; exact HN.out⟩
      case measure => simp [intOf]; omega
    · obtain rfl : k = n := by omega
      have a0 := inv.res.c0
      have a1 := inv.res.c1
      have a2 := inv.res.c2
      have a3 := inv.res.c3
      have s0 := inv.sum.c0
      have s1 := inv.sum.c1
      have s2 := inv.sum.c2
      have s3 := inv.sum.c3
      have fa := inv.fa
      have hzr := inv.size
      rw [Nat.zero_add] at a1 a2 a3 s1 s2 s3
      clear inv
      go_wp2
      refine bodyPost_ret (v := .agg #[.int .u64 (sumTo L 0 k), .int .u64 (sumTo L 1 k), .int .u64 (sumTo L 2 k), .int .u64 (sumTo L 3 k)]) (by simp [results, Try.results16, go_sem, a0, a1, a2, a3, fa]) rfl ⟨rfl, ?_⟩
      exact (((HI.out.ext.setCell (Nat.le_refl _) _).setCell (Nat.le_refl _) _).setCell (Nat.le_refl _) _).setCell (Nat.le_refl _) _

end Go.Proofs.Ytdklcflclpmcbaa
