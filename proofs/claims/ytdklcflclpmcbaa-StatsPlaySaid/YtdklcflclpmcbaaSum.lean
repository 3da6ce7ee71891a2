/- The contract of stats.Sum. -/
import Derived.Test.YtdklcflclpmcbaaAwake
import Derived.Test.YtdklcflclpmcbaaOff
import Derived.Test.YtdklcflclpmcbaaLater
namespace Go.Proofs.Ytdklcflclpmcbaa
open Go.RowKit
set_option linter.unusedVariables false

theorem SInv.later {w : World} {B0 B1 : Nat} {x0 x1 x2 x3 : Int} {wr w' : World} (h : SInv w B0 B1 x0 x1 x2 x3 wr) (hx : Ext wr w') : SInv w B0 B1 x0 x1 x2 x3 w' where
  ext := h.ext.trans hx
  hB0 := h.hB0
  hB := h.hB
  size := Nat.lt_of_lt_of_le h.size hx.size
  res := ⟨(hx.cell _ _ (Nat.lt_trans h.hB h.size)).trans h.res.c0, (hx.cell _ _ (Nat.lt_trans h.hB h.size)).trans h.res.c1, (hx.cell _ _ (Nat.lt_trans h.hB h.size)).trans h.res.c2, (hx.cell _ _ (Nat.lt_trans h.hB h.size)).trans h.res.c3⟩
  sum := ⟨(hx.cell _ _ h.size).trans h.sum.c0, (hx.cell _ _ h.size).trans h.sum.c1, (hx.cell _ _ h.size).trans h.sum.c2, (hx.cell _ _ h.size).trans h.sum.c3⟩
  fa := fun j => (hx.frozen _).trans (h.fa j)
  fo := fun j => (hx.frozen _).trans (h.fo j)

/-- so many rows of four counts. -/
def Rows4 (w : World) (b n : Nat) (L : List Int) : Prop := ∀ j, j < n * 4 → w.cell? ⟨b, j, none⟩ = some (.int .u64 (L.getD j 0))

theorem Rows4.ext {w w' : World} {b n : Nat} {L : List Int} (h : Rows4 w b n L) (hb : b < w.heap.size) (hx : Ext w w') : Rows4 w' b n L := fun j hj => (hx.cell b j hb).trans (h j hj)

def sumsV (L : List Int) (n : Nat) : Value := .agg #[.int .u64 (sumTo L 0 n), .int .u64 (sumTo L 1 n), .int .u64 (sumTo L 2 n), .int .u64 (sumTo L 3 n)]

set_option maxHeartbeats 1000000 in
theorem sum_any (b n cap : Nat) (L : List Int) (w : World) (hb : b < w.heap.size) (h : Rows4 w b n L) (hn : n ≤ 9223372036854775807) :
    Calls Try.prog 9 #[.slice (some ⟨b, 0, none⟩) n cap] w fun r w' => r = .returned (sumsV L n) ∧ Ext w w' := by
  have HH := Lib.hid h
  clear h
  go_enter Try.func9, Try.ntmps9
  go_wp2
  go_loopw [8] (fun i wr => ∃ k : Nat, k ≤ n ∧ i = .int .i64 k ∧ SInv w w.heap.size (w.heap.size + 1) (sumTo L 0 k) (sumTo L 1 k) (sumTo L 2 k) (sumTo L 3 k) wr) (fun i _ => n - (intOf i).toNat)
  case atStart =>
    refine ⟨0, Nat.zero_le _, rfl, { ext := ((Ext.refl _).alloc _ _).alloc _ _, hB0 := Nat.le_refl _, hB := Nat.lt_succ_self _, size := by simp, res := ⟨by simp, by simp, by simp, by simp⟩, sum := ⟨by simp [sumTo], by simp [sumTo], by simp [sumTo], by simp [sumTo]⟩, fa := fun j => ?_, fo := fun j => ?_ }⟩
    · exact (frozen?_alloc_cells _ _ _ _).trans ((frozen?_alloc_cells _ _ _ _).trans (frozen_none _ _ _ (by omega)))
    · exact (frozen?_alloc_cells _ _ _ _).trans ((frozen?_alloc_cells _ _ _ _).trans (frozen_none _ _ _ (by omega)))
  case round =>
    obtain ⟨k, hk, rfl, inv⟩ := hrel
    have HI := Lib.hid inv
    by_cases hlt : k < n
    · have tb := HH.out.ext hb inv.ext
      have p0 := tb (k * 4) (by omega)
      have p1 := tb (k * 4 + 1) (by omega)
      have p2 := tb (k * 4 + 2) (by omega)
      have p3 := tb (k * 4 + 3) (by omega)
      have hzr := inv.size
      have S0 := Lib.hid (show sumTo L 0 (k + 1) = plus (sumTo L 0 k) (L.getD (k * 4) 0) from rfl)
      have S1 := Lib.hid (show sumTo L 1 (k + 1) = plus (sumTo L 1 k) (L.getD (k * 4 + 1) 0) from rfl)
      have S2 := Lib.hid (show sumTo L 2 (k + 1) = plus (sumTo L 2 k) (L.getD (k * 4 + 2) 0) from rfl)
      have S3 := Lib.hid (show sumTo L 3 (k + 1) = plus (sumTo L 3 k) (L.getD (k * 4 + 3) 0) from rfl)
      clear tb inv
      generalize L.getD (k * 4) 0 = y0 at *
      generalize L.getD (k * 4 + 1) 0 = y1 at *
      generalize L.getD (k * 4 + 2) 0 = y2 at *
      generalize L.getD (k * 4 + 3) 0 = y3 at *
      have HJ := Lib.hid (HI.out.later ((Ext.refl wr).alloc #[.int .u64 y0, .int .u64 y1, .int .u64 y2, .int .u64 y3] 31))
      go_wp2_with fail
      refine (add_any (w.heap.size + 1) 0 _ _ _ _ _ _ _ _ _ HJ.out.size HJ.out.sum.c0 HJ.out.sum.c1 HJ.out.sum.c2 HJ.out.sum.c3 HJ.out.fo).mono ?_
      rintro e w2 ⟨rfl, hw2⟩
      subst hw2
      have HN := Lib.hid (HJ.out.add y0 y1 y2 y3)
      go_wp2
      go_roundw
      case rel => exact ⟨k + 1, hlt, by go_num, by rw [S0.out, S1.out, S2.out, S3.out]; exact HN.out⟩
      case measure => simp [intOf]; omega
    · obtain rfl : k = n := by omega
      have a0 := inv.res.c0
      have a1 := inv.res.c1
      have a2 := inv.res.c2
      have a3 := inv.res.c3
      have s0 := inv.sum.c0
      have s1 := inv.sum.c1
      have s2 := inv.sum.c2
      have s3 := inv.sum.c3
      have fa := inv.fa
      have hzr := inv.size
      rw [Nat.zero_add] at a1 a2 a3 s1 s2 s3
      clear inv
      go_wp2
      refine bodyPost_ret (v := .agg #[.int .u64 (sumTo L 0 k), .int .u64 (sumTo L 1 k), .int .u64 (sumTo L 2 k), .int .u64 (sumTo L 3 k)]) (by simp [results, Try.results9, go_sem, a0, a1, a2, a3, fa]) rfl ⟨rfl, ?_⟩
      exact (((HI.out.ext.setCell (Nat.le_refl _) _).setCell (Nat.le_refl _) _).setCell (Nat.le_refl _) _).setCell (Nat.le_refl _) _

end Go.Proofs.Ytdklcflclpmcbaa
