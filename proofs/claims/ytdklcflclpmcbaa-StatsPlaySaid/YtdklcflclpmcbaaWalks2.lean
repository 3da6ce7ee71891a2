/- The contracts of package stats: add, Class, P. -/
import Derived.Test.YtdklcflclpmcbaaWalks
import Derived.Deep.QuietTactic
import Derived.BigQuiet
namespace Go.Proofs.Ytdklcflclpmcbaa
open Go.RowKit
set_option linter.unusedVariables false

/-- four counts are added, field by field. -/
def added (w : World) (b o : Nat) (x0 x1 x2 x3 y0 y1 y2 y3 : Int) : World :=
  (((((w.setCell ⟨b, o, none⟩ (.int .u64 (IntKind.u64.wrap (x0 + y0)))).setCell ⟨b, o + 1, none⟩ (.int .u64 (IntKind.u64.wrap (x1 + y1)))).setCell ⟨b, o + 2, none⟩ (.int .u64 (IntKind.u64.wrap (x2 + y2)))).setCell ⟨b, o + 3, none⟩ (.int .u64 (IntKind.u64.wrap (x3 + y3)))).alloc
    (.cells #[.int .u64 y0, .int .u64 y1, .int .u64 y2, .int .u64 y3] 31)).drew.drew.drew.drew

set_option maxHeartbeats 2000000 in
theorem add_any (b o : Nat) (x0 x1 x2 x3 y0 y1 y2 y3 : Int) (w : World) (hb : b < w.heap.size)
    (c0 : w.cell? ⟨b, o, none⟩ = some (.int .u64 x0)) (c1 : w.cell? ⟨b, o + 1, none⟩ = some (.int .u64 x1)) (c2 : w.cell? ⟨b, o + 2, none⟩ = some (.int .u64 x2)) (c3 : w.cell? ⟨b, o + 3, none⟩ = some (.int .u64 x3))
    (f : ∀ j, w.frozen? ⟨b, j, none⟩ = false) :
    Calls Try.prog 17 #[.pointer (some ⟨b, o, none⟩), .agg #[.int .u64 y0, .int .u64 y1, .int .u64 y2, .int .u64 y3]] w fun r w' => r = .returned (.tuple #[]) ∧ w' = added w b o x0 x1 x2 x3 y0 y1 y2 y3 := by
  have hne : b ≠ w.heap.size := by omega
  go_enter Try.func17, Try.ntmps17
  go_wp2
  go_region
  all_goals go_wp2
  go_region
  all_goals go_wp2
  go_region
  all_goals go_wp2
  go_region
  all_goals (try go_wp2)
  all_goals go_end0
  all_goals exact ⟨rfl, rfl⟩

theorem class_yes (B B' n c : Nat) (L C : List Int) (w : World) (h : Tab w B B' n L C) (h2 : c < 68) :
    Calls Try.prog 15 #[.pointer (some ⟨B, 0, none⟩), .int .i64 c] w fun r w' => r = .returned (.tuple #[.int .u64 (C.getD (c * 2) 0), .int .u64 (C.getD (c * 2 + 1) 0), .int .i64 0]) ∧ w' = w.drew := by
  have c0 := h.cl (c * 2) (by omega)
  have c1 := h.cl (c * 2 + 1) (by omega)
  rw [show 1 + (c * 2 + 1) = 1 + c * 2 + 1 by omega] at c1
  generalize C.getD (c * 2) 0 = x at *
  generalize C.getD (c * 2 + 1) 0 = y at *
  clear h
  go_enter Try.func15, Try.ntmps15
  go_wp2_with (go_at_call 19; refine (kind_yes _ _ (by omega) (by omega)).mono ?_; rintro e w1 ⟨rfl, rfl⟩)
  go_region
  all_goals (try go_wp2)
  all_goals go_ret3
  all_goals exact ⟨rfl, rfl⟩

theorem class_no (t : Value) (c : Int) (w : World) (h : c < 0 ∨ 68 ≤ c) :
    Calls Try.prog 15 #[t, .int .i64 c] w fun r w' => r = .returned (.tuple #[.int .u64 0, .int .u64 0, .int .i64 1]) ∧ w' = w := by
  have HC := Lib.hid h
  clear h
  go_enter Try.func15, Try.ntmps15
  go_wp2_with (go_at_call 19; refine (kind_no _ _ HC.out).mono ?_; rintro e w1 ⟨rfl, rfl⟩)
  go_ret3
  exact ⟨rfl, rfl⟩

theorem p_yes (B B' n i : Nat) (L C : List Int) (w : World) (h : Tab w B B' n L C) (h1 : i < n) :
    Calls Try.prog 14 #[.pointer (some ⟨B, 0, none⟩), .int .i64 i] w fun r w' => r = .returned (.tuple #[.agg #[.int .u64 (L.getD (i * 4) 0), .int .u64 (L.getD (i * 4 + 1) 0), .int .u64 (L.getD (i * 4 + 2) 0), .int .u64 (L.getD (i * 4 + 3) 0)], .int .i64 0]) ∧ Ext w w' := by
  have hd := h.hd
  have hn := h.hn
  have hB := h.hB
  have hB' := h.hB'
  have c0 := h.ps (i * 4) (by omega)
  have c1 := h.ps (i * 4 + 1) (by omega)
  have c2 := h.ps (i * 4 + 2) (by omega)
  have c3 := h.ps (i * 4 + 3) (by omega)
  have hne : B ≠ w.heap.size := by omega
  have hne' : B' ≠ w.heap.size := by omega
  have hl := fun (c : Array Value) (t : TypeId) => (((Ext.refl w).alloc c t).cell B 0 hB).trans hd
  generalize L.getD (i * 4) 0 = x0 at *
  generalize L.getD (i * 4 + 1) 0 = x1 at *
  generalize L.getD (i * 4 + 2) 0 = x2 at *
  generalize L.getD (i * 4 + 3) 0 = x3 at *
  clear h
  go_enter Try.func14, Try.ntmps14
  go_wp2_with (go_at_call 18; refine (is_yes B B' n _ _ (hl _ _) (by omega) (by omega)).mono ?_; rintro e w1 ⟨rfl, rfl⟩)
  refine bodyPost_ret (v := .tuple #[.agg #[.int .u64 x0, .int .u64 x1, .int .u64 x2, .int .u64 x3], .int .i64 0]) (by simp [results, Try.results14, go_sem]) rfl ⟨rfl, ?_⟩
  exact (Ext.refl _).alloc _ _

end Go.Proofs.Ytdklcflclpmcbaa
