/- Plain laws of summaries; no program in sight; and how memory may grow. -/
import Derived.Test.YtbfnadfbanhgcaaBase
namespace Go.Proofs.Ytbfnadfbanhgcaa
open Go.RowKit

/-- a new block of three cells, behind what came after it. -/
theorem Ext.new3 {w w1 : World} {x y z : Value} {t : TypeId} (h : Ext (w.alloc (.cells #[x, y, z] t)) w1) :
    w1.cell? ⟨w.heap.size, 0, none⟩ = some x ∧ w1.cell? ⟨w.heap.size, 1, none⟩ = some y ∧ w1.cell? ⟨w.heap.size, 2, none⟩ = some z ∧ (∀ j, w1.frozen? ⟨w.heap.size, j, none⟩ = false) ∧ w.heap.size < w1.heap.size := by
  have hs : w.heap.size < (w.alloc (.cells #[x, y, z] t)).heap.size := by simp
  refine ⟨(h.cell _ _ hs).trans ?_, (h.cell _ _ hs).trans ?_, (h.cell _ _ hs).trans ?_, fun j => (h.frozen _).trans ((frozen?_alloc_cells _ _ _ _).trans (frozen_none _ _ _ (Nat.le_refl _))), Nat.lt_of_lt_of_le hs h.size⟩ <;> simp

/-- a summary. -/
structure Sm where
  s : Int
  m : Int
  e : Int

def Sm.val (x : Sm) : Value := .agg #[.int .i64 x.s, .int .i64 x.m, .int .i64 x.e]

/-- the fields are ints. -/
def Sm.fits (x : Sm) : Prop := (-9223372036854775808 ≤ x.s ∧ x.s ≤ 9223372036854775807) ∧ (-9223372036854775808 ≤ x.m ∧ x.m ≤ 9223372036854775807) ∧ -9223372036854775808 ≤ x.e ∧ x.e ≤ 9223372036854775807

/-- 7.1. -/
def Sm.right (x : Sm) (p : Int) : Prop := (x.s = p ∧ x.m = p ∧ x.e = p) ∨ (0 ≤ x.s ∧ 0 ≤ x.e ∧ x.m < p ∧ x.s ≤ x.m ∧ x.e ≤ x.m ∧ x.s + x.e < p)

instance (x : Sm) (p : Int) : Decidable (x.right p) := by unfold Sm.right; exact inferInstance

/-- 7.1, as a Bool. -/
def rightB (s m e p : Int) : Bool := decide ((s = p ∧ m = p ∧ e = p) ∨ (0 ≤ s ∧ 0 ≤ e ∧ m < p ∧ s ≤ m ∧ e ≤ m ∧ s + e < p))
theorem rightB_yes {s m e p : Int} (h : (s = p ∧ m = p ∧ e = p) ∨ (0 ≤ s ∧ 0 ≤ e ∧ m < p ∧ s ≤ m ∧ e ≤ m ∧ s + e < p)) : Ending.returned (.bool true) = Ending.returned (.bool (rightB s m e p)) := by
  unfold rightB; rw [decide_eq_true h]
theorem rightB_no {s m e p : Int} (h : ¬ ((s = p ∧ m = p ∧ e = p) ∨ (0 ≤ s ∧ 0 ≤ e ∧ m < p ∧ s ≤ m ∧ e ≤ m ∧ s + e < p))) : Ending.returned (.bool false) = Ending.returned (.bool (rightB s m e p)) := by
  unfold rightB; rw [decide_eq_false h]

theorem rightB_last {s m e p : Int} (h : 0 ≤ s ∧ 0 ≤ e ∧ m < p ∧ s ≤ m ∧ e ≤ m) : Ending.returned (.bool (decide (s + e < p))) = Ending.returned (.bool (rightB s m e p)) := by
  by_cases c : s + e < p
  · rw [decide_eq_true c]; exact rightB_yes (by omega)
  · rw [decide_eq_false c]; exact rightB_no (by omega)

theorem rightB_eq {s m e p : Int} (h : s = p ∧ m = p) : Ending.returned (.bool (e == p)) = Ending.returned (.bool (rightB s m e p)) := by
  by_cases c : e = p
  · rw [beq_iff_eq.2 c]; exact rightB_yes (by omega)
  · rw [beq_eq_false_iff_ne.2 c]; exact rightB_no (by omega)

end Go.Proofs.Ytbfnadfbanhgcaa
