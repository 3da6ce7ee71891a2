/- Lists of classes that are filled with marks, in memory. -/
import Derived.Test.YtiocfifgfjkgfaaSame
namespace Go.Proofs.Ytiocfifgfjkgfaa
open Go.RowKit
set_option linter.unusedVariables false

/-- the list with its first k classes marked. -/
def fillL (u : Int) (k : Nat) (l : List Cl) : List Cl := List.replicate k ⟨u, 0, 0, 0⟩ ++ l.drop k

theorem fill_zero (u : Int) (l : List Cl) : fillL u 0 l = l := rfl
theorem fill_len (u : Int) {k : Nat} {l : List Cl} (h : k ≤ l.length) : (fillL u k l).length = l.length := by
  unfold fillL; simp; omega
theorem fill_next (u : Int) {k : Nat} {l : List Cl} (h : k < l.length) : (fillL u k l).set k ⟨u, 0, 0, 0⟩ = fillL u (k + 1) l := by
  unfold fillL
  rw [List.set_append_right _ _ (by simp), List.length_replicate, Nat.sub_self, List.drop_eq_getElem_cons h, List.set_cons_zero, List.replicate_succ', List.append_assoc]
  rfl
theorem fill_all (u : Int) (l : List Cl) : fillL u l.length l = List.replicate l.length ⟨u, 0, 0, 0⟩ := by
  unfold fillL; simp

theorem cls_set4 : ∀ (l : List Cl) (i : Nat) (h : i < l.length) (x : Cl), ((((cls l).set (i * 4) (.int .i64 x.a)).set (i * 4 + 1) (.int .i64 x.b)).set (i * 4 + 2) (.int .i64 x.c)).set (i * 4 + 3) (.int .u32 x.d) = cls (l.set i x)
  | y :: r, 0, h, x => by simp [cls_cons]
  | y :: r, i + 1, h, x => by
    have hr := cls_set4 r i (by simpa using h) x
    rw [cls_cons, show (i + 1) * 4 + 3 = i * 4 + 3 + 1 + 1 + 1 + 1 by omega, show (i + 1) * 4 + 2 = i * 4 + 2 + 1 + 1 + 1 + 1 by omega, show (i + 1) * 4 + 1 = i * 4 + 1 + 1 + 1 + 1 + 1 by omega, show (i + 1) * 4 = i * 4 + 1 + 1 + 1 + 1 by omega]
    simp only [List.set_cons_succ, cls_cons, hr]

theorem owns_block {w w1 : World} {base : Nat} {e : TypeId} {size : Nat} {v : Value} {n : Nat} {xs : List Value} (h : w.ownsRow base e size v n xs) (hb : ∀ g, v.ownBlock = some g → w1.heap[g]? = w.heap[g]?) : w1.ownsRow base e size v n xs := by
  refine ⟨h.1, ?_⟩
  rcases h.2 with hn | ⟨g, cap, cur, rfl, hbb, hg, rest⟩
  · exact .inl hn
  · exact .inr ⟨g, cap, cur, rfl, hbb, (hb g rfl).trans hg, rest⟩

theorem own_set4 {w : World} {B g cap n : Nat} {l : List Cl} (h : w.ownsRow B 30 4 (.slice (some ⟨g, 0, none⟩) n cap) n (cls l)) {i : Nat} (hi : i < l.length) (x : Cl) :
    ((((w.setCell ⟨g, i * 4, none⟩ (.int .i64 x.a)).setCell ⟨g, i * 4 + 1, none⟩ (.int .i64 x.b)).setCell ⟨g, i * 4 + 2, none⟩ (.int .i64 x.c)).setCell ⟨g, i * 4 + 3, none⟩ (.int .u32 x.d)).ownsRow B 30 4 (.slice (some ⟨g, 0, none⟩) n cap) n (cls (l.set i x)) := by
  have h4 := ((((h.stored (i * 4) (.int .i64 x.a)).1.stored (i * 4 + 1) (.int .i64 x.b)).1.stored (i * 4 + 2) (.int .i64 x.c)).1.stored (i * 4 + 3) (.int .u32 x.d)).1
  rw [cls_set4 l i hi x] at h4
  exact h4

/-- four cells stored in another block. -/
theorem own_far4 {w : World} {B g o n : Nat} {v : Value} {xs : List Value} (h : w.ownsRow B 30 4 v n xs) (hv : ∀ b, v.ownBlock = some b → b ≠ g) (x0 x1 x2 x3 : Value) :
    ((((w.setCell ⟨g, o, none⟩ x0).setCell ⟨g, o + 1, none⟩ x1).setCell ⟨g, o + 2, none⟩ x2).setCell ⟨g, o + 3, none⟩ x3).ownsRow B 30 4 v n xs :=
  owns_block h fun b hb => by
    have hne := hv b hb
    rw [Below.heap_setCell _ _ _ _ (by simpa using hne), Below.heap_setCell _ _ _ _ (by simpa using hne), Below.heap_setCell _ _ _ _ (by simpa using hne), Below.heap_setCell _ _ _ _ (by simpa using hne)]

theorem list_far4 {w : World} {g b o : Nat} {l : List Cl} (h : ListAt w b l) (hne : b ≠ g) (x0 x1 x2 x3 : Value) :
    ListAt ((((w.setCell ⟨g, o, none⟩ x0).setCell ⟨g, o + 1, none⟩ x1).setCell ⟨g, o + 2, none⟩ x2).setCell ⟨g, o + 3, none⟩ x3) b l where
  lt := by simpa using h.lt
  all := fun j hj => by
    rw [World.cell?_of_block (w := w) (by
      rw [Below.heap_setCell _ _ _ _ (by simpa using hne), Below.heap_setCell _ _ _ _ (by simpa using hne), Below.heap_setCell _ _ _ _ (by simpa using hne), Below.heap_setCell _ _ _ _ (by simpa using hne)])]
    exact h.all j hj

end Go.Proofs.Ytiocfifgfjkgfaa
