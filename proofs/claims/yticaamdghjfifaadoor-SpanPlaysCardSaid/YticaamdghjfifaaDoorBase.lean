/- How memory may grow: new blocks at most; cells of one's own. -/
import Derived.WalkKit
import Derived.WalkLawsBesides
import Derived.Lib.Hide
namespace Go.Proofs.YticaamdghjfifaaDoor
open Go.RowKit

/-- memory has new blocks at most; of what was there nothing turns. -/
structure Ext (W w : World) : Prop where
  below : Below W.heap.size W w
  frozen : ∀ a, w.frozen? a = W.frozen? a

theorem Ext.refl (W : World) : Ext W W := ⟨Below.refl _ _, fun _ => rfl⟩
theorem Ext.size {W w : World} (h : Ext W w) : W.heap.size ≤ w.heap.size := h.below.size
theorem Ext.trans {a b c : World} (h : Ext a b) (k : Ext b c) : Ext a c :=
  ⟨h.below.trans (k.below.mono h.size), fun x => (k.frozen x).trans (h.frozen x)⟩
theorem Ext.alloc {W w : World} (h : Ext W w) (c : Array Value) (t : TypeId) : Ext W (w.alloc (.cells c t)) :=
  ⟨h.below.alloc h.size _, fun a => (frozen?_alloc_cells w c t a).trans (h.frozen a)⟩
theorem Ext.setCell {W w : World} (h : Ext W w) {p : Addr} (hp : W.heap.size ≤ p.block) (u : Value) : Ext W (w.setCell p u) :=
  ⟨h.below.setCell hp u, fun a => (World.frozen?_setCell _ _ _ _).trans (h.frozen a)⟩
theorem Ext.drew {W w : World} (h : Ext W w) : Ext W w.drew := ⟨h.below.drew, h.frozen⟩
theorem Ext.grown {W w : World} (h : Ext W w) : Grown W w := ⟨h.below.frame _, h.frozen, h.size⟩
theorem Ext.cell {W w : World} (h : Ext W w) (b o : Nat) (hb : b < W.heap.size) : w.cell? ⟨b, o, none⟩ = W.cell? ⟨b, o, none⟩ := h.below.cell (p := ⟨b, o, none⟩) hb

theorem frozen_none (w : World) (b o : Nat) (h : w.heap.size ≤ b) : w.frozen? ⟨b, o, none⟩ = false := by
  have e : w.heap[b]? = none := by simp [h]
  simp [World.frozen?, e]

theorem ne_block {b b' o o' : Nat} (h : b ≠ b') : (⟨b, o, none⟩ : Addr) ≠ ⟨b', o', none⟩ := fun e => h (congrArg Addr.block e)
theorem ne_off {b b' o o' : Nat} (h : o ≠ o') : (⟨b, o, none⟩ : Addr) ≠ ⟨b', o', none⟩ := fun e => h (congrArg Addr.off e)
theorem set_other {w : World} {a b : Addr} {v : Value} (h : a ≠ b) : (w.setCell a v).cell? b = w.cell? b := by
  first
    | exact World.cell?_setCell_other _ _ h
    | exact World.cell?_setCell_other _ h
    | exact World.cell?_setCell_other _ _ _ h
    | exact World.cell?_setCell_other _ _ _ _ h
theorem set_same {w : World} {a : Addr} {v u : Value} (h : w.cell? a = some u) : (w.setCell a v).cell? a = some v := by
  first
    | exact World.cell?_setCell_same _ _ h
    | exact World.cell?_setCell_same _ h
    | exact World.cell?_setCell_same _ _ _ h
theorem cell_new (w : World) (A : Array Value) (t : TypeId) (j : Nat) : (w.alloc (.cells A t)).cell? ⟨w.heap.size, j, none⟩ = A[j]? := by
  simp

end Go.Proofs.YticaamdghjfifaaDoor
