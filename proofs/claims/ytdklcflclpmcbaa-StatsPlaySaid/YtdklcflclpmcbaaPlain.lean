/- A table of counts in memory; how memory may grow. -/
import Derived.WalkKit
import Derived.WalkLawsBesides
import Derived.Lib.Hide
namespace Go.Proofs.Ytdklcflclpmcbaa
open Go.RowKit

/-- memory has new blocks at most; of what was there nothing turns. -/
structure Ext (W w : World) : Prop where
  below : Below W.heap.size W w
  frozen : ∀ a, w.frozen? a = W.frozen? a

theorem Ext.refl (W : World) : Ext W W := ⟨Below.refl _ _, fun _ => rfl⟩
theorem Ext.size {W w : World} (h : Ext W w) : W.heap.size ≤ w.heap.size := h.below.size
theorem Ext.trans {a b c : World} (h : Ext a b) (k : Ext b c) : Ext a c :=
  ⟨h.below.trans (k.below.mono h.size), fun x => (k.frozen x).trans (h.frozen x)⟩
theorem Ext.alloc {W w : World} (h : Ext W w) (c : Array Value) (t : TypeId) : Ext W (w.alloc (.cells c t)) :=
  ⟨h.below.alloc h.size _, fun a => (frozen?_alloc_cells w c t a).trans (h.frozen a)⟩
theorem Ext.setCell {W w : World} (h : Ext W w) {p : Addr} (hp : W.heap.size ≤ p.block) (u : Value) : Ext W (w.setCell p u) :=
  ⟨h.below.setCell hp u, fun a => (World.frozen?_setCell _ _ _ _).trans (h.frozen a)⟩
theorem Ext.drew {W w : World} (h : Ext W w) : Ext W w.drew := ⟨h.below.drew, h.frozen⟩
theorem Ext.grown {W w : World} (h : Ext W w) : Grown W w := ⟨h.below.frame _, h.frozen, h.size⟩
theorem Ext.cell {W w : World} (h : Ext W w) (b o : Nat) (hb : b < W.heap.size) : w.cell? ⟨b, o, none⟩ = W.cell? ⟨b, o, none⟩ := h.below.cell (p := ⟨b, o, none⟩) hb

theorem frozen_none (w : World) (b o : Nat) (h : w.heap.size ≤ b) : w.frozen? ⟨b, o, none⟩ = false := by
  have e : w.heap[b]? = none := by simp [h]
  simp [World.frozen?, e]

theorem ne_block {b b' o o' : Nat} (h : b ≠ b') : (⟨b, o, none⟩ : Addr) ≠ ⟨b', o', none⟩ := fun e => h (congrArg Addr.block e)
theorem ne_off {b b' o o' : Nat} (h : o ≠ o') : (⟨b, o, none⟩ : Addr) ≠ ⟨b', o', none⟩ := fun e => h (congrArg Addr.off e)
theorem set_other {w : World} {a b : Addr} {v : Value} (h : a ≠ b) : (w.setCell a v).cell? b = w.cell? b := by
  first
    | exact World.cell?_setCell_other _ _ h
    | exact World.cell?_setCell_other _ h
    | exact World.cell?_setCell_other _ _ _ h
    | exact World.cell?_setCell_other _ _ _ _ h
theorem set_same {w : World} {a : Addr} {v u : Value} (h : w.cell? a = some u) : (w.setCell a v).cell? a = some v := by
  first
    | exact World.cell?_setCell_same _ _ h
    | exact World.cell?_setCell_same _ h
    | exact World.cell?_setCell_same _ _ _ h

/-- a table: its head and the classes' counts lie in block B, the Ps' counts in block B'. -/
structure Tab (w : World) (B B' n : Nat) (L C : List Int) : Prop where
  hn : n ≤ 64
  hne : B ≠ B'
  hB : B < w.heap.size
  hB' : B' < w.heap.size
  hd : w.cell? ⟨B, 0, none⟩ = some (.slice (some ⟨B', 0, none⟩) n n)
  hL : L.length = n * 4
  hC : C.length = 136
  cl : ∀ j, j < 136 → w.cell? ⟨B, 1 + j, none⟩ = some (.int .u64 (C.getD j 0))
  ps : ∀ j, j < n * 4 → w.cell? ⟨B', j, none⟩ = some (.int .u64 (L.getD j 0))
  fB : ∀ j, w.frozen? ⟨B, j, none⟩ = false
  fB' : ∀ j, w.frozen? ⟨B', j, none⟩ = false

theorem getD_set_same {l : List Int} {j : Nat} {v : Int} (h : j < l.length) : (l.set j v).getD j 0 = v := by
  simp [List.getD, h]
theorem getD_set_other {l : List Int} {j k : Nat} {v : Int} (h : j ≠ k) : (l.set j v).getD k 0 = l.getD k 0 := by
  simp [List.getD, List.getElem?_set, h]

theorem Tab.setP {w : World} {B B' n : Nat} {L C : List Int} (h : Tab w B B' n L C) {j : Nat} (hj : j < n * 4) (v : Int) :
    Tab (w.setCell ⟨B', j, none⟩ (.int .u64 v)) B B' n (L.set j v) C where
  hn := h.hn
  hne := h.hne
  hB := by simpa using h.hB
  hB' := by simpa using h.hB'
  hd := (set_other (ne_block h.hne.symm)).trans h.hd
  hL := by simpa using h.hL
  hC := h.hC
  cl := fun k hk => (set_other (ne_block h.hne.symm)).trans (h.cl k hk)
  ps := fun k hk => by
    by_cases e : j = k
    · subst e; rw [set_same (h.ps j hk), getD_set_same (by rw [h.hL]; exact hk)]
    · rw [set_other (ne_off e), getD_set_other e]; exact h.ps k hk
  fB := fun k => (World.frozen?_setCell _ _ _ _).trans (h.fB k)
  fB' := fun k => (World.frozen?_setCell _ _ _ _).trans (h.fB' k)

theorem Tab.setC {w : World} {B B' n : Nat} {L C : List Int} (h : Tab w B B' n L C) {j : Nat} (hj : j < 136) (v : Int) :
    Tab (w.setCell ⟨B, 1 + j, none⟩ (.int .u64 v)) B B' n L (C.set j v) where
  hn := h.hn
  hne := h.hne
  hB := by simpa using h.hB
  hB' := by simpa using h.hB'
  hd := (set_other (ne_off (by omega))).trans h.hd
  hL := h.hL
  hC := by simpa using h.hC
  cl := fun k hk => by
    by_cases e : j = k
    · subst e; rw [set_same (h.cl j hk), getD_set_same (by rw [h.hC]; exact hk)]
    · rw [set_other (ne_off (by omega)), getD_set_other e]; exact h.cl k hk
  ps := fun k hk => (set_other (ne_block h.hne)).trans (h.ps k hk)
  fB := fun k => (World.frozen?_setCell _ _ _ _).trans (h.fB k)
  fB' := fun k => (World.frozen?_setCell _ _ _ _).trans (h.fB' k)

theorem Tab.drew {w : World} {B B' n : Nat} {L C : List Int} (h : Tab w B B' n L C) : Tab w.drew B B' n L C :=
  ⟨h.hn, h.hne, h.hB, h.hB', h.hd, h.hL, h.hC, h.cl, h.ps, h.fB, h.fB'⟩

theorem Tab.later {w w' : World} {B B' n : Nat} {L C : List Int} (h : Tab w B B' n L C) (hx : Ext w w') : Tab w' B B' n L C where
  hn := h.hn
  hne := h.hne
  hB := Nat.lt_of_lt_of_le h.hB hx.size
  hB' := Nat.lt_of_lt_of_le h.hB' hx.size
  hd := (hx.cell _ _ h.hB).trans h.hd
  hL := h.hL
  hC := h.hC
  cl := fun k hk => (hx.cell _ _ h.hB).trans (h.cl k hk)
  ps := fun k hk => (hx.cell _ _ h.hB').trans (h.ps k hk)
  fB := fun k => (hx.frozen _).trans (h.fB k)
  fB' := fun k => (hx.frozen _).trans (h.fB' k)

/-- nothing but the two blocks, and new ones, turns. -/
def Keeps (B B' : Nat) (w w' : World) : Prop := ∀ W, Ext W w → W.heap.size ≤ B → W.heap.size ≤ B' → Ext W w'

theorem Keeps.refl (B B' : Nat) (w : World) : Keeps B B' w w := fun _ h _ _ => h
theorem Keeps.trans {B B' : Nat} {a b c : World} (h : Keeps B B' a b) (k : Keeps B B' b c) : Keeps B B' a c :=
  fun W hx h1 h2 => k W (h W hx h1 h2) h1 h2
theorem Keeps.ext {B B' : Nat} {a b : World} (h : Ext a b) : Keeps B B' a b := fun W hx _ _ => hx.trans h

/-- one more, in 64 bits. -/
def plus (x y : Int) : Int := IntKind.u64.wrap (x + y)

def mallocL (L : List Int) (i : Nat) (b : Int) : List Int := (L.set (i * 4) (plus (L.getD (i * 4) 0) 1)).set (i * 4 + 2) (plus (L.getD (i * 4 + 2) 0) b)
def freeL (L : List Int) (i : Nat) (b : Int) : List Int := (L.set (i * 4 + 1) (plus (L.getD (i * 4 + 1) 0) 1)).set (i * 4 + 3) (plus (L.getD (i * 4 + 3) 0) b)
def mallocC (C : List Int) (c : Nat) : List Int := C.set (c * 2) (plus (C.getD (c * 2) 0) 1)
def freeC (C : List Int) (c : Nat) : List Int := C.set (c * 2 + 1) (plus (C.getD (c * 2 + 1) 0) 1)

end Go.Proofs.Ytdklcflclpmcbaa
