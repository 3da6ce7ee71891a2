/- What alike lays and writes: four rows of its own. -/
import Derived.Test.YtfgfbmmidijgoaaPlays
namespace Go.Proofs.Ytfgfbmmidijgoaa
open Go.RowKit
set_option linter.unusedVariables false

/-- the first k are x. -/
def FirstK (x : Int) (k : Nat) (xs : List Value) : Prop := ∀ j, j < k → xs[j]? = some (.int .i64 x)
theorem FirstK.set {x : Int} {k : Nat} {xs : List Value} (h : FirstK x k xs) (hk : k < xs.length) : FirstK x (k + 1) (xs.set k (.int .i64 x)) := by
  intro j hj
  rw [List.getElem?_set]
  by_cases e : k = j
  · rw [if_pos e, if_pos hk]
  · rw [if_neg e]; exact h j (by omega)
theorem FirstK.snoc {x : Int} {k : Nat} {xs : List Value} (h : FirstK x k xs) (hk : xs.length = k) : FirstK x (k + 1) (xs ++ [.int .i64 x]) := by
  intro j hj
  by_cases e : j < k
  · rw [List.getElem?_append_left (by omega)]; exact h j e
  · rw [List.getElem?_append_right (by omega), show j - xs.length = 0 by omega]; rfl

/-- a row of ints in a block from lo to below hi. -/
def RowIn (w : World) (lo hi : Nat) (v : Value) (n : Nat) (xs : List Value) : Prop := w.ownsRow lo 3 1 v n xs ∧ ∀ g, v.ownBlock = some g → g < hi
theorem RowIn.new {w w' : World} {v : Value} {n : Nat} {xs : List Value} (h : w'.ownsRow w.heap.size 3 1 v n xs) : RowIn w' w.heap.size w'.heap.size v n xs := ⟨h, fun g hg => (owns_lt h g hg).2⟩
theorem RowIn.later {w w' : World} {lo hi : Nat} {v : Value} {n : Nat} {xs : List Value} (h : RowIn w lo hi v n xs) (hx : Ext w w') : RowIn w' lo hi v n xs := ⟨owns_later h.1 hx.below, h.2⟩
/-- a cell is written, in a block elsewhere. -/
theorem RowIn.far {w : World} {lo hi g o : Nat} {v u : Value} {n : Nat} {xs : List Value} (h : RowIn w lo hi v n xs) (hg : g < lo ∨ hi ≤ g) : RowIn (w.setCell ⟨g, o, none⟩ u) lo hi v n xs :=
  ⟨owns_blocks h.1 fun k hk => Below.heap_setCell w ⟨g, o, none⟩ u k fun (e : k = g) => by have h1 := (owns_lt h.1 k hk).1; have h2 := h.2 k hk; omega, h.2⟩
theorem RowIn.set {w : World} {lo hi g cap j : Nat} {u : Value} {n : Nat} {xs : List Value} (h : RowIn w lo hi (.slice (some ⟨g, 0, none⟩) n cap) n xs) : RowIn (w.setCell ⟨g, j, none⟩ u) lo hi (.slice (some ⟨g, 0, none⟩) n cap) n (xs.set j u) :=
  ⟨(h.1.stored j u).1, h.2⟩
theorem RowIn.at_ {w : World} {lo hi : Nat} {v : Value} {n : Nat} {xs : List Value} (h : RowIn w lo hi v n xs) (hn : 0 < n) : ∃ g cap, v = .slice (some ⟨g, 0, none⟩) n cap ∧ lo ≤ g ∧ g < hi ∧ g < w.heap.size ∧ (∀ j, w.frozen? ⟨g, j, none⟩ = false) ∧ ∀ j, j < n → w.cell? ⟨g, j, none⟩ = xs[j]? := by
  have h2 := h.2
  obtain ⟨p, cap, rfl, h3, h4, hp⟩ := owns_form h.1
  rcases hp with hp | ⟨g, rfl, hlo, hg⟩
  · omega
  · exact ⟨g, cap, rfl, hlo, h2 g rfl, hg, h.1.frozenAt, fun j hj => h.1.cellAt j (by omega)⟩

structure Q4 (w0 wr : World) (n1 n2 n3 n4 n5 : Nat) (va vb vc vd : Value) (n m k : Nat) : Prop where
  ext : Ext w0 wr
  l1 : w0.heap.size ≤ n1
  l2 : n1 ≤ n2
  l3 : n2 ≤ n3
  l4 : n3 ≤ n4
  l5 : n4 ≤ n5
  l6 : n5 ≤ wr.heap.size
  a : ∃ xs, RowIn wr n1 n2 va n xs ∧ FirstK 201 k xs
  b : ∃ xs, RowIn wr n2 n3 vb n xs ∧ FirstK 202 k xs
  c : ∃ xs, RowIn wr n3 n4 vc m xs
  d : ∃ xs, RowIn wr n4 n5 vd m xs

section
variable {w0 wr : World} {n1 n2 n3 n4 n5 : Nat} {va vb vc vd : Value} {n m k : Nat}
theorem Q4.ab {ga gb capa capb : Nat} (h : Q4 w0 wr n1 n2 n3 n4 n5 (.slice (some ⟨ga, 0, none⟩) n capa) (.slice (some ⟨gb, 0, none⟩) n capb) vc vd n m k) (hk : k < n) :
    Q4 w0 ((wr.setCell ⟨ga, k, none⟩ (.int .i64 201)).setCell ⟨gb, k, none⟩ (.int .i64 202)) n1 n2 n3 n4 n5 (.slice (some ⟨ga, 0, none⟩) n capa) (.slice (some ⟨gb, 0, none⟩) n capb) vc vd n m (k + 1) := by
  obtain ⟨e, l1, l2, l3, l4, l5, l6, ⟨xa, ha, fa⟩, ⟨xb, hb, fb⟩, ⟨xc, hc⟩, ⟨xd, hd⟩⟩ := h
  have a1 := (owns_lt ha.1 ga rfl).1
  have a2 := ha.2 ga rfl
  have b1 := (owns_lt hb.1 gb rfl).1
  have b2 := hb.2 gb rfl
  have hla : xa.length = n := by have := ha.1.1; omega
  have hlb : xb.length = n := by have := hb.1.1; omega
  refine ⟨(e.setCell (p := ⟨ga, k, none⟩) (by show _ ≤ ga; omega) _).setCell (p := ⟨gb, k, none⟩) (by show _ ≤ gb; omega) _, l1, l2, l3, l4, l5, by rw [World.size_setCell, World.size_setCell]; exact l6, ⟨_, ha.set.far (.inr (by omega)), fa.set (by omega)⟩, ⟨_, (hb.far (.inl (by omega))).set, fb.set (by omega)⟩, ⟨_, (hc.far (.inl (by omega))).far (.inl (by omega))⟩, ⟨_, (hd.far (.inl (by omega))).far (.inl (by omega))⟩⟩
theorem Q4.cd {gc gd capc capd q : Nat} (h : Q4 w0 wr n1 n2 n3 n4 n5 va vb (.slice (some ⟨gc, 0, none⟩) m capc) (.slice (some ⟨gd, 0, none⟩) m capd) n m k) (x y : Value) :
    Q4 w0 ((wr.setCell ⟨gc, q, none⟩ x).setCell ⟨gd, q, none⟩ y) n1 n2 n3 n4 n5 va vb (.slice (some ⟨gc, 0, none⟩) m capc) (.slice (some ⟨gd, 0, none⟩) m capd) n m k := by
  obtain ⟨e, l1, l2, l3, l4, l5, l6, ⟨xa, ha, fa⟩, ⟨xb, hb, fb⟩, ⟨xc, hc⟩, ⟨xd, hd⟩⟩ := h
  have c1 := (owns_lt hc.1 gc rfl).1
  have c2 := hc.2 gc rfl
  have d1 := (owns_lt hd.1 gd rfl).1
  have d2 := hd.2 gd rfl
  refine ⟨(e.setCell (p := ⟨gc, q, none⟩) (by show _ ≤ gc; omega) _).setCell (p := ⟨gd, q, none⟩) (by show _ ≤ gd; omega) _, l1, l2, l3, l4, l5, by rw [World.size_setCell, World.size_setCell]; exact l6, ⟨_, (ha.far (.inr (by omega))).far (.inr (by omega)), fa⟩, ⟨_, (hb.far (.inr (by omega))).far (.inr (by omega)), fb⟩, ⟨_, hc.set.far (.inr (by omega))⟩, ⟨_, (hd.far (.inl (by omega))).set⟩⟩
/-- a row of which all is x, to be read. -/
def AllX (w : World) (v : Value) (n : Nat) (x : Int) : Prop := ∃ g cap, v = .slice (some ⟨g, 0, none⟩) n cap ∧ g < w.heap.size ∧ ∀ j, j < n → w.cell? ⟨g, j, none⟩ = some (.int .i64 x)
theorem all_of {w : World} {B : Nat} {v : Value} {n : Nat} {xs : List Value} {x : Int} (h : w.ownsRow B 3 1 v n xs) (hn : 0 < n) (hf : FirstK x n xs) : AllX w v n x := by
  obtain ⟨p, cap, rfl, -, -, hp⟩ := owns_form h
  rcases hp with hp | ⟨g, rfl, -, hg⟩
  · omega
  · exact ⟨g, cap, rfl, hg, fun j hj => (h.cellAt j (by omega)).trans (hf j hj)⟩
/-- both have grown. -/
theorem Q4.grown {w6 w7 : World} {va' vb' : Value} {xa xb : List Value} {ca cb : Array Value} (h : Q4 w0 wr n1 n2 n3 n4 n5 va vb vc vd n m n) (ha : RowIn wr n1 n2 va n xa) (fa : FirstK 201 n xa) (hb : RowIn wr n2 n3 vb n xb) (fb : FirstK 202 n xb)
    (ho6 : w6.ownsRow n1 3 1 va' (n + 1) (xa ++ [.int .i64 201])) (hc6 : Chg (fun i => va.ownBlock = some i) (wr.alloc (.cells ca 3)) w6) (hat : va'.ownBlock = va.ownBlock ∨ va'.ownBlock = some (wr.heap.size + 1))
    (ho7 : w7.ownsRow n2 3 1 vb' (n + 1) (xb ++ [.int .i64 202])) (hc7 : Chg (fun i => vb.ownBlock = some i) (w6.alloc (.cells cb 3)) w7) : Ext w0 w7 ∧ AllX w7 va' (n + 1) 201 ∧ AllX w7 vb' (n + 1) 202 := by
  have hla : xa.length = n := by have := ha.1.1; omega
  have hlb : xb.length = n := by have := hb.1.1; omega
  have l1 := h.l1; have l2 := h.l2; have l3 := h.l3; have l4 := h.l4; have l5 := h.l5; have l6 := h.l6
  have e6 := hc6.ext (h.ext.alloc ca 3) fun i hi => by have := (owns_lt ha.1 i hi).1; omega
  have e7 := hc7.ext (e6.alloc cb 3) fun i hi => by have := (owns_lt hb.1 i hi).1; omega
  refine ⟨e7, all_of (owns_chg (owns_later ho6 (((Ext.refl w6).alloc cb 3).below)) hc7 fun g hg hh => ?_) (by omega) (fa.snoc hla), all_of ho7 (by omega) (fb.snoc hlb)⟩
  have b1 := (owns_lt hb.1 g hh).1
  have b2 := hb.2 g hh
  rcases hat with e | e
  · rw [e] at hg
    have := ha.2 g hg
    omega
  · rw [e] at hg
    injection hg with hg
    omega
theorem Q4.start {w1 w2 w3 w4 w5 : World} {xs ys : List Value} (h1 : w0.heap.size ≤ w1.heap.size) (hx0 : Ext w0 w5) (ha : w2.ownsRow w1.heap.size 3 1 va n xs) (hb : w3.ownsRow w2.heap.size 3 1 vb n xs) (hc : w4.ownsRow w3.heap.size 3 1 vc m ys) (hd : w5.ownsRow w4.heap.size 3 1 vd m ys)
    (e1 : Ext w1 w2) (e2 : Ext w2 w3) (e3 : Ext w3 w4) (e4 : Ext w4 w5) {w6 : World} (e5 : Ext w5 w6) : Q4 w0 w6 w1.heap.size w2.heap.size w3.heap.size w4.heap.size w5.heap.size va vb vc vd n m 0 :=
  ⟨hx0.trans e5, h1, e1.size, e2.size, e3.size, e4.size, e5.size, ⟨xs, ((((RowIn.new ha).later e2).later e3).later e4).later e5, fun j hj => absurd hj (Nat.not_lt_zero _)⟩, ⟨xs, (((RowIn.new hb).later e3).later e4).later e5, fun j hj => absurd hj (Nat.not_lt_zero _)⟩, ⟨ys, ((RowIn.new hc).later e4).later e5⟩, ⟨ys, (RowIn.new hd).later e5⟩⟩
end

end Go.Proofs.Ytfgfbmmidijgoaa
