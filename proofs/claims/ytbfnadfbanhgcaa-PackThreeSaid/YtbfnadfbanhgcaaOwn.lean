/- The contracts of own and kept: a list of the statements' own, with a mark behind it. -/
import Derived.Test.YtbfnadfbanhgcaaAlike
import Derived.Test.YtbfnadfbanhgcaaOff
namespace Go.Proofs.Ytbfnadfbanhgcaa
open Go.RowKit
set_option linter.unusedVariables false

theorem info25' : (Try.prog.info? 25).map (fun i => (i.zero, i.size, i.bytes)) = some (some (.agg #[.int .i64 0, .int .i64 0, .int .i64 0]), 3, 24) := by kernel_rfl

theorem Ext.off {W w w' : World} (h : Ext W w) {B : Nat} (k : Off B w w') (hB : W.heap.size ≤ B) : Ext W w' :=
  ⟨h.below.trans (k.below.mono hB), fun x => (k.frozen x).trans (h.frozen x)⟩

theorem Ext.drewN {W w : World} (h : Ext W w) (n : Nat) : Ext W (w.drewN n) := ⟨⟨h.below.os, h.below.tape, h.below.output, h.below.size, h.below.block⟩, h.frozen⟩

theorem rowCells_one (l : List Sm) : ∀ u ∈ rowCells l, u.oneCell' = true := by
  intro u hu
  simp only [rowCells, List.mem_flatMap] at hu
  obtain ⟨x, -, hu⟩ := hu
  simp [Sm.three] at hu
  rcases hu with rfl | rfl | rfl <;> rfl

theorem rowCells_cells {w : World} {b off : Nat} {l : List Sm} (h : SumsAt w b off l) : ∀ j u, (rowCells l)[j]? = some u → w.cell? ((⟨b, off, none⟩ : Addr).add j) = some u := by
  intro j u hu
  rw [Addr.add_lit]
  have hj : j < l.length * 3 := by rw [← rowCells_len]; exact (List.getElem?_eq_some_iff.1 hu).1
  have hi : j / 3 < l.length := by omega
  obtain ⟨a, b', c⟩ := rowCells_at l (j / 3) hi
  obtain ⟨ha, hb, hc⟩ := h (j / 3) hi
  have hm : j % 3 = 0 ∨ j % 3 = 1 ∨ j % 3 = 2 := by omega
  rcases hm with hm | hm | hm
  · rw [show j / 3 * 3 = j by omega, hu] at a
    rw [show off + j / 3 * 3 = off + j by omega] at ha
    rw [ha]; exact a.symm
  · rw [show j / 3 * 3 + 1 = j by omega, hu] at b'
    rw [show off + j / 3 * 3 + 1 = off + j by omega] at hb
    rw [hb]; exact b'.symm
  · rw [show j / 3 * 3 + 2 = j by omega, hu] at c
    rw [show off + j / 3 * 3 + 2 = off + j by omega] at hc
    rw [hc]; exact c.symm

theorem src_of_sl {w : World} {v : Value} {l : List Sm} (h : SlAt w v l) : Src w 3 v l.length (rowCells l) := by
  rcases h with ⟨rfl, rfl⟩ | ⟨b, off, cap, rfl, hb, hc⟩
  · exact .inl ⟨rfl, rfl, rfl⟩
  · exact .inr ⟨_, _, rfl, rowCells_len l, rowCells_cells hc⟩

/-- a list of one's own with a mark behind. -/
def OwnAt (W w : World) (v : Value) (l : List Sm) : Prop :=
  ∃ g cap, v = .slice (some ⟨g, 0, none⟩) l.length cap ∧ l.length < cap ∧ cap ≤ maxLen ∧ W.heap.size ≤ g ∧ g < w.heap.size ∧ SumsAt w g 0 (l ++ [⟨171, 0, 0⟩])

theorem OwnAt.ext {W w w' : World} {v : Value} {l : List Sm} (h : OwnAt W w v l) (hx : Ext w w') : OwnAt W w' v l := by
  obtain ⟨g, cap, h1, h2, h3, h4, h5, h6⟩ := h
  exact ⟨g, cap, h1, h2, h3, h4, Nat.lt_of_lt_of_le h5 hx.size, h6.ext h5 hx⟩

theorem OwnAt.sl {W w : World} {v : Value} {l : List Sm} (h : OwnAt W w v l) : SlAt w v l := by
  obtain ⟨g, cap, rfl, h2, h3, h4, h5, h6⟩ := h
  refine .inr ⟨g, 0, cap, rfl, h5, fun i hi => ?_⟩
  have := h6 i (by simp; omega)
  simpa [List.getElem_append_left hi] using this

theorem sums_of_owns {w : World} {B g cap : Nat} {l : List Sm} (h : w.ownsRow B 25 3 (.slice (some ⟨g, 0, none⟩) l.length cap) l.length (rowCells l)) : SumsAt w g 0 l := by
  have hc := h.cells (g := g) rfl
  intro i hi
  obtain ⟨a, b, c⟩ := rowCells_at l i hi
  have ha := hc _ _ a
  have hb := hc _ _ b
  have hd := hc _ _ c
  rw [Addr.add_lit] at ha hb hd
  exact ⟨ha, hb, hd⟩

def OwnPost (W : World) (l : List Sm) (r : Ending) (w : World) : Prop := ∃ v, r = .returned v ∧ Ext W w ∧ OwnAt W w v l

theorem src_mark (w : World) : Src (w.alloc (.cells #[.int .i64 171, .int .i64 0, .int .i64 0] 25)) 3 (.slice (some ⟨w.heap.size, 0, none⟩) 1 1) 1 (Sm.three ⟨171, 0, 0⟩) := by
  refine .inr ⟨_, _, rfl, rfl, fun j u hu => ?_⟩
  match j, hu with
  | 0, hu => simp [Sm.three] at hu; subst hu; simp [Addr.add]
  | 1, hu => simp [Sm.three] at hu; subst hu; simp [Addr.add]
  | 2, hu => simp [Sm.three] at hu; subst hu; simp [Addr.add]

set_option maxHeartbeats 1000000 in
theorem own_nil  (w : World) (H : Hid (SlAt w (.slice none 0 0) [])) : Calls Try.prog 10 #[.slice none 0 0] w (OwnPost w []) := by
  obtain ⟨i0, hi, hz0, hz1, hz2⟩ := info_parts info25'
  go_enter Try.func10, Try.ntmps10
  go_wp2_with (first | (at_builtin; refine wpList_append_off w.heap.size _ rfl (.tmp 3) (.tmp 4) 22 rfl 25 i0 _ 3 24 Try.underlying22 hi hz0 hz1 hz2 rfl (by decide) _ 0 [] (by rfl) (owns_empty w _ _ _ (Nat.le_refl _)) (.slice none 0 0) 0 (rowCells []) (by rfl) (by exact src_of_sl (H.out.ext ((Ext.refl _).alloc _ _))) (rowCells_one []) (by unfold maxLen; omega) (by omega) (by simp) ?_) | fail)
  intro v1 w1 hown1 hoff1
  have HX1 := Lib.hid (((Ext.refl w).alloc #[] 25).off hoff1 (Nat.le_refl _))
  try simp only [Nat.zero_add, List.nil_append] at hown1
  have HO1 := Lib.hid hown1
  clear hown1 hoff1
  have hsz := HX1.out.size
  go_wp2_with (first | (at_builtin; refine wpList_append_off w.heap.size _ rfl (.tmp 5) (.tmp 7) 22 rfl 25 i0 _ 3 24 Try.underlying22 hi hz0 hz1 hz2 rfl (by decide) v1 0 (rowCells []) (by rfl) (by exact HO1.out.alloc _) (.slice (some ⟨w1.heap.size, 0, none⟩) 1 1) 1 (Sm.three ⟨171, 0, 0⟩) (by rfl) (by exact src_mark w1) (by intro u hu; simp [Sm.three] at hu; rcases hu with rfl | rfl <;> rfl) (by unfold maxLen; omega) (by omega) (by simp; omega) ?_) | fail)
  intro v2 w2 hown2 hoff2
  have HX2 := Lib.hid ((HX1.out.alloc #[.int .i64 171, .int .i64 0, .int .i64 0] 25).off hoff2 (Nat.le_refl _))
  rw [rowCells_snoc, show 1 = ([] ++ [(⟨171, 0, 0⟩ : Sm)]).length by simp] at hown2
  obtain ⟨g, cap, cur, rfl, hbg, hg, hnc, hcm, -⟩ : ∃ g cap cur, v2 = .slice (some ⟨g, 0, none⟩) ([] ++ [(⟨171, 0, 0⟩ : Sm)]).length cap ∧ w.heap.size ≤ g ∧ w2.heap[g]? = some (.cells cur 25 (0, 0)) ∧ ([] ++ [(⟨171, 0, 0⟩ : Sm)]).length ≤ cap ∧ cap ≤ maxLen ∧ True := by
    rcases hown2.2 with ⟨-, h0⟩ | ⟨g, cap, cur, h1, h2, h3, h4, h5, -⟩
    · simp at h0
    · exact ⟨g, cap, cur, h1, h2, h3, h4, h5, trivial⟩
  have HS := Lib.hid (sums_of_owns hown2)
  have HG := Lib.hid (Array.getElem?_eq_some_iff.1 hg).1
  have hnc' : 0 < cap := by have := hnc; simp at this; omega
  clear hown2 hoff2 hg HO1
  unfold maxLen at hcm
  go_wp2
  go_ret
  exact ⟨_, rfl, HX2.out, g, cap, rfl, hnc', hcm, hbg, HG.out, HS.out⟩

set_option maxHeartbeats 1000000 in
theorem own_row (l : List Sm) (b off cap0 : Nat) (w : World) (hl : l.length ≤ 100) (H : Hid (SlAt w (.slice (some ⟨b, off, none⟩) l.length cap0) l)) : Calls Try.prog 10 #[.slice (some ⟨b, off, none⟩) l.length cap0] w (OwnPost w l) := by
  obtain ⟨i0, hi, hz0, hz1, hz2⟩ := info_parts info25'
  go_enter Try.func10, Try.ntmps10
  go_wp2_with (first | (at_builtin; refine wpList_append_off w.heap.size _ rfl (.tmp 3) (.tmp 4) 22 rfl 25 i0 _ 3 24 Try.underlying22 hi hz0 hz1 hz2 rfl (by decide) _ 0 [] (by rfl) (owns_empty w _ _ _ (Nat.le_refl _)) (.slice (some ⟨b, off, none⟩) l.length cap0) l.length (rowCells l) (by rfl) (by exact src_of_sl (H.out.ext ((Ext.refl _).alloc _ _))) (rowCells_one l) (by unfold maxLen; omega) (by omega) (by simp) ?_) | fail)
  intro v1 w1 hown1 hoff1
  have HX1 := Lib.hid (((Ext.refl w).alloc #[] 25).off hoff1 (Nat.le_refl _))
  try simp only [Nat.zero_add, List.nil_append] at hown1
  have HO1 := Lib.hid hown1
  clear hown1 hoff1
  have hsz := HX1.out.size
  go_wp2_with (first | (at_builtin; refine wpList_append_off w.heap.size _ rfl (.tmp 5) (.tmp 7) 22 rfl 25 i0 _ 3 24 Try.underlying22 hi hz0 hz1 hz2 rfl (by decide) v1 l.length (rowCells l) (by rfl) (by exact HO1.out.alloc _) (.slice (some ⟨w1.heap.size, 0, none⟩) 1 1) 1 (Sm.three ⟨171, 0, 0⟩) (by rfl) (by exact src_mark w1) (by intro u hu; simp [Sm.three] at hu; rcases hu with rfl | rfl <;> rfl) (by unfold maxLen; omega) (by omega) (by simp; omega) ?_) | fail)
  intro v2 w2 hown2 hoff2
  have HX2 := Lib.hid ((HX1.out.alloc #[.int .i64 171, .int .i64 0, .int .i64 0] 25).off hoff2 (Nat.le_refl _))
  rw [rowCells_snoc, show l.length + 1 = (l ++ [(⟨171, 0, 0⟩ : Sm)]).length by simp] at hown2
  obtain ⟨g, cap, cur, rfl, hbg, hg, hnc, hcm, -⟩ : ∃ g cap cur, v2 = .slice (some ⟨g, 0, none⟩) (l ++ [(⟨171, 0, 0⟩ : Sm)]).length cap ∧ w.heap.size ≤ g ∧ w2.heap[g]? = some (.cells cur 25 (0, 0)) ∧ (l ++ [(⟨171, 0, 0⟩ : Sm)]).length ≤ cap ∧ cap ≤ maxLen ∧ True := by
    rcases hown2.2 with ⟨-, h0⟩ | ⟨g, cap, cur, h1, h2, h3, h4, h5, -⟩
    · simp at h0
    · exact ⟨g, cap, cur, h1, h2, h3, h4, h5, trivial⟩
  have HS := Lib.hid (sums_of_owns hown2)
  have HG := Lib.hid (Array.getElem?_eq_some_iff.1 hg).1
  have hnc' : l.length < cap := by have := hnc; simp at this; omega
  clear hown2 hoff2 hg HO1
  unfold maxLen at hcm
  go_wp2
  go_ret
  exact ⟨_, rfl, HX2.out, g, cap, rfl, hnc', hcm, hbg, HG.out, HS.out⟩

theorem own_any (v : Value) (l : List Sm) (w : World) (h : SlAt w v l) (hl : l.length ≤ 100) : Calls Try.prog 10 #[v] w (OwnPost w l) := by
  have h' := h
  rcases h with ⟨rfl, rfl⟩ | ⟨b, off, cap, rfl, hb, hc⟩
  · exact own_nil w (Lib.hid h')
  · exact own_row l b off cap w hl (Lib.hid h')

end Go.Proofs.Ytbfnadfbanhgcaa
