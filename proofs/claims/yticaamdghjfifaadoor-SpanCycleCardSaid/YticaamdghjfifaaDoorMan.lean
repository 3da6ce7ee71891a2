/- What SpanManual asks of its span. -/
import Derived.Test.YticaamdghjfifaaDoorGrp
namespace Go.Proofs.YticaamdghjfifaaDoor
open Go.RowKit
set_option linter.unusedVariables false

def sM (e n u l : Nat) : Sp := ⟨327680, 4, 2, 0, false, e, n, u, false, false, 0, l⟩

/-- the span of SpanManual, and the law's own row of truths. -/
structure MaS (W w : World) (g gu e n : Nat) (U : Nat → Bool) : Prop where
  sp : ∃ l, AwG W w g (sM e n (cntB U n) l) U noB (fun k => k = gu) ∧ (∀ j, j < l → U j = true)
  row : Blk w gu 4 (bl U n)
  high : ∀ j, n ≤ j → U j = false

theorem MaS.ext {W w : World} {g gu e n : Nat} {U : Nat → Bool} (h : MaS W w g gu e n U) : Ext W w := by
  obtain ⟨l, h1, h2⟩ := h.sp
  exact h1.ext
theorem MaS.later {W w w' : World} {g gu e n : Nat} {U : Nat → Bool} (h : MaS W w g gu e n U) (hx : Ext w w') : MaS W w' g gu e n U := by
  obtain ⟨⟨l, h1, h2⟩, h3, h4⟩ := h
  have := h1.later hx
  exact ⟨⟨l, this.1, h2⟩, h3.kept this.2 rfl, h4⟩
theorem MaS.cell {W w : World} {g gu e n : Nat} {U : Nat → Bool} (h : MaS W w g gu e n U) (j : Nat) (hj : j < n) : w.cell? ⟨gu, j, none⟩ = some (.bool (U j)) := by
  rw [h.row.cell j, bl_get U n j hj]

theorem ma_new (e n : Nat) (w : World) (h4 : 512 ≤ e) (h5 : e ≤ 32768) (hn : 32768 / e = n) :
    Calls Tryd.prog 20 #[.int .u64 40, .int .u64 4, .int .i64 e] w fun r w' => ∃ g, r = .returned (.tuple #[.pointer (some ⟨g, 0, none⟩), .int .i64 0]) ∧ MaS w (w'.alloc (.cells (bl (fun _ => false) n) 4)) g w'.heap.size e n (fun _ => false) ∧ Ext w w' := by
  refine (aw_manual 40 4 e w (by omega) (by omega) (by omega) (by omega) (by omega)).mono ?_
  rintro r w' ⟨g, rfl, h⟩
  refine ⟨g, rfl, ⟨⟨0, ?_, fun j hj => by omega⟩, Blk.new _ _ _, fun _ _ => rfl⟩, h.ext⟩
  have e1 : sM e n (cntB (fun _ => false) n) 0 = sMan 40 4 e := by
    have : cntB (fun _ => false) n = 0 := by unfold cntB swl; simp
    unfold sM sMan
    rw [this, ← hn]
  rw [e1]
  exact ((AwG.of h).row _ _).fewer fun k hk => .inr hk

theorem ma_arg {W w : World} {g gu e n : Nat} {U : Nat → Bool} (h : MaS W w g gu e n U) (i : Int) (hi : (n : Int) ≤ i) :
    Calls Tryd.prog 21 #[.pointer (some ⟨g, 0, none⟩), .int .i64 i] w fun e w' => e = .returned (.int .i64 1) ∧ w = w' := by
  obtain ⟨⟨l, h1, h2⟩, h3, h4⟩ := h
  refine g_give_arg h1 i rfl ?_
  show (decide (0 ≤ i) && decide (i < (n : Int))) = false
  rw [decide_eq_false (show ¬ i < (n : Int) by omega), Bool.and_false]
theorem ma_free {W w : World} {g gu e n : Nat} {U : Nat → Bool} (h : MaS W w g gu e n U) (i : Nat) (hi : i < n) (hu : U i = false) :
    Calls Tryd.prog 21 #[.pointer (some ⟨g, 0, none⟩), .int .i64 i] w fun e w' => e = .returned (.int .i64 31) ∧ w = w' := by
  obtain ⟨⟨l, h1, h2⟩, h3, h4⟩ := h
  exact g_give_free h1 i rfl hi hu
theorem MaS.nothing {W w : World} {g gu e n : Nat} {U : Nat → Bool} (h : MaS W w g gu e n U) (i : Nat) (hi : i < n) (hu : U i = false) : MaS W (w.setCell ⟨gu, i, none⟩ (.bool false)) g gu e n U := by
  obtain ⟨⟨l, h1, h2⟩, h3, h4⟩ := h
  refine ⟨⟨l, h1.set rfl _, h2⟩, ?_, h4⟩
  have := h3.set_ i (.bool false)
  rw [bl_set U n i false hi] at this
  rwa [bl_congr (V := U) (fun j hj => by unfold updB; split; (rename_i q; rw [q, hu]); rfl)] at this
theorem ma_give {W w : World} {g gu e n : Nat} {U : Nat → Bool} (h : MaS W w g gu e n U) (i : Nat) (hi : i < n) (hu : U i = true) :
    Calls Tryd.prog 21 #[.pointer (some ⟨g, 0, none⟩), .int .i64 i] w fun r w' => r = .returned (.int .i64 0) ∧ Ext W w' ∧ w'.cell? ⟨gu, i, none⟩ = some (.bool true) ∧ w'.frozen? ⟨gu, i, none⟩ = false ∧ MaS W (w'.setCell ⟨gu, i, none⟩ (.bool false)) g gu e n (clrB U i 1) := by
  obtain ⟨⟨l, h1, h2⟩, h3, h4⟩ := h
  refine (g_give h1 i rfl hi hu (cntB_pos U n i hi hu)).mono ?_
  rintro r w' ⟨rfl, hA, hK⟩
  have hb := h3.kept hK rfl
  refine ⟨rfl, hA.ext, by rw [hb.cell i, bl_get U n i hi, hu], hb.frozen i, ⟨min l i, ?_, fun j hj => ?_⟩, ?_, fun j hj => ?_⟩
  · have e1 : sM e n (cntB (clrB U i 1) n) (min l i) = sGive (sM e n (cntB U n) l) i := by
      rw [cntB_clr U n i hi hu]; rfl
    rw [e1]
    exact hA.set rfl _
  · rw [clrB_at, h2 j (by omega), decide_eq_false (show ¬ j = i by omega)]; rfl
  · have := hb.set_ i (.bool false)
    rw [bl_set U n i false hi] at this
    rwa [bl_congr (V := clrB U i 1) (fun j hj => by rw [clrB_at]; unfold updB; by_cases q : j = i <;> simp [q])] at this
  · rw [clrB_at, h4 j hj]; rfl
theorem ma_next {W w : World} {g gu e n : Nat} {U : Nat → Bool} (h : MaS W w g gu e n U) (ht : TzAt W) (r : Nat) (hr : r < n) (hu : U r = false) (hall : ∀ j, j < r → U j = true) :
    Calls Tryd.prog 12 #[.pointer (some ⟨g, 0, none⟩)] w fun q w' => q = .returned (.tuple #[.int .i64 r, .int .i64 0]) ∧ Ext W w' ∧ w'.frozen? ⟨gu, r, none⟩ = false ∧ (∃ x, w'.cell? ⟨gu, r, none⟩ = some (.bool x)) ∧ MaS W (w'.setCell ⟨gu, r, none⟩ (.bool true)) g gu e n (setB U r 1) := by
  obtain ⟨⟨l, h1, h2⟩, h3, h4⟩ := h
  have hlr : l ≤ r := Nat.le_of_not_lt fun hc => by rw [h2 r hc] at hu; cases hu
  refine (g_next h1 ht r (by show (2 : Nat) ≠ 0; decide) ⟨hlr, hu, fun j _ hj => hall j hj⟩ hr (cntB_lt U n r hr hu)).mono ?_
  rintro q w' ⟨rfl, hA, hK⟩
  have hb := h3.kept hK rfl
  refine ⟨rfl, hA.ext, hb.frozen r, ⟨U r, by rw [hb.cell r, bl_get U n r hr]⟩, ⟨r + 1, ?_, fun j hj => ?_⟩, ?_, fun j hj => ?_⟩
  · have e1 : sM e n (cntB (setB U r 1) n) (r + 1) = sNext (sM e n (cntB U n) l) r := by
      rw [cntB_set U n r hr hu]; rfl
    rw [e1]
    exact hA.set rfl _
  · rw [setB_at]
    by_cases q : j = r
    · simp [q]
    · rw [hall j (by omega)]; rfl
  · have := hb.set_ r (.bool true)
    rw [bl_set U n r true hr] at this
    rwa [bl_congr (V := setB U r 1) (fun j hj => by rw [setB_at]; unfold updB; by_cases q : j = r <;> simp [q])] at this
  · rw [setB_at, h4 j hj, decide_eq_false (show ¬ j = r by omega)]; rfl
theorem ma_full {W w : World} {g gu e n : Nat} {U : Nat → Bool} (h : MaS W w g gu e n U) (ht : TzAt W) (hn : n ≤ 64) (hall : ∀ j, j < n → U j = true) :
    Calls Tryd.prog 12 #[.pointer (some ⟨g, 0, none⟩)] w fun q w' => q = .returned (.tuple #[.int .i64 0, .int .i64 30]) ∧ MaS W w' g gu e n U := by
  obtain ⟨⟨l, h1, h2⟩, h3, h4⟩ := h
  have hln : l ≤ n := Nat.le_of_not_lt fun hc => by have := h2 n hc; rw [h4 n (Nat.le_refl _)] at this; cases this
  refine (g_next_full h1 ht n (by show (2 : Nat) ≠ 0; decide) ⟨hln, h4 n (Nat.le_refl _), fun j _ hj => hall j hj⟩ (Nat.le_refl _) (by omega)).mono ?_
  rintro q w' ⟨rfl, hA, hK⟩
  exact ⟨rfl, ⟨l, hA, h2⟩, h3.kept hK rfl, h4⟩
theorem ma_sweep {W w : World} {g gu e n : Nat} {U : Nat → Bool} (h : MaS W w g gu e n U) :
    Calls Tryd.prog 15 #[.pointer (some ⟨g, 0, none⟩)] w fun r w' => r = .returned (.tuple #[.slice none 0 0, .int .i64 33]) ∧ w = w' := by
  obtain ⟨⟨l, h1, h2⟩, h3, h4⟩ := h
  exact g_sweep_state h1 (by show (2 : Nat) ≠ 1; decide)
theorem ma_mark {W w : World} {g gu e n : Nat} {U : Nat → Bool} (h : MaS W w g gu e n U) (i : Int) :
    Calls Tryd.prog 14 #[.pointer (some ⟨g, 0, none⟩), .int .i64 i] w fun r w' => r = .returned (.int .i64 33) ∧ w = w' := by
  obtain ⟨⟨l, h1, h2⟩, h3, h4⟩ := h
  exact g_mark_state h1 (by show (2 : Nat) ≠ 1; decide) i
theorem ma_info {W w : World} {g gu e n : Nat} {U : Nat → Bool} (h : MaS W w g gu e n U) :
    Calls Tryd.prog 16 #[.pointer (some ⟨g, 0, none⟩)] w fun r w' => r = .returned (.agg #[.int .u64 327680, .int .i64 4, .int .i64 2, .int .i64 0, .bool false, .int .i64 e, .int .i64 n, .int .i64 (cntB U n), .bool false, .bool false]) ∧ MaS W w' g gu e n U := by
  obtain ⟨⟨l, h1, h2⟩, h3, h4⟩ := h
  refine (g_info h1).mono ?_
  rintro r w' ⟨rfl, hA, hK⟩
  exact ⟨rfl, ⟨l, hA, h2⟩, h3.kept hK rfl, h4⟩

end Go.Proofs.YticaamdghjfifaaDoor
