/- The contract of a scheduler's Go: where no step is done. -/
import Derived.Test.YtfgfbmmidijgoaaGoP
namespace Go.Proofs.Ytfgfbmmidijgoaa
open Go.RowKit
set_option linter.unusedVariables false

/-- the memory of Go behind Enabled: the receiver's box, the result's cell. -/
structure GoAt (w w3 : World) (b : Nat) : Prop where
  p : w3.cell? ⟨w.heap.size, 0, none⟩ = some (.pointer (some ⟨b, 0, none⟩))
  q : w3.cell? ⟨w.heap.size + 1, 0, none⟩ = some (.int .i64 0)
  f : w3.frozen? ⟨w.heap.size + 1, 0, none⟩ = false
  sz : w.heap.size + 1 + 1 ≤ w3.heap.size
  ext : Ext w w3
theorem GoAt.of {w w3 : World} {b : Nat} {tA tB : TypeId} (hx : Ext ((w.alloc (.cells #[.pointer (some ⟨b, 0, none⟩)] tA)).alloc (.cells #[.int .i64 0] tB)) w3) : GoAt w w3 b := by
  have h0 : Blk ((w.alloc (.cells #[.pointer (some ⟨b, 0, none⟩)] tA)).alloc (.cells #[.int .i64 0] tB)) w.heap.size tA #[.pointer (some ⟨b, 0, none⟩)] := (Blk.new w tA _).alloc _
  have h1 : Blk ((w.alloc (.cells #[.pointer (some ⟨b, 0, none⟩)] tA)).alloc (.cells #[.int .i64 0] tB)) (w.heap.size + 1) tB #[.int .i64 0] := by
    have := Blk.new (w.alloc (.cells #[.pointer (some ⟨b, 0, none⟩)] tA)) tB #[.int .i64 0]
    rwa [World.size_alloc] at this
  have hs := hx.size
  rw [World.size_alloc, World.size_alloc] at hs
  exact ⟨(h0.later hx).cell 0, (h1.later hx).cell 0, (h1.later hx).frozen 0, hs, (((Ext.refl w).alloc _ _).alloc _ _).trans hx⟩

theorem SchIs.over_cell {w : World} {b : Nat} {F : Nat → Prop} {s : Sc} (h : SchIs w b F s) : w.cell? ⟨b, 4, none⟩ = some (.bool s.over) ∧ b < w.heap.size ∧ w.frozen? ⟨b, 4, none⟩ = false := by
  obtain ⟨⟨tv, sv, vals, bl, bc, nl, nc, h1⟩, h2⟩ := h
  exact ⟨h1.blk.cell 4, h1.blk.lt, h1.blk.frozen 4⟩

set_option maxHeartbeats 1600000 in
theorem go_over (b : Nat) (F : Nat → Prop) (s : Sc) (pick : Int) (w : World) (h : SchIs w b F s) (ho : s.over = true) :
    Calls Try.prog 14 #[.pointer (some ⟨b, 0, none⟩), .int .i64 pick] w fun e w' => e = .returned (.tuple #[.int .i64 0, .int .i64 20]) ∧ Ext w w' := by
  have HS := Lib.hid h
  have HO := Lib.hid ho
  clear h ho
  go_enter_defers Try.func14, Try.ntmps14
  go_wp2_with (first
    | (go_at_call 13; refine (enabled_any b F s _ (HS.out.later (((Ext.refl w).alloc _ _).alloc _ _))).mono ?_; rintro r w3 ⟨v, rfl, hR⟩; have hG := GoAt.of hR.ext; have d4 := (HS.out.later hG.ext).over_cell.1; rw [HO.out] at d4; have p0 := hG.p; have q0 := hG.q; have f0 := hG.f; have sz := hG.sz; have HX := Lib.hid hG.ext; clear hR hG))
  exact ⟨.tuple #[.int .i64 0, .int .i64 20], by simp [results, Try.results14, go_sem, q0], rfl, HX.out.setCell (by show w.heap.size ≤ w.heap.size + 1; omega) _⟩

set_option maxHeartbeats 1600000 in
theorem go_done (b : Nat) (F : Nat → Prop) (s : Sc) (pick : Int) (w : World) (h : SchIs w b F s) (ho : s.over = false) (hl : leftB s.ts = false) :
    Calls Try.prog 14 #[.pointer (some ⟨b, 0, none⟩), .int .i64 pick] w fun e w' => e = .returned (.tuple #[.int .i64 0, .int .i64 22]) ∧ Ext w w' := by
  have HS := Lib.hid h
  have HO := Lib.hid ho
  have HL := Lib.hid hl
  clear h ho hl
  go_enter_defers Try.func14, Try.ntmps14
  go_wp2_with (first
    | (go_at_call 13; refine (enabled_any b F s _ (HS.out.later (((Ext.refl w).alloc _ _).alloc _ _))).mono ?_; rintro r w3 ⟨v, rfl, hR⟩; have hG := GoAt.of hR.ext; have d4 := (HS.out.later hG.ext).over_cell.1; rw [HO.out] at d4; have p0 := hG.p; have q0 := hG.q; have f0 := hG.f; have sz := hG.sz; have HX := Lib.hid hG.ext; clear hR hG)
    | (go_at_call 29; refine (left_any b F s _ (HS.out.later HX.out)).mono ?_; rintro r w4 ⟨rfl, rfl⟩; rw [HL.out]))
  exact ⟨.tuple #[.int .i64 0, .int .i64 22], by simp [results, Try.results14, go_sem, q0], rfl, HX.out.setCell (by show w.heap.size ≤ w.heap.size + 1; omega) _⟩

set_option maxHeartbeats 1600000 in
theorem go_stuck (b : Nat) (F : Nat → Prop) (s : Sc) (pick : Int) (w : World) (h : SchIs w b F s) (ho : s.over = false) (hl : leftB s.ts = true) (he : enL s s.ts.length = []) :
    Calls Try.prog 14 #[.pointer (some ⟨b, 0, none⟩), .int .i64 pick] w fun e w' => e = .returned (.tuple #[.int .i64 0, .int .i64 21]) ∧ Ext w w' := by
  have HS := Lib.hid h
  have HO := Lib.hid ho
  have HL := Lib.hid hl
  have HE := Lib.hid he
  clear h ho hl he
  go_enter_defers Try.func14, Try.ntmps14
  go_wp2_with (first
    | (go_at_call 13; refine (enabled_any b F s _ (HS.out.later (((Ext.refl w).alloc _ _).alloc _ _))).mono ?_; rintro r w3 ⟨v, rfl, hR⟩; have hG := GoAt.of hR.ext; have d4 := (HS.out.later hG.ext).over_cell.1; rw [HO.out] at d4; have p0 := hG.p; have q0 := hG.q; have f0 := hG.f; have sz := hG.sz; have HX := Lib.hid hG.ext; have hrow := hR.row; rw [HE.out] at hrow; obtain ⟨pv, capv, rfl, -, -, -⟩ := owns_form hrow; simp only [List.length_nil]; clear hR hG hrow)
    | (go_at_call 29; refine (left_any b F s _ (HS.out.later HX.out)).mono ?_; rintro r w4 ⟨rfl, rfl⟩; rw [HL.out]))
  exact ⟨.tuple #[.int .i64 0, .int .i64 21], by simp [results, Try.results14, go_sem, q0], rfl, HX.out.setCell (by show w.heap.size ≤ w.heap.size + 1; omega) _⟩

end Go.Proofs.Ytfgfbmmidijgoaa
