/- The contracts of a span's Mark, Give, Die, Slot. -/
import Derived.Test.YticaamdghjfifaaDoorSpan2
namespace Go.Proofs.YticaamdghjfifaaDoor
open Go.RowKit
set_option linter.unusedVariables false

/-! ### Mark -/
def markR (s : Sp) (i : Int) : Int := if s.state = 1 then (if thereB s i then 0 else 1) else 33

set_option maxHeartbeats 400000 in
theorem mark_state (b : Nat) (F : Nat → Prop) (s : Sp) (U M : Nat → Bool) (i : Int) (w : World) (h : SpanIs w b F s U M) (hd : s.state ≠ 1) :
    Calls Tryd.prog 14 #[.pointer (some ⟨b, 0, none⟩), .int .i64 i] w fun r w' => r = .returned (.int .i64 33) ∧ w = w' := by
  obtain ⟨uv, mv, nu, nm, h1, h2⟩ := h.at_
  have c2 : w.cell? ⟨b, 2, none⟩ = some (.int .i64 s.state) := h1.cells 2 (by omega)
  have k0 : ((s.state : Int) == 1) = false := beq_eq_false_iff_ne.2 (by omega)
  clear h h1 h2
  go_enter Tryd.func14, Tryd.ntmps14
  go_wp2
  go_ret
  exact ⟨rfl, rfl⟩

set_option maxHeartbeats 400000 in
theorem mark_arg (b : Nat) (F : Nat → Prop) (s : Sp) (U M : Nat → Bool) (i : Int) (w : World) (h : SpanIs w b F s U M) (hd : s.state = 1) (ht : thereB s i = false) :
    Calls Tryd.prog 14 #[.pointer (some ⟨b, 0, none⟩), .int .i64 i] w fun r w' => r = .returned (.int .i64 1) ∧ w = w' := by
  obtain ⟨uv, mv, nu, nm, h1, h2⟩ := h.at_
  have c2 : w.cell? ⟨b, 2, none⟩ = some (.int .i64 s.state) := h1.cells 2 (by omega)
  have c6 : w.cell? ⟨b, 6, none⟩ = some (.int .i64 s.slots) := h1.cells 6 (by omega)
  rw [hd] at c2
  have hA := Lib.hid ht
  have hsl := h.fit.slots
  clear h h1 h2 ht
  go_enter Tryd.func14, Tryd.ntmps14
  go_wp2_with (first | (go_at_call 30; refine (there_any b s i _ c6 hsl).mono ?_; rintro r w1 ⟨rfl, rfl⟩; rw [hA.out]))
  go_ret
  exact ⟨rfl, rfl⟩

set_option maxHeartbeats 400000 in
theorem mark_yes (b : Nat) (F : Nat → Prop) (s : Sp) (U M : Nat → Bool) (n : Nat) (w : World) (h : SpanIs w b F s U M) (hd : s.state = 1) (hn : n < s.slots) :
    Calls Tryd.prog 14 #[.pointer (some ⟨b, 0, none⟩), .int .i64 n] w fun r w' => r = .returned (.int .i64 0) ∧ Turned w b F s U (setB M n 1) w' := by
  obtain ⟨uv, mv, nu, nm, h1, h2⟩ := h.at_
  have c2 : w.cell? ⟨b, 2, none⟩ = some (.int .i64 s.state) := h1.cells 2 (by omega)
  have c6 : w.cell? ⟨b, 6, none⟩ = some (.int .i64 s.slots) := h1.cells 6 (by omega)
  have c12 : w.cell? ⟨b, 12, none⟩ = some mv := h1.cells 12 (by omega)
  rw [hd] at c2
  have hA := Lib.hid (thereB_lt hn)
  have hsl := h.fit.slots
  have HS := Lib.hid (show Calls Tryd.prog 29 #[.pointer (some ⟨b, 12, none⟩), .int .i64 n] w fun e w1 => e = .returned (.tuple #[]) ∧ Turned w b F s U (setB M n 1) w1 from by
    refine (rset_any b 12 nm n mv M w h1.mrow c12 (h1.fz 12) h1.lt (by omega)).mono ?_
    intro e w1 hp
    exact ⟨hp.1, turned_setM h1 h2 h.lt h.fit (Ext.refl w) rfl hp.2⟩)
  clear h h1 h2
  go_enter Tryd.func14, Tryd.ntmps14
  go_wp2_with (first | (go_at_call 30; refine (there_any b s n _ c6 hsl).mono ?_; rintro r w1 ⟨rfl, rfl⟩; rw [hA.out]) | (go_at_call 29; refine HS.out.mono ?_; rintro r w1 ⟨rfl, hT⟩; clear c2 c6 c12))
  go_ret
  exact ⟨rfl, hT⟩

/-! ### Die -/
def sDie (s : Sp) : Sp := { s with state := 0, used := 0 }

set_option maxHeartbeats 400000 in
theorem die_no (b : Nat) (F : Nat → Prop) (s : Sp) (U M : Nat → Bool) (w : World) (h : SpanIs w b F s U M) (hd : s.state = 0 ∨ 0 < s.used) :
    Calls Tryd.prog 22 #[.pointer (some ⟨b, 0, none⟩)] w fun r w' => r = .returned (.int .i64 33) ∧ w = w' := by
  obtain ⟨uv, mv, nu, nm, h1, h2⟩ := h.at_
  have c2 : w.cell? ⟨b, 2, none⟩ = some (.int .i64 s.state) := h1.cells 2 (by omega)
  have c7 : w.cell? ⟨b, 7, none⟩ = some (.int .i64 s.used) := h1.cells 7 (by omega)
  have hus := h.fit.used
  have hsl := h.fit.slots
  clear h h1 h2
  by_cases h0 : s.state = 0
  · rw [h0] at c2
    go_enter Tryd.func22, Tryd.ntmps22
    go_wp2
    go_ret
    exact ⟨rfl, rfl⟩
  · have k0 : ((s.state : Int) == 0) = false := beq_eq_false_iff_ne.2 (by omega)
    have k1 : decide (0 < s.used) = true := decide_eq_true (by omega)
    have k2 : 0 < s.used := by omega
    go_enter Tryd.func22, Tryd.ntmps22
    go_wp2
    go_ret
    exact ⟨rfl, rfl⟩

theorem wrow_none (w : World) (B : Nat) : WRow w B (.slice none 0 0) 0 (fun _ => false) := WRow.nil w B

/-- the used slots' row is dropped. -/
theorem turned_dropU {w w1 : World} {b : Nat} {F : Nat → Prop} {s : Sp} {U M : Nat → Bool} (h : Turned w b F s U M w1) (hb : F b) : Turned w b F s (fun _ => false) M (w1.setCell ⟨b, 11, none⟩ (.slice none 0 0)) := by
  obtain ⟨⟨⟨uv, mv, nu, nm, h1, h2⟩, h3, h4⟩, h5⟩ := h
  have e : (w1.setCell ⟨b, 11, none⟩ (.slice none 0 0)).heap.size = w1.heap.size := World.size_setCell _ _ _
  have hc : Chg (fun g => g = b) w1 (w1.setCell ⟨b, 11, none⟩ (.slice none 0 0)) := (Chg.refl (fun g => g = b) w1).setCell (p := ⟨b, 11, none⟩) (.inl rfl) _
  have hm : ∀ g, mv.ownBlock = some g → ¬ g = b := fun g hg => by have := (owns_lt h1.mrow.own g hg).1; omega
  refine ⟨⟨⟨.slice none 0 0, mv, 0, nm, ⟨fun j hj => ?_, fun j => (hc.frozen _).trans (h1.fz j), Nat.lt_of_lt_of_le h1.lt hc.size, WRow.nil _ _, h1.mrow.chg hc hm, fun g hg => by simp [Value.ownBlock] at hg⟩, fun j hj => ?_⟩, fun j hj => ?_, h4⟩, h5.setCell (p := ⟨b, 11, none⟩) (.inl hb) _⟩
  · by_cases e : j = 11
    · subst e
      exact set_same (h1.cells 11 (by omega))
    · rw [set_other (ne_off (fun x => e x.symm)), h1.cells j hj]
      have : spL s (.slice none 0 0) mv = (spL s uv mv).set 11 (.slice none 0 0) := rfl
      rw [this, List.getElem?_set_ne (fun e' => e e'.symm)]
  · have : Grew F w w1 j := h2 j (by
      rcases hj with hj | hj | hj
      · exact .inl hj
      · simp [Value.ownBlock] at hj
      · exact .inr (.inr hj))
    unfold Grew at this ⊢
    rw [e]; exact this
  · unfold Grew at hj
    rw [e] at hj ⊢
    exact h3 j hj

theorem turned_dropM {w w1 : World} {b : Nat} {F : Nat → Prop} {s : Sp} {U M : Nat → Bool} (h : Turned w b F s U M w1) (hb : F b) : Turned w b F s U (fun _ => false) (w1.setCell ⟨b, 12, none⟩ (.slice none 0 0)) := by
  obtain ⟨⟨⟨uv, mv, nu, nm, h1, h2⟩, h3, h4⟩, h5⟩ := h
  have e : (w1.setCell ⟨b, 12, none⟩ (.slice none 0 0)).heap.size = w1.heap.size := World.size_setCell _ _ _
  have hc : Chg (fun g => g = b) w1 (w1.setCell ⟨b, 12, none⟩ (.slice none 0 0)) := (Chg.refl (fun g => g = b) w1).setCell (p := ⟨b, 12, none⟩) (.inl rfl) _
  have hu : ∀ g, uv.ownBlock = some g → ¬ g = b := fun g hg => by have := (owns_lt h1.urow.own g hg).1; omega
  refine ⟨⟨⟨uv, .slice none 0 0, nu, 0, ⟨fun j hj => ?_, fun j => (hc.frozen _).trans (h1.fz j), Nat.lt_of_lt_of_le h1.lt hc.size, h1.urow.chg hc hu, WRow.nil _ _, fun g hg => by simp [Value.ownBlock]⟩, fun j hj => ?_⟩, fun j hj => ?_, h4⟩, h5.setCell (p := ⟨b, 12, none⟩) (.inl hb) _⟩
  · by_cases e : j = 12
    · subst e
      exact set_same (h1.cells 12 (by omega))
    · rw [set_other (ne_off (fun x => e x.symm)), h1.cells j hj]
      have : spL s uv (.slice none 0 0) = (spL s uv mv).set 12 (.slice none 0 0) := rfl
      rw [this, List.getElem?_set_ne (fun e' => e e'.symm)]
  · have : Grew F w w1 j := h2 j (by
      rcases hj with hj | hj | hj
      · exact .inl hj
      · exact .inr (.inl hj)
      · simp [Value.ownBlock] at hj)
    unfold Grew at this ⊢
    rw [e]; exact this
  · unfold Grew at hj
    rw [e] at hj ⊢
    exact h3 j hj

set_option maxHeartbeats 400000 in
theorem die_yes (b : Nat) (F : Nat → Prop) (s : Sp) (U M : Nat → Bool) (w : World) (h : SpanIs w b F s U M) (hd : s.state ≠ 0) (hu : s.used = 0) :
    Calls Tryd.prog 22 #[.pointer (some ⟨b, 0, none⟩)] w fun r w' => r = .returned (.int .i64 0) ∧ Turned w b F (sDie s) (fun _ => false) (fun _ => false) w' := by
  have h0 := h
  obtain ⟨uv, mv, nu, nm, h1, h2⟩ := h.at_
  have hb : F b := h2 b (.inl rfl)
  have c2 : w.cell? ⟨b, 2, none⟩ = some (.int .i64 s.state) := h1.cells 2 (by omega)
  have c7 : w.cell? ⟨b, 7, none⟩ = some (.int .i64 s.used) := h1.cells 7 (by omega)
  have c11 : w.cell? ⟨b, 11, none⟩ = some uv := h1.cells 11 (by omega)
  have c12 : w.cell? ⟨b, 12, none⟩ = some mv := h1.cells 12 (by omega)
  have f7 := h1.fz
  have k0 : ((s.state : Int) == 0) = false := beq_eq_false_iff_ne.2 (by omega)
  have hf := h.fit
  have HT := Lib.hid (turned_dropM (turned_dropU (turned_put (turned_put (turned_start h) 2 (by omega) (.int .i64 0) (s' := { s with state := 0 }) (fun _ _ => rfl) ⟨hf.base, hf.pages, hf.cls, hf.elem0, hf.elem, hf.slots, hf.used, hf.look, hf.magic, by show 0 ≤ 2; omega, hf.bytes⟩ hb) 7 (by omega) (.int .i64 0) (s' := sDie s) (fun _ _ => rfl) ⟨hf.base, hf.pages, hf.cls, hf.elem0, hf.elem, hf.slots, Nat.zero_le _, hf.look, hf.magic, by show 0 ≤ 2; omega, hf.bytes⟩ hb) hb) hb)
  rw [hu] at c7
  clear h h1 h2 h0 hf
  go_enter Tryd.func22, Tryd.ntmps22
  go_wp2
  go_ret
  exact ⟨rfl, HT.out⟩

end Go.Proofs.YticaamdghjfifaaDoor
