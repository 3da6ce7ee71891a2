/- A span in memory, and the contracts of what only reads it. -/
import Derived.Test.YticaamdghjfifaaDoorRowS
namespace Go.Proofs.YticaamdghjfifaaDoor
open Go.RowKit
set_option linter.unusedVariables false

/-- what a span tells of itself. -/
structure Sp where
  base : Nat
  pages : Nat
  state : Nat
  cls : Nat
  noptr : Bool
  elem : Nat
  slots : Nat
  used : Nat
  swept : Bool
  held : Bool
  magic : Nat
  look : Nat

def spL (s : Sp) (uv mv : Value) : List Value :=
  [.int .u64 s.base, .int .i64 s.pages, .int .i64 s.state, .int .i64 s.cls, .bool s.noptr, .int .i64 s.elem, .int .i64 s.slots, .int .i64 s.used, .bool s.swept, .bool s.held, .int .u32 s.magic, uv, mv, .int .i64 s.look]

/-- numbers as they are in every span. -/
structure Fit (s : Sp) : Prop where
  base : s.base ≤ 281474976710656
  pages : s.pages ≤ 134217728
  cls : s.cls ≤ 67
  elem0 : 0 < s.elem
  elem : s.elem ≤ 1099511627776
  slots : s.slots ≤ 137438953472
  used : s.used ≤ s.slots
  look : s.look ≤ s.slots
  magic : s.magic < 4294967296
  state : s.state ≤ 2
  bytes : s.slots * s.elem ≤ 1099511627776

structure SpanAt (w : World) (b : Nat) (s : Sp) (uv mv : Value) (nu nm : Nat) (U M : Nat → Bool) : Prop where
  cells : ∀ k, k < 14 → w.cell? ⟨b, k, none⟩ = (spL s uv mv)[k]?
  fz : ∀ k, w.frozen? ⟨b, k, none⟩ = false
  lt : b < w.heap.size
  urow : WRow w (b + 1) uv nu U
  mrow : WRow w (b + 1) mv nm M
  apart : ∀ g, uv.ownBlock = some g → mv.ownBlock ≠ some g

theorem SpanAt.later {w w' : World} {b : Nat} {s : Sp} {uv mv : Value} {nu nm : Nat} {U M : Nat → Bool} (h : SpanAt w b s uv mv nu nm U M) (hx : Ext w w') : SpanAt w' b s uv mv nu nm U M :=
  ⟨fun k hk => (hx.cell b k h.lt).trans (h.cells k hk), fun k => (hx.frozen _).trans (h.fz k), Nat.lt_of_lt_of_le h.lt hx.size, h.urow.later hx, h.mrow.later hx, h.apart⟩

theorem SpanAt.chg {w w' : World} {b : Nat} {s : Sp} {uv mv : Value} {nu nm : Nat} {U M : Nat → Bool} {F : Nat → Prop} (h : SpanAt w b s uv mv nu nm U M) (hc : Chg F w w') (hb : ∀ g, b ≤ g → ¬ F g) : SpanAt w' b s uv mv nu nm U M :=
  ⟨fun k hk => (hc.cell h.lt (hb b (Nat.le_refl _))).trans (h.cells k hk), fun k => (hc.frozen _).trans (h.fz k), Nat.lt_of_lt_of_le h.lt hc.size, h.urow.chg hc (fun g hg => hb g (by have := (owns_lt h.urow.own g hg).1; omega)), h.mrow.chg hc (fun g hg => hb g (by have := (owns_lt h.mrow.own g hg).1; omega)), h.apart⟩

/-- one number of the span is written. -/
theorem SpanAt.put {w : World} {b : Nat} {s s' : Sp} {uv mv : Value} {nu nm : Nat} {U M : Nat → Bool} (h : SpanAt w b s uv mv nu nm U M) (k : Nat) (hk : k < 14) (x : Value) (hl : (spL s uv mv).set k x = spL s' uv mv) : SpanAt (w.setCell ⟨b, k, none⟩ x) b s' uv mv nu nm U M := by
  have hc : Chg (fun g => g = b) w (w.setCell ⟨b, k, none⟩ x) := (Chg.refl (fun g => g = b) w).setCell (p := ⟨b, k, none⟩) (.inl rfl) x
  have hu : ∀ g, uv.ownBlock = some g → ¬ g = b := fun g hg => by have := (owns_lt h.urow.own g hg).1; omega
  have hm : ∀ g, mv.ownBlock = some g → ¬ g = b := fun g hg => by have := (owns_lt h.mrow.own g hg).1; omega
  refine ⟨fun j hj => ?_, fun j => (hc.frozen _).trans (h.fz j), Nat.lt_of_lt_of_le h.lt hc.size, h.urow.chg hc hu, h.mrow.chg hc hm, h.apart⟩
  rw [← hl]
  by_cases e : k = j
  · subst e
    rw [List.getElem?_set_self (by unfold spL; simpa using hk)]
    have h0 := h.cells k hk
    rw [List.getElem?_eq_getElem (by unfold spL; simpa using hk)] at h0
    exact set_same h0
  · rw [List.getElem?_set_ne e, set_other (ne_off e)]
    exact h.cells j hj

/-- the row of used slots was set by its own function. -/
theorem SpanAt.setU' {w w' : World} {b : Nat} {s : Sp} {uv mv : Value} {nu nm : Nat} {U M U' : Nat → Bool} {v1 : Value} {n1 : Nat} (h : SpanAt w b s uv mv nu nm U M) (hr : SetRel w w' b 11 uv U' v1 n1) : SpanAt w' b s v1 mv n1 nm U' M := by
  refine ⟨fun k hk => ?_, fun k => (hr.chg.frozen _).trans (h.fz k), Nat.lt_of_lt_of_le h.lt hr.chg.size, hr.row, h.mrow.chg hr.chg (fun g hg => ?_), fun g hg => ?_⟩
  · by_cases e : k = 11
    · subst e; exact hr.cell
    · refine (hr.rest k e).trans ((h.cells k hk).trans ?_)
      have : spL s v1 mv = (spL s uv mv).set 11 v1 := rfl
      rw [this, List.getElem?_set_ne (fun e' => e e'.symm)]
  · have := (owns_lt h.mrow.own g hg).1
    rintro (e | e)
    · omega
    · exact h.apart g e hg
  · rcases hr.blk with e | ⟨k, e, hk⟩
    · exact h.apart g (e ▸ hg)
    · intro hm
      have h1 := (owns_lt h.mrow.own g hm).2
      rw [e] at hg; injection hg with hg; omega

theorem SpanAt.setM' {w w' : World} {b : Nat} {s : Sp} {uv mv : Value} {nu nm : Nat} {U M M' : Nat → Bool} {v1 : Value} {n1 : Nat} (h : SpanAt w b s uv mv nu nm U M) (hr : SetRel w w' b 12 mv M' v1 n1) : SpanAt w' b s uv v1 nu n1 U M' := by
  refine ⟨fun k hk => ?_, fun k => (hr.chg.frozen _).trans (h.fz k), Nat.lt_of_lt_of_le h.lt hr.chg.size, h.urow.chg hr.chg (fun g hg => ?_), hr.row, fun g hg => ?_⟩
  · by_cases e : k = 12
    · subst e; exact hr.cell
    · refine (hr.rest k e).trans ((h.cells k hk).trans ?_)
      have : spL s uv v1 = (spL s uv mv).set 12 v1 := rfl
      rw [this, List.getElem?_set_ne (fun e' => e e'.symm)]
  · have := (owns_lt h.urow.own g hg).1
    rintro (e | e)
    · omega
    · exact h.apart g hg e
  · rcases hr.blk with e | ⟨k, e, hk⟩
    · rw [e]; exact h.apart g hg
    · have h1 := (owns_lt h.urow.own g hg).2
      rw [e]; intro hm; injection hm with hm; omega

def thereB (s : Sp) (i : Int) : Bool := decide (0 ≤ i) && decide (i < (s.slots : Int))

set_option maxHeartbeats 400000 in
theorem there_any (b : Nat) (s : Sp) (i : Int) (w : World) (hs : w.cell? ⟨b, 6, none⟩ = some (.int .i64 s.slots)) (hb : s.slots ≤ 137438953472) :
    Calls Tryd.prog 30 #[.pointer (some ⟨b, 0, none⟩), .int .i64 i] w fun r w' => r = .returned (.bool (thereB s i)) ∧ w = w' := by
  have HT := Lib.hid (show thereB s i = (decide (0 ≤ i) && decide (i < (s.slots : Int))) from rfl)
  by_cases h0 : 0 ≤ i
  · have k0 : decide (0 ≤ i) = true := decide_eq_true h0
    go_enter Tryd.func30, Tryd.ntmps30
    go_wp2
    go_ret
    exact ⟨by rw [HT.out, k0, Bool.true_and]; rfl, rfl⟩
  · have k0 : decide (0 ≤ i) = false := decide_eq_false h0
    go_enter Tryd.func30, Tryd.ntmps30
    go_wp2
    go_ret
    exact ⟨by rw [HT.out, k0, Bool.false_and]; rfl, rfl⟩

theorem thereB_nat {s : Sp} {i : Int} (h : thereB s i = true) : ∃ n : Nat, i = n ∧ n < s.slots := by
  unfold thereB at h
  simp at h
  exact ⟨i.toNat, by omega, by omega⟩
theorem thereB_lt {s : Sp} {n : Nat} (h : n < s.slots) : thereB s (n : Int) = true := by
  unfold thereB; simp; omega

set_option maxHeartbeats 400000 in
theorem used_any (b : Nat) (s : Sp) (uv mv : Value) (nu nm : Nat) (U M : Nat → Bool) (i : Int) (w : World) (h : SpanAt w b s uv mv nu nm U M) (hf : Fit s) :
    Calls Tryd.prog 13 #[.pointer (some ⟨b, 0, none⟩), .int .i64 i] w fun r w' => r = .returned (.bool (thereB s i && U i.toNat)) ∧ w = w' := by
  have c6 : w.cell? ⟨b, 6, none⟩ = some (.int .i64 s.slots) := h.cells 6 (by omega)
  have c11 : w.cell? ⟨b, 11, none⟩ = some uv := h.cells 11 (by omega)
  have hsl := hf.slots
  have HU := Lib.hid h.urow
  clear h hf
  by_cases ht : thereB s i = true
  · obtain ⟨n, rfl, hn⟩ := thereB_nat ht
    have hA := Lib.hid ht
    clear ht
    go_enter Tryd.func13, Tryd.ntmps13
    go_wp2_with (first | (go_at_call 30; refine (there_any b s n _ c6 hsl).mono ?_; rintro r w1 ⟨rfl, rfl⟩; rw [hA.out]) | (go_at_call 31; refine (rget_any (b + 1) nu n uv U _ HU.out (by omega)).mono ?_; rintro r w1 ⟨rfl, rfl⟩))
    go_ret
    exact ⟨by rw [hA.out]; rfl, rfl⟩
  · have hA := Lib.hid (Bool.eq_false_iff.2 ht)
    clear ht
    go_enter Tryd.func13, Tryd.ntmps13
    go_wp2_with (first | (go_at_call 30; refine (there_any b s i _ c6 hsl).mono ?_; rintro r w1 ⟨rfl, rfl⟩; rw [hA.out]))
    go_ret
    exact ⟨by rw [hA.out]; rfl, rfl⟩

set_option maxHeartbeats 400000 in
theorem marked_any (b : Nat) (s : Sp) (uv mv : Value) (nu nm : Nat) (U M : Nat → Bool) (i : Int) (w : World) (h : SpanAt w b s uv mv nu nm U M) (hf : Fit s) :
    Calls Tryd.prog 17 #[.pointer (some ⟨b, 0, none⟩), .int .i64 i] w fun r w' => r = .returned (.bool (thereB s i && M i.toNat)) ∧ w = w' := by
  have c6 : w.cell? ⟨b, 6, none⟩ = some (.int .i64 s.slots) := h.cells 6 (by omega)
  have c12 : w.cell? ⟨b, 12, none⟩ = some mv := h.cells 12 (by omega)
  have hsl := hf.slots
  have HU := Lib.hid h.mrow
  clear h hf
  by_cases ht : thereB s i = true
  · obtain ⟨n, rfl, hn⟩ := thereB_nat ht
    have hA := Lib.hid ht
    clear ht
    go_enter Tryd.func17, Tryd.ntmps17
    go_wp2_with (first | (go_at_call 30; refine (there_any b s n _ c6 hsl).mono ?_; rintro r w1 ⟨rfl, rfl⟩; rw [hA.out]) | (go_at_call 31; refine (rget_any (b + 1) nm n mv M _ HU.out (by omega)).mono ?_; rintro r w1 ⟨rfl, rfl⟩))
    go_ret
    exact ⟨by rw [hA.out]; rfl, rfl⟩
  · have hA := Lib.hid (Bool.eq_false_iff.2 ht)
    clear ht
    go_enter Tryd.func17, Tryd.ntmps17
    go_wp2_with (first | (go_at_call 30; refine (there_any b s i _ c6 hsl).mono ?_; rintro r w1 ⟨rfl, rfl⟩; rw [hA.out]))
    go_ret
    exact ⟨by rw [hA.out]; rfl, rfl⟩

end Go.Proofs.YticaamdghjfifaaDoor
