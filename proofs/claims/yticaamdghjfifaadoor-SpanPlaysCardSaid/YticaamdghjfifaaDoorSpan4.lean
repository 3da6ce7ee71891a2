/- The contracts of a span's Give, Slot. -/
import Derived.Test.YticaamdghjfifaaDoorSpan3
namespace Go.Proofs.YticaamdghjfifaaDoor
open Go.RowKit
set_option linter.unusedVariables false

/-! ### Give -/
def sGive (s : Sp) (n : Nat) : Sp := { s with used := s.used - 1, look := min s.look n }

set_option maxHeartbeats 400000 in
theorem give_state (b : Nat) (F : Nat → Prop) (s : Sp) (U M : Nat → Bool) (i : Int) (w : World) (h : SpanIs w b F s U M) (hd : s.state ≠ 2) :
    Calls Tryd.prog 21 #[.pointer (some ⟨b, 0, none⟩), .int .i64 i] w fun r w' => r = .returned (.int .i64 33) ∧ w = w' := by
  obtain ⟨uv, mv, nu, nm, h1, h2⟩ := h.at_
  have c2 : w.cell? ⟨b, 2, none⟩ = some (.int .i64 s.state) := h1.cells 2 (by omega)
  have k0 : ((s.state : Int) == 2) = false := beq_eq_false_iff_ne.2 (by omega)
  clear h h1 h2
  go_enter Tryd.func21, Tryd.ntmps21
  go_wp2
  go_ret
  exact ⟨rfl, rfl⟩

set_option maxHeartbeats 400000 in
theorem give_arg (b : Nat) (F : Nat → Prop) (s : Sp) (U M : Nat → Bool) (i : Int) (w : World) (h : SpanIs w b F s U M) (hd : s.state = 2) (ht : thereB s i = false) :
    Calls Tryd.prog 21 #[.pointer (some ⟨b, 0, none⟩), .int .i64 i] w fun r w' => r = .returned (.int .i64 1) ∧ w = w' := by
  obtain ⟨uv, mv, nu, nm, h1, h2⟩ := h.at_
  have c2 : w.cell? ⟨b, 2, none⟩ = some (.int .i64 s.state) := h1.cells 2 (by omega)
  have c6 : w.cell? ⟨b, 6, none⟩ = some (.int .i64 s.slots) := h1.cells 6 (by omega)
  rw [hd] at c2
  have hA := Lib.hid ht
  have hsl := h.fit.slots
  clear h h1 h2 ht
  go_enter Tryd.func21, Tryd.ntmps21
  go_wp2_with (first | (go_at_call 30; refine (there_any b s i _ c6 hsl).mono ?_; rintro r w1 ⟨rfl, rfl⟩; rw [hA.out]))
  go_ret
  exact ⟨rfl, rfl⟩

set_option maxHeartbeats 400000 in
theorem give_free (b : Nat) (F : Nat → Prop) (s : Sp) (U M : Nat → Bool) (n : Nat) (w : World) (h : SpanIs w b F s U M) (hd : s.state = 2) (hn : n < s.slots) (hu : U n = false) :
    Calls Tryd.prog 21 #[.pointer (some ⟨b, 0, none⟩), .int .i64 n] w fun r w' => r = .returned (.int .i64 31) ∧ w = w' := by
  obtain ⟨uv, mv, nu, nm, h1, h2⟩ := h.at_
  have c2 : w.cell? ⟨b, 2, none⟩ = some (.int .i64 s.state) := h1.cells 2 (by omega)
  have c6 : w.cell? ⟨b, 6, none⟩ = some (.int .i64 s.slots) := h1.cells 6 (by omega)
  have c11 : w.cell? ⟨b, 11, none⟩ = some uv := h1.cells 11 (by omega)
  rw [hd] at c2
  have hA := Lib.hid (thereB_lt hn)
  have hsl := h.fit.slots
  have HG := Lib.hid (rget_any (b + 1) nu n uv U w h1.urow (by omega))
  rw [hu] at HG
  clear h h1 h2
  go_enter Tryd.func21, Tryd.ntmps21
  go_wp2_with (first | (go_at_call 30; refine (there_any b s n _ c6 hsl).mono ?_; rintro r w1 ⟨rfl, rfl⟩; rw [hA.out]) | (go_at_call 31; refine HG.out.mono ?_; rintro r w1 ⟨rfl, rfl⟩))
  go_ret
  exact ⟨rfl, rfl⟩

theorem turned_clearU {w w' : World} {b : Nat} {F : Nat → Prop} {s : Sp} {uv mv : Value} {nu nm : Nat} {U M U' : Nat → Bool} (h : SpanAt w b s uv mv nu nm U M) (hF : ∀ k, (k = b ∨ uv.ownBlock = some k ∨ mv.ownBlock = some k) → F k) (hlt : ∀ k, F k → k < w.heap.size) (hfit : Fit s) (hr : WRow w' (b + 1) uv nu U') (hc : Chg (fun g => uv.ownBlock = some g) w w') : Turned w b F s U' M w' := by
  have hcF : Chg F w w' := hc.mono fun i hi => .inl (hF i (.inr (.inl hi)))
  have hub : ¬ uv.ownBlock = some b := fun e => by have := (owns_lt h.urow.own b e).1; omega
  refine ⟨⟨⟨uv, mv, nu, nm, ⟨fun k hk => (hc.cell h.lt hub).trans (h.cells k hk), fun k => (hc.frozen _).trans (h.fz k), Nat.lt_of_lt_of_le h.lt hc.size, hr, h.mrow.chg hc fun g hg e => h.apart g e hg, h.apart⟩, fun k hk => .inl (hF k hk)⟩, fun k hk => hk.elim (fun hk => Nat.lt_of_lt_of_le (hlt k hk) hc.size) (·.2), hfit⟩, hcF⟩

theorem WRow.has {w : World} {B n : Nat} {v : Value} {f : Nat → Bool} (h : WRow w B v n f) {i : Nat} (hi : f i = true) : i / 64 < n := by
  refine Nat.lt_of_not_le fun hc => ?_
  have := h.clear i (by omega)
  rw [this] at hi; cases hi

set_option maxHeartbeats 800000 in
theorem give_yes (b : Nat) (F : Nat → Prop) (s : Sp) (U M : Nat → Bool) (n : Nat) (w : World) (h : SpanIs w b F s U M) (hd : s.state = 2) (hn : n < s.slots) (hu : U n = true) (hp : 0 < s.used) :
    Calls Tryd.prog 21 #[.pointer (some ⟨b, 0, none⟩), .int .i64 n] w fun r w' => r = .returned (.int .i64 0) ∧ Turned w b F (sGive s n) (clrB U n 1) M w' := by
  obtain ⟨uv, mv, nu, nm, h1, h2⟩ := h.at_
  have hb : F b := h2 b (.inl rfl)
  have c2 : w.cell? ⟨b, 2, none⟩ = some (.int .i64 s.state) := h1.cells 2 (by omega)
  have c6 : w.cell? ⟨b, 6, none⟩ = some (.int .i64 s.slots) := h1.cells 6 (by omega)
  have c11 : w.cell? ⟨b, 11, none⟩ = some uv := h1.cells 11 (by omega)
  rw [hd] at c2
  have hA := Lib.hid (thereB_lt hn)
  have hsl := h.fit.slots
  have hus := h.fit.used
  have hlk := h.fit.look
  have hfit := h.fit
  have hw := h1.urow.has hu
  have HG := Lib.hid (rget_any (b + 1) nu n uv U w h1.urow (by omega))
  rw [hu] at HG
  have hF1 : Fit { s with used := s.used - 1 } := ⟨hfit.base, hfit.pages, hfit.cls, hfit.elem0, hfit.elem, hfit.slots, by show s.used - 1 ≤ s.slots; omega, hfit.look, hfit.magic, hfit.state, hfit.bytes⟩
  have hF2 : Fit (sGive s n) := ⟨hfit.base, hfit.pages, hfit.cls, hfit.elem0, hfit.elem, hfit.slots, by show s.used - 1 ≤ s.slots; omega, by show min s.look n ≤ s.slots; omega, hfit.magic, hfit.state, hfit.bytes⟩
  have e1 : (s.used : Int) - 1 = ((s.used - 1 : Nat) : Int) := by omega
  have e2 : min (s.look : Int) (n : Int) = ((min s.look n : Nat) : Int) := by omega
  have HS := Lib.hid (show Calls Tryd.prog 35 #[uv, .int .i64 n] w fun e w1 => e = .returned (.tuple #[]) ∧ w1.cell? ⟨b, 7, none⟩ = some (.int .i64 s.used) ∧ w1.cell? ⟨b, 13, none⟩ = some (.int .i64 s.look) ∧ (∀ k, w1.frozen? ⟨b, k, none⟩ = false) ∧ Hid (Turned w b F (sGive s n) (clrB U n 1) M ((w1.setCell ⟨b, 7, none⟩ (.int .i64 ((s.used : Int) - 1))).setCell ⟨b, 13, none⟩ (.int .i64 (min (s.look : Int) (n : Int))))) from by
    refine (rclear_any (b + 1) nu n uv U w h1.urow (by omega) hw).mono ?_
    intro e w1 hq
    have hT := turned_clearU h1 h2 h.lt hfit hq.2.1 hq.2.2
    have hT1 := turned_put hT 7 (by omega) (.int .i64 ((s.used : Int) - 1)) (s' := { s with used := s.used - 1 }) (fun uv mv => by rw [e1]; rfl) hF1 hb
    have hT2 := turned_put hT1 13 (by omega) (.int .i64 (min (s.look : Int) (n : Int))) (s' := sGive s n) (fun uv mv => by rw [e2]; rfl) hF2 hb
    obtain ⟨⟨⟨uv1, mv1, nu1, nm1, g1, g2⟩, g3, g4⟩, g5⟩ := hT
    exact ⟨hq.1, g1.cells 7 (by omega), g1.cells 13 (by omega), g1.fz, Lib.hid hT2⟩)
  clear h h1 h2 hfit hF1 hF2 e1 e2
  go_enter Tryd.func21, Tryd.ntmps21
  go_wp2_with (first | (go_at_call 30; refine (there_any b s n _ c6 hsl).mono ?_; rintro r w1 ⟨rfl, rfl⟩; rw [hA.out]) | (go_at_call 31; refine HG.out.mono ?_; rintro r w1 ⟨rfl, rfl⟩) | (go_at_call 35; refine HS.out.mono ?_; rintro e w1 ⟨rfl, c7, d13, f7, hT⟩; clear c2 c6 c11))
  · go_ret
    exact ⟨rfl, by have := hT.out; rwa [show min (s.look : Int) (n : Int) = (n : Int) by omega] at this⟩
  · go_ret
    exact ⟨rfl, by have := hT.out; rwa [show min (s.look : Int) (n : Int) = (s.look : Int) by omega] at this⟩

/-! ### Slot -/
set_option maxHeartbeats 400000 in
theorem slot_no (b : Nat) (F : Nat → Prop) (s : Sp) (U M : Nat → Bool) (i : Int) (w : World) (h : SpanIs w b F s U M) (ht : thereB s i = false) :
    Calls Tryd.prog 19 #[.pointer (some ⟨b, 0, none⟩), .int .i64 i] w fun r w' => r = .returned (.tuple #[.int .u64 0, .int .i64 1]) ∧ w = w' := by
  obtain ⟨uv, mv, nu, nm, h1, h2⟩ := h.at_
  have c6 : w.cell? ⟨b, 6, none⟩ = some (.int .i64 s.slots) := h1.cells 6 (by omega)
  have hA := Lib.hid ht
  have hsl := h.fit.slots
  clear h h1 h2 ht
  go_enter Tryd.func19, Tryd.ntmps19
  go_wp2_with (first | (go_at_call 30; refine (there_any b s i _ c6 hsl).mono ?_; rintro r w1 ⟨rfl, rfl⟩; rw [hA.out]))
  go_ret2
  exact ⟨rfl, rfl⟩

set_option maxHeartbeats 400000 in
theorem slot_yes (b : Nat) (F : Nat → Prop) (s : Sp) (U M : Nat → Bool) (n : Nat) (w : World) (h : SpanIs w b F s U M) (hn : n < s.slots) :
    Calls Tryd.prog 19 #[.pointer (some ⟨b, 0, none⟩), .int .i64 n] w fun r w' => r = .returned (.tuple #[.int .u64 (s.base + n * s.elem : Nat), .int .i64 0]) ∧ Ext w w' := by
  obtain ⟨uv, mv, nu, nm, h1, h2⟩ := h.at_
  have c0 : w.cell? ⟨b, 0, none⟩ = some (.int .u64 s.base) := h1.cells 0 (by omega)
  have c5 : w.cell? ⟨b, 5, none⟩ = some (.int .i64 s.elem) := h1.cells 5 (by omega)
  have c6 : w.cell? ⟨b, 6, none⟩ = some (.int .i64 s.slots) := h1.cells 6 (by omega)
  have hA := Lib.hid (thereB_lt hn)
  have hsl := h.fit.slots
  have hba := h.fit.base
  have hel := h.fit.elem
  have hmul : n * s.elem ≤ 1099511627776 := Nat.le_trans (Nat.mul_le_mul_right _ (Nat.le_of_lt hn)) h.fit.bytes
  have hm1 : (n : Int) * (s.elem : Int) = ((n * s.elem : Nat) : Int) := by push_cast; rfl
  have hm2 : 0 ≤ (n : Int) * (s.elem : Int) := by rw [hm1]; omega
  have hm3 : (n : Int) * (s.elem : Int) ≤ 1099511627776 := by rw [hm1]; omega
  have HE := Lib.hid hm1
  clear h h1 h2 hm1
  go_enter Tryd.func19, Tryd.ntmps19
  go_wp2_with (first | (go_at_call 30; refine (there_any b s n _ c6 hsl).mono ?_; rintro r w1 ⟨rfl, rfl⟩; rw [hA.out]))
  go_quiet (fail)
  go_wp2
  go_ret2
  refine ⟨?_, (Ext.refl _).drewN' _⟩
  have : (s.base : Int) + (n : Int) * (s.elem : Int) = ((s.base + n * s.elem : Nat) : Int) := by push_cast; rfl
  rw [← this]
  rfl

/-! ### Manual -/
def sMan (page pages elem : Nat) : Sp := ⟨page * 8192, pages, 2, 0, false, elem, pages * 8192 / elem, 0, false, false, 0, 0⟩

theorem fit_man (page pages elem : Nat) (h1 : 0 < pages) (h2 : pages ≤ 134217728) (h3 : page + pages ≤ 34359738368) (h4 : 8 ≤ elem) (h5 : elem ≤ pages * 8192) : Fit (sMan page pages elem) := by
  have hd : pages * 8192 / elem ≤ pages * 8192 / 8 := Nat.div_le_div_left h4 (by omega)
  have hm : pages * 8192 / elem * elem ≤ pages * 8192 := Nat.div_mul_le_self _ _
  exact ⟨by show page * 8192 ≤ _; omega, h2, Nat.zero_le _, by show 0 < elem; omega, by show elem ≤ _; omega, by show pages * 8192 / elem ≤ _; omega, Nat.zero_le _, Nat.zero_le _, by show 0 < _; omega, by show 2 ≤ 2; omega, by show pages * 8192 / elem * elem ≤ _; omega⟩

theorem span_new (w : World) (t : TypeId) (s : Sp) (hf : Fit s) : SpanIs (w.alloc (.cells (spL s (.slice none 0 0) (.slice none 0 0)).toArray t)) w.heap.size (· = w.heap.size) s (fun _ => false) (fun _ => false) := by
  refine ⟨⟨.slice none 0 0, .slice none 0 0, 0, 0, ⟨fun k hk => by rw [cell_new]; simp, fun k => ?_, by rw [World.size_alloc]; omega, WRow.nil _ _, WRow.nil _ _, fun g hg => by simp [Value.ownBlock] at hg⟩, fun k hk => ?_⟩, fun k hk => by rw [World.size_alloc]; omega, hf⟩
  · exact (frozen?_alloc_cells w _ t _).trans (frozen_none w _ _ (Nat.le_refl _))
  · rcases hk with hk | hk | hk
    · exact hk
    · simp [Value.ownBlock] at hk
    · simp [Value.ownBlock] at hk

set_option maxHeartbeats 1000000 in
theorem manual_yes (page pages elem : Nat) (w : World) (h1 : 0 < pages) (h2 : pages ≤ 134217728) (h3 : page + pages ≤ 34359738368) (h4 : 8 ≤ elem) (h5 : elem ≤ pages * 8192) :
    Calls Tryd.prog 20 #[.int .u64 page, .int .u64 pages, .int .i64 elem] w fun r w' => r = .returned (.tuple #[.pointer (some ⟨w.heap.size, 0, none⟩), .int .i64 0]) ∧ SpanIs w' w.heap.size (· = w.heap.size) (sMan page pages elem) (fun _ => false) (fun _ => false) ∧ Ext w w' := by
  have HF := Lib.hid (fit_man page pages elem h1 h2 h3 h4 h5)
  have HN := Lib.hid (fun w' => span_new w' 70 (sMan page pages elem) HF.out)
  unfold spL sMan at HN
  have k1 : ((pages : Int) == 0) = false := beq_eq_false_iff_ne.2 (by omega)
  have k2 : decide (34359738368 < page) = false := decide_eq_false (by omega)
  have k3 : decide ((34359738368 : Int) - page < pages) = false := decide_eq_false (by omega)
  have k4 : decide (134217728 < pages) = false := decide_eq_false (by omega)
  have k5 : decide (elem < 8) = false := decide_eq_false (by omega)
  have k6 : decide ((pages : Int) * 8192 < elem) = false := decide_eq_false (by omega)
  have e0 : ((page * 8192 : Nat) : Int) = (page : Int) * 8192 := by omega
  have e1 : (pages : Int) * 8192 / (elem : Int) = ((pages * 8192 / elem : Nat) : Int) := by
    rw [show (pages : Int) * 8192 = ((pages * 8192 : Nat) : Int) by omega]; rfl
  have hN := HN.out w
  rw [e0] at hN
  rw [← e1] at hN
  have HM := Lib.hid hN
  clear hN HN e0 e1
  go_enter Tryd.func20, Tryd.ntmps20
  go_wp2
  go_ret2
  exact ⟨rfl, HM.out, (Ext.refl _).alloc _ _⟩

end Go.Proofs.YticaamdghjfifaaDoor
