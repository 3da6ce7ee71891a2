/- The contracts of a span's Next, Give, Mark, Die, Slot. -/
import Derived.Test.YticaamdghjfifaaDoorSpan
namespace Go.Proofs.YticaamdghjfifaaDoor
open Go.RowKit
set_option linter.unusedVariables false

/-- a span whose blocks are F's. -/
structure SpanIs (w : World) (b : Nat) (F : Nat → Prop) (s : Sp) (U M : Nat → Bool) : Prop where
  at_ : ∃ uv mv nu nm, SpanAt w b s uv mv nu nm U M ∧ ∀ k, (k = b ∨ uv.ownBlock = some k ∨ mv.ownBlock = some k) → F k
  lt : ∀ k, F k → k < w.heap.size
  fit : Fit s

def Grew (F : Nat → Prop) (w w' : World) : Nat → Prop := fun k => F k ∨ (w.heap.size ≤ k ∧ k < w'.heap.size)

theorem SpanIs.later {w w' : World} {b : Nat} {F : Nat → Prop} {s : Sp} {U M : Nat → Bool} (h : SpanIs w b F s U M) (hx : Ext w w') : SpanIs w' b F s U M := by
  obtain ⟨uv, mv, nu, nm, h1, h2⟩ := h.at_
  exact ⟨⟨uv, mv, nu, nm, h1.later hx, h2⟩, fun k hk => Nat.lt_of_lt_of_le (h.lt k hk) hx.size, h.fit⟩

/-- what a function that turns the span leaves. -/
def Turned (w : World) (b : Nat) (F : Nat → Prop) (s' : Sp) (U' M' : Nat → Bool) (w' : World) : Prop := SpanIs w' b (Grew F w w') s' U' M' ∧ Chg F w w'

theorem turned_put {w w1 : World} {b : Nat} {F : Nat → Prop} {s s' : Sp} {U M : Nat → Bool} (h : Turned w b F s U M w1) (k : Nat) (hk : k < 14) (x : Value) (hl : ∀ uv mv, (spL s uv mv).set k x = spL s' uv mv) (hf : Fit s') (hb : F b) : Turned w b F s' U M (w1.setCell ⟨b, k, none⟩ x) := by
  obtain ⟨⟨⟨uv, mv, nu, nm, h1, h2⟩, h3, h4⟩, h5⟩ := h
  have e : (w1.setCell ⟨b, k, none⟩ x).heap.size = w1.heap.size := World.size_setCell _ _ _
  refine ⟨⟨⟨uv, mv, nu, nm, h1.put k hk x (hl uv mv), fun j hj => ?_⟩, fun j hj => ?_, hf⟩, h5.setCell (p := ⟨b, k, none⟩) (.inl hb) x⟩
  · have := h2 j hj
    unfold Grew at this ⊢
    rw [e]; exact this
  · unfold Grew at hj
    rw [e] at hj ⊢
    exact h3 j hj

theorem turned_start {w : World} {b : Nat} {F : Nat → Prop} {s : Sp} {U M : Nat → Bool} (h : SpanIs w b F s U M) : Turned w b F s U M w := by
  obtain ⟨⟨uv, mv, nu, nm, h1, h2⟩, h3, h4⟩ := h
  exact ⟨⟨⟨uv, mv, nu, nm, h1, fun k hk => .inl (h2 k hk)⟩, fun k hk => hk.elim (h3 k) (·.2), h4⟩, Chg.refl _ _⟩

theorem turned_setU {w w1 w' : World} {b : Nat} {F : Nat → Prop} {s : Sp} {uv mv : Value} {nu nm : Nat} {U M U' : Nat → Bool} (h : SpanAt w b s uv mv nu nm U M) (hF : ∀ k, (k = b ∨ uv.ownBlock = some k ∨ mv.ownBlock = some k) → F k) (hlt : ∀ k, F k → k < w.heap.size) (hfit : Fit s) (hx : Ext w w1) (hs : w1.heap.size = w.heap.size) (hp : SetPost w1 b 11 uv U' w') : Turned w b F s U' M w' := by
  obtain ⟨v1, n1, hr⟩ := id hp
  have h' := h.later hx
  have hc : Chg F w w' := by
    refine (Chg.of_ext hx F).trans hr.chg (fun i hi => .inl (hF i ?_))
    rcases hi with e | e
    · exact .inl e
    · exact .inr (.inl e)
  have hsz := hr.chg.size
  refine ⟨⟨⟨v1, mv, n1, nm, ?_, fun k hk => ?_⟩, fun k hk => hk.elim (fun hk => Nat.lt_of_lt_of_le (hlt k hk) hc.size) (·.2), hfit⟩, hc⟩
  · exact h'.setU' hr
  · rcases hk with e | e | e
    · exact .inl (hF k (.inl e))
    · rcases hr.blk with e2 | ⟨j, e2, hj⟩
      · exact .inl (hF k (.inr (.inl (e2 ▸ e))))
      · have h1 := (owns_lt hr.row.own k e).2
        rw [e2] at e; injection e with e
        exact .inr ⟨by omega, h1⟩
    · exact .inl (hF k (.inr (.inr e)))

theorem turned_setM {w w1 w' : World} {b : Nat} {F : Nat → Prop} {s : Sp} {uv mv : Value} {nu nm : Nat} {U M M' : Nat → Bool} (h : SpanAt w b s uv mv nu nm U M) (hF : ∀ k, (k = b ∨ uv.ownBlock = some k ∨ mv.ownBlock = some k) → F k) (hlt : ∀ k, F k → k < w.heap.size) (hfit : Fit s) (hx : Ext w w1) (hs : w1.heap.size = w.heap.size) (hp : SetPost w1 b 12 mv M' w') : Turned w b F s U M' w' := by
  obtain ⟨v1, n1, hr⟩ := id hp
  have h' := h.later hx
  have hc : Chg F w w' := by
    refine (Chg.of_ext hx F).trans hr.chg (fun i hi => .inl (hF i ?_))
    rcases hi with e | e
    · exact .inl e
    · exact .inr (.inr e)
  have hsz := hr.chg.size
  refine ⟨⟨⟨uv, v1, nu, n1, ?_, fun k hk => ?_⟩, fun k hk => hk.elim (fun hk => Nat.lt_of_lt_of_le (hlt k hk) hc.size) (·.2), hfit⟩, hc⟩
  · exact h'.setM' hr
  · rcases hk with e | e | e
    · exact .inl (hF k (.inl e))
    · exact .inl (hF k (.inr (.inl e)))
    · rcases hr.blk with e2 | ⟨j, e2, hj⟩
      · exact .inl (hF k (.inr (.inr (e2 ▸ e))))
      · have h1 := (owns_lt hr.row.own k e).2
        rw [e2] at e; injection e with e
        exact .inr ⟨by omega, h1⟩

/-! ### Next -/
set_option maxHeartbeats 400000 in
theorem next_dead (b : Nat) (F : Nat → Prop) (s : Sp) (U M : Nat → Bool) (w : World) (h : SpanIs w b F s U M) (hd : s.state = 0) :
    Calls Tryd.prog 12 #[.pointer (some ⟨b, 0, none⟩)] w fun r w' => r = .returned (.tuple #[.int .i64 0, .int .i64 33]) ∧ w = w' := by
  obtain ⟨uv, mv, nu, nm, h1, h2⟩ := h.at_
  have c2 : w.cell? ⟨b, 2, none⟩ = some (.int .i64 s.state) := h1.cells 2 (by omega)
  rw [hd] at c2
  clear h h1 h2
  go_enter Tryd.func12, Tryd.ntmps12
  go_wp2
  go_ret2
  exact ⟨rfl, rfl⟩

set_option maxHeartbeats 400000 in
theorem next_full (b : Nat) (F : Nat → Prop) (s : Sp) (U M : Nat → Bool) (w : World) (h : SpanIs w b F s U M) (hd : s.state ≠ 0) (ht : TzAt w) (r : Nat) (hr : freeAt U s.look r) (hf : s.slots ≤ r) (hr1 : r < 9223372036854775808) :
    Calls Tryd.prog 12 #[.pointer (some ⟨b, 0, none⟩)] w fun e w' => e = .returned (.tuple #[.int .i64 0, .int .i64 30]) ∧ Ext w w' := by
  obtain ⟨uv, mv, nu, nm, h1, h2⟩ := h.at_
  have c2 : w.cell? ⟨b, 2, none⟩ = some (.int .i64 s.state) := h1.cells 2 (by omega)
  have c6 : w.cell? ⟨b, 6, none⟩ = some (.int .i64 s.slots) := h1.cells 6 (by omega)
  have c11 : w.cell? ⟨b, 11, none⟩ = some uv := h1.cells 11 (by omega)
  have c13 : w.cell? ⟨b, 13, none⟩ = some (.int .i64 s.look) := h1.cells 13 (by omega)
  have k0 : ((s.state : Int) == 0) = false := beq_eq_false_iff_ne.2 (by omega)
  have k1 : decide (s.slots ≤ r) = true := decide_eq_true hf
  have hfi := Lib.hid h.fit
  have hlk := h.fit.look
  have hsl := h.fit.slots
  have hst := h.fit.state
  have HC := Lib.hid (fun n => rfree_any (b + 1) nu s.look r uv U (w.drewN n) (h1.urow.later ((Ext.refl w).drewN' n)) (by omega) hr (ht.later ((Ext.refl w).drewN' n)))
  clear h h1 h2
  go_enter Tryd.func12, Tryd.ntmps12
  go_wp2_with fail
  go_quiet ((go_at_call 28; exact Calls.quiet_of_same ((HC.out _).mono fun _ _ ⟨a, b⟩ => ⟨a, b.symm⟩)))
  go_wp2
  go_ret2
  exact ⟨rfl, (Ext.refl _).drewN' _⟩

def sNext (s : Sp) (r : Nat) : Sp := { s with used := s.used + 1, look := r + 1 }

set_option maxHeartbeats 800000 in
theorem next_some (b : Nat) (F : Nat → Prop) (s : Sp) (U M : Nat → Bool) (w : World) (h : SpanIs w b F s U M) (hd : s.state ≠ 0) (ht : TzAt w) (r : Nat) (hr : freeAt U s.look r) (hf : r < s.slots) (hu : s.used < s.slots) :
    Calls Tryd.prog 12 #[.pointer (some ⟨b, 0, none⟩)] w fun e w' => e = .returned (.tuple #[.int .i64 r, .int .i64 0]) ∧ Turned w b F (sNext s r) (setB U r 1) M w' := by
  obtain ⟨uv, mv, nu, nm, h1, h2⟩ := h.at_
  have hb : F b := h2 b (.inl rfl)
  have c2 : w.cell? ⟨b, 2, none⟩ = some (.int .i64 s.state) := h1.cells 2 (by omega)
  have c6 : w.cell? ⟨b, 6, none⟩ = some (.int .i64 s.slots) := h1.cells 6 (by omega)
  have c11 : w.cell? ⟨b, 11, none⟩ = some uv := h1.cells 11 (by omega)
  have c13 : w.cell? ⟨b, 13, none⟩ = some (.int .i64 s.look) := h1.cells 13 (by omega)
  have k0 : ((s.state : Int) == 0) = false := beq_eq_false_iff_ne.2 (by omega)
  have k1 : decide (s.slots ≤ r) = false := decide_eq_false (by omega)
  have hlk := h.fit.look
  have hsl := h.fit.slots
  have hst := h.fit.state
  have hfit := h.fit
  have HC := Lib.hid (fun n => rfree_any (b + 1) nu s.look r uv U (w.drewN n) (h1.urow.later ((Ext.refl w).drewN' n)) (by omega) hr (ht.later ((Ext.refl w).drewN' n)))
  have HF1 := Lib.hid (show Fit { s with used := s.used + 1 } from ⟨hfit.base, hfit.pages, hfit.cls, hfit.elem0, hfit.elem, hfit.slots, hu, hfit.look, hfit.magic, hfit.state, hfit.bytes⟩)
  have HF2 := Lib.hid (show Fit (sNext s r) from ⟨hfit.base, hfit.pages, hfit.cls, hfit.elem0, hfit.elem, hfit.slots, hu, hf, hfit.magic, hfit.state, hfit.bytes⟩)
  have HS := Lib.hid (show ∀ n, Calls Tryd.prog 29 #[.pointer (some ⟨b, 11, none⟩), .int .i64 r] (w.drewN n) fun e w1 => e = .returned (.tuple #[]) ∧ w1.cell? ⟨b, 7, none⟩ = some (.int .i64 s.used) ∧ w1.cell? ⟨b, 13, none⟩ = some (.int .i64 s.look) ∧ (∀ k, w1.frozen? ⟨b, k, none⟩ = false) ∧ Hid (Turned w b F (sNext s r) (setB U r 1) M ((w1.setCell ⟨b, 7, none⟩ (.int .i64 ((s.used : Int) + 1))).setCell ⟨b, 13, none⟩ (.int .i64 ((r : Int) + 1)))) from fun n => by
    refine (rset_any b 11 nu r uv U (w.drewN n) (h1.urow.later ((Ext.refl w).drewN' n)) c11 (h1.fz 11) h1.lt (by omega)).mono ?_
    intro e w1 hp
    have hT := turned_setU h1 h2 h.lt hfit ((Ext.refl w).drewN' n) rfl hp.2
    have hT1 := turned_put hT 7 (by omega) (.int .i64 ((s.used : Int) + 1)) (s' := { s with used := s.used + 1 }) (fun uv mv => rfl) HF1.out hb
    have hT2 := turned_put hT1 13 (by omega) (.int .i64 ((r : Int) + 1)) (s' := sNext s r) (fun uv mv => rfl) HF2.out hb
    obtain ⟨⟨⟨uv1, mv1, nu1, nm1, g1, g2⟩, g3, g4⟩, g5⟩ := hT
    exact ⟨hp.1, g1.cells 7 (by omega), g1.cells 13 (by omega), g1.fz, Lib.hid hT2⟩)
  clear h h1 h2 hfit
  go_enter Tryd.func12, Tryd.ntmps12
  go_wp2_with fail
  go_quiet ((go_at_call 28; exact Calls.quiet_of_same ((HC.out _).mono fun _ _ ⟨a, b⟩ => ⟨a, b.symm⟩)))
  go_wp2_with (go_at_call 29; refine (HS.out _).mono ?_; rintro e w1 ⟨rfl, c7, d13, f7, hT⟩; clear c2 c6 c11 c13)
  go_ret2
  exact ⟨rfl, hT.out⟩

end Go.Proofs.YticaamdghjfifaaDoor
