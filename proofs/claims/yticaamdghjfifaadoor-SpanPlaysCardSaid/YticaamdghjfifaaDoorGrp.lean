/- A span that a law made, beside blocks of the law's own. -/
import Derived.Test.YticaamdghjfifaaDoorCnt
namespace Go.Proofs.YticaamdghjfifaaDoor
open Go.RowKit
set_option linter.unusedVariables false

theorem SpanIs.chg {w w' : World} {b : Nat} {F G : Nat → Prop} {s : Sp} {U M : Nat → Bool} (h : SpanIs w b F s U M) (hc : Chg G w w') (hd : ∀ k, F k → ¬ G k) : SpanIs w' b F s U M := by
  obtain ⟨⟨uv, mv, nu, nm, h1, h2⟩, h3, h4⟩ := h
  refine ⟨⟨uv, mv, nu, nm, ⟨fun k hk => (hc.cell h1.lt (hd b (h2 b (.inl rfl)))).trans (h1.cells k hk), fun k => (hc.frozen _).trans (h1.fz k), Nat.lt_of_lt_of_le h1.lt hc.size, h1.urow.chg hc fun g hg => hd g (h2 g (.inr (.inl hg))), h1.mrow.chg hc fun g hg => hd g (h2 g (.inr (.inr hg))), h1.apart⟩, h2⟩, fun k hk => Nat.lt_of_lt_of_le (h3 k hk) hc.size, h4⟩

/-- the span, and the law's own blocks R, which are not the span's. -/
structure AwG (W w : World) (g : Nat) (s : Sp) (U M : Nat → Bool) (R : Nat → Prop) : Prop where
  at_ : ∃ F, SpanIs w g F s U M ∧ (∀ k, F k → W.heap.size ≤ k) ∧ ∀ k, R k → ¬ F k
  lt : ∀ k, R k → k < w.heap.size
  ge : ∀ k, R k → W.heap.size ≤ k
  ext : Ext W w

/-- the blocks R stay. -/
def Kept (R : Nat → Prop) (w w' : World) : Prop := ∀ k, R k → w'.heap[k]? = w.heap[k]?
theorem Kept.refl (R : Nat → Prop) (w : World) : Kept R w w := fun _ _ => rfl
theorem Blk.kept {R : Nat → Prop} {w w' : World} {g : Nat} {t : TypeId} {cs : Array Value} (h : Blk w g t cs) (hk : Kept R w w') (hg : R g) : Blk w' g t cs := (hk g hg).trans h

section
variable {W w w' : World} {g : Nat} {s s' : Sp} {U M U' M' : Nat → Bool} {R : Nat → Prop}

theorem AwG.later (h : AwG W w g s U M R) (hx : Ext w w') : AwG W w' g s U M R ∧ Kept R w w' := by
  obtain ⟨⟨F, h1, h2, h3⟩, h4, h5, h6⟩ := h
  exact ⟨⟨⟨F, h1.later hx, h2, h3⟩, fun k hk => Nat.lt_of_lt_of_le (h4 k hk) hx.size, h5, h6.trans hx⟩, fun k hk => hx.below.block k (h4 k hk)⟩
theorem AwG.turned {F : Nat → Prop} (hT : Turned w g F s' U' M' w') (h2 : ∀ k, F k → W.heap.size ≤ k) (h3 : ∀ k, R k → ¬ F k) (h4 : ∀ k, R k → k < w.heap.size) (h5 : ∀ k, R k → W.heap.size ≤ k) (h6 : Ext W w) : AwG W w' g s' U' M' R ∧ Kept R w w' := by
  refine ⟨⟨⟨_, hT.1, fun k hk => hk.elim (h2 k) fun h => Nat.le_trans h6.size h.1, fun k hk hf => hf.elim (h3 k hk) fun h => ?_⟩, fun k hk => Nat.lt_of_lt_of_le (h4 k hk) hT.2.size, h5, hT.2.ext h6 h2⟩, fun k hk => hT.2.block k (h4 k hk) (h3 k hk)⟩
  have := h4 k hk
  omega
theorem AwG.set (h : AwG W w g s U M R) {r i : Nat} (hr : R r) (u : Value) : AwG W (w.setCell ⟨r, i, none⟩ u) g s U M R := by
  obtain ⟨⟨F, h1, h2, h3⟩, h4, h5, h6⟩ := h
  have hc : Chg (fun k => k = r) w (w.setCell ⟨r, i, none⟩ u) := (Chg.refl (fun k => k = r) w).setCell (p := ⟨r, i, none⟩) (.inl rfl) u
  exact ⟨⟨F, h1.chg hc (fun k hk e => h3 r hr (e ▸ hk)), h2, h3⟩, fun k hk => Nat.lt_of_lt_of_le (h4 k hk) hc.size, h5, h6.setCell (p := ⟨r, i, none⟩) (h5 r hr) u⟩
theorem AwG.row (h : AwG W w g s U M R) (cs : Array Value) (t : TypeId) : AwG W (w.alloc (.cells cs t)) g s U M (fun k => R k ∨ k = w.heap.size) := by
  obtain ⟨⟨F, h1, h2, h3⟩, h4, h5, h6⟩ := h
  have hx : Ext w (w.alloc (.cells cs t)) := (Ext.refl w).alloc cs t
  have hs := World.size_alloc w (.cells cs t)
  refine ⟨⟨F, h1.later hx, h2, fun k hk => hk.elim (h3 k) fun e hf => ?_⟩, fun k hk => ?_, fun k hk => hk.elim (h5 k) fun e => e ▸ h6.size, h6.trans hx⟩
  · have := h1.lt k hf
    omega
  · rcases hk with hk | rfl
    · exact Nat.lt_of_lt_of_le (h4 k hk) hx.size
    · omega
theorem AwG.fewer {R' : Nat → Prop} (h : AwG W w g s U M R) (hR : ∀ k, R' k → R k) : AwG W w g s U M R' := by
  obtain ⟨⟨F, h1, h2, h3⟩, h4, h5, h6⟩ := h
  exact ⟨⟨F, h1, h2, fun k hk => h3 k (hR k hk)⟩, fun k hk => h4 k (hR k hk), fun k hk => h5 k (hR k hk), h6⟩
theorem AwG.of (h : AwS W w g s U M) : AwG W w g s U M (fun _ => False) := by
  obtain ⟨⟨F, h1, h2⟩, h3⟩ := h
  exact ⟨⟨F, h1, h2, fun k hk => hk.elim⟩, fun k hk => hk.elim, fun k hk => hk.elim, h3⟩

/-! calls -/
theorem g_next (h : AwG W w g s U M R) (ht : TzAt W) (r : Nat) (hd : s.state ≠ 0) (hr : freeAt U s.look r) (hf : r < s.slots) (hu : s.used < s.slots) :
    Calls Tryd.prog 12 #[.pointer (some ⟨g, 0, none⟩)] w fun e w' => e = .returned (.tuple #[.int .i64 r, .int .i64 0]) ∧ AwG W w' g (sNext s r) (setB U r 1) M R ∧ Kept R w w' := by
  obtain ⟨⟨F, h1, h2, h3⟩, h4, h5, h6⟩ := h
  refine (next_some g F s U M w h1 hd (ht.later h6) r hr hf hu).mono ?_
  rintro e w' ⟨rfl, hT⟩
  exact ⟨rfl, AwG.turned hT h2 h3 h4 h5 h6⟩
theorem g_next_full (h : AwG W w g s U M R) (ht : TzAt W) (r : Nat) (hd : s.state ≠ 0) (hr : freeAt U s.look r) (hf : s.slots ≤ r) (hr1 : r < 9223372036854775808) :
    Calls Tryd.prog 12 #[.pointer (some ⟨g, 0, none⟩)] w fun e w' => e = .returned (.tuple #[.int .i64 0, .int .i64 30]) ∧ AwG W w' g s U M R ∧ Kept R w w' := by
  have h0 := h
  obtain ⟨⟨F, h1, h2, h3⟩, h4, h5, h6⟩ := h
  refine (next_full g F s U M w h1 hd (ht.later h6) r hr hf hr1).mono ?_
  rintro e w' ⟨rfl, hx⟩
  exact ⟨rfl, h0.later hx⟩
theorem g_give (h : AwG W w g s U M R) (n : Nat) (hd : s.state = 2) (hn : n < s.slots) (hu : U n = true) (hp : 0 < s.used) :
    Calls Tryd.prog 21 #[.pointer (some ⟨g, 0, none⟩), .int .i64 n] w fun e w' => e = .returned (.int .i64 0) ∧ AwG W w' g (sGive s n) (clrB U n 1) M R ∧ Kept R w w' := by
  obtain ⟨⟨F, h1, h2, h3⟩, h4, h5, h6⟩ := h
  refine (give_yes g F s U M n w h1 hd hn hu hp).mono ?_
  rintro e w' ⟨rfl, hT⟩
  exact ⟨rfl, AwG.turned hT h2 h3 h4 h5 h6⟩
theorem g_give_free (h : AwG W w g s U M R) (n : Nat) (hd : s.state = 2) (hn : n < s.slots) (hu : U n = false) :
    Calls Tryd.prog 21 #[.pointer (some ⟨g, 0, none⟩), .int .i64 n] w fun e w' => e = .returned (.int .i64 31) ∧ w = w' := by
  obtain ⟨⟨F, h1, h2, h3⟩, h4, h5, h6⟩ := h
  exact give_free g F s U M n w h1 hd hn hu
theorem g_give_arg (h : AwG W w g s U M R) (i : Int) (hd : s.state = 2) (ht : thereB s i = false) :
    Calls Tryd.prog 21 #[.pointer (some ⟨g, 0, none⟩), .int .i64 i] w fun e w' => e = .returned (.int .i64 1) ∧ w = w' := by
  obtain ⟨⟨F, h1, h2, h3⟩, h4, h5, h6⟩ := h
  exact give_arg g F s U M i w h1 hd ht
theorem g_mark (h : AwG W w g s U M R) (n : Nat) (hd : s.state = 1) (hn : n < s.slots) :
    Calls Tryd.prog 14 #[.pointer (some ⟨g, 0, none⟩), .int .i64 n] w fun e w' => e = .returned (.int .i64 0) ∧ AwG W w' g s U (setB M n 1) R ∧ Kept R w w' := by
  obtain ⟨⟨F, h1, h2, h3⟩, h4, h5, h6⟩ := h
  refine (mark_yes g F s U M n w h1 hd hn).mono ?_
  rintro e w' ⟨rfl, hT⟩
  exact ⟨rfl, AwG.turned hT h2 h3 h4 h5 h6⟩
theorem g_mark_arg (h : AwG W w g s U M R) (i : Int) (hd : s.state = 1) (ht : thereB s i = false) :
    Calls Tryd.prog 14 #[.pointer (some ⟨g, 0, none⟩), .int .i64 i] w fun e w' => e = .returned (.int .i64 1) ∧ w = w' := by
  obtain ⟨⟨F, h1, h2, h3⟩, h4, h5, h6⟩ := h
  exact mark_arg g F s U M i w h1 hd ht
theorem g_mark_state (h : AwG W w g s U M R) (hd : s.state ≠ 1) (i : Int) :
    Calls Tryd.prog 14 #[.pointer (some ⟨g, 0, none⟩), .int .i64 i] w fun e w' => e = .returned (.int .i64 33) ∧ w = w' := by
  obtain ⟨⟨F, h1, h2, h3⟩, h4, h5, h6⟩ := h
  exact mark_state g F s U M i w h1 hd
theorem g_sweep_state (h : AwG W w g s U M R) (hd : s.state ≠ 1) :
    Calls Tryd.prog 15 #[.pointer (some ⟨g, 0, none⟩)] w fun e w' => e = .returned (.tuple #[.slice none 0 0, .int .i64 33]) ∧ w = w' := by
  obtain ⟨⟨F, h1, h2, h3⟩, h4, h5, h6⟩ := h
  exact sweep_state g F s U M w h1 hd
theorem g_sweep (h : AwG W w g s U M R) (ht : TzAt W) (hd : s.state = 1) (hz : ∀ j, zB U M j = false) (hUs : ∀ j, U j = true → j < s.slots) (hc : (swl (gB U M) s.slots).length ≤ s.used) :
    Calls Tryd.prog 15 #[.pointer (some ⟨g, 0, none⟩)] w fun r w' => ∃ v, r = .returned (.tuple #[v, .int .i64 0]) ∧ w'.ownsRow w.heap.size 3 1 v (swl (gB U M) s.slots).length (ints (swl (gB U M) s.slots)) ∧ AwG W w' g (sSweep s (swl (gB U M) s.slots).length) M (fun _ => false) R ∧ Kept R w w' := by
  obtain ⟨⟨F, h1, h2, h3⟩, h4, h5, h6⟩ := h
  refine (sweep_yes g F s U M w h1 (fun h0 => by have := h2 0 h0; have := ht.1; omega) hd hz hUs (ht.later h6) hc).mono ?_
  rintro r w' ⟨v, rfl, ho, hS, hcg⟩
  exact ⟨v, rfl, ho, ⟨⟨F, hS, h2, h3⟩, fun k hk => Nat.lt_of_lt_of_le (h4 k hk) hcg.size, h5, hcg.ext h6 h2⟩, fun k hk => hcg.block k (h4 k hk) (h3 k hk)⟩
theorem g_info (h : AwG W w g s U M R) :
    Calls Tryd.prog 16 #[.pointer (some ⟨g, 0, none⟩)] w fun r w' => r = .returned (.agg (infoL s).toArray) ∧ AwG W w' g s U M R ∧ Kept R w w' := by
  have h0 := h
  obtain ⟨⟨F, h1, h2, h3⟩, h4, h5, h6⟩ := h
  refine (info_any g F s U M w h1).mono ?_
  rintro r w' ⟨rfl, hx⟩
  exact ⟨rfl, h0.later hx⟩
theorem g_used (h : AwG W w g s U M R) (i : Int) :
    Calls Tryd.prog 13 #[.pointer (some ⟨g, 0, none⟩), .int .i64 i] w fun r w' => r = .returned (.bool (thereB s i && U i.toNat)) ∧ w = w' := by
  obtain ⟨⟨F, h1, h2, h3⟩, h4, h5, h6⟩ := h
  obtain ⟨uv, mv, nu, nm, q1, q2⟩ := h1.at_
  exact used_any g s uv mv nu nm U M i w q1 h1.fit
end

end Go.Proofs.YticaamdghjfifaaDoor
