/- The contract of a span's Sweep, as the laws take it. -/
import Derived.Test.YticaamdghjfifaaDoorSweep
namespace Go.Proofs.YticaamdghjfifaaDoor
open Go.RowKit
set_option linter.unusedVariables false

theorem SpanIs.sub {w : World} {b : Nat} {F F' : Nat → Prop} {s : Sp} {U M : Nat → Bool} (h : SpanIs w b F s U M) (hs : ∀ k, F k → F' k) (hl : ∀ k, F' k → k < w.heap.size) : SpanIs w b F' s U M := by
  obtain ⟨⟨uv, mv, nu, nm, h1, h2⟩, h3, h4⟩ := h
  exact ⟨⟨uv, mv, nu, nm, h1, fun k hk => hs k (h2 k hk)⟩, hl, h4⟩

def sSweep (s : Sp) (m : Nat) : Sp := { s with used := s.used - m, look := 0 }

theorem swl_to (g : Nat → Bool) (c d : Nat) (h : ∀ i, g i = true → i < c ∧ i < d) : swl g c = swl g d := by
  have hf : ∀ i, ¬ (i < c ∧ i < d) → g i = false := fun i hi => by
    cases e : g i
    · rfl
    · exact absurd (h i e) hi
  rcases Nat.le_total c d with hcd | hcd
  · have := swl_skip g c (d - c) (fun i h1 h2 => hf i (by omega))
    rw [show c + (d - c) = d by omega] at this
    exact this.symm
  · have := swl_skip g d (c - d) (fun i h1 h2 => hf i (by omega))
    rw [show d + (c - d) = c by omega] at this
    exact this

theorem sweep_state (b : Nat) (F : Nat → Prop) (s : Sp) (U M : Nat → Bool) (w : World) (h : SpanIs w b F s U M) (hd : s.state ≠ 1) :
    Calls Tryd.prog 15 #[.pointer (some ⟨b, 0, none⟩)] w fun r w' => r = .returned (.tuple #[.slice none 0 0, .int .i64 33]) ∧ w = w' := by
  obtain ⟨uv, mv, nu, nm, h1, h2⟩ := h.at_
  have c2 : w.cell? ⟨b, 2, none⟩ = some (.int .i64 s.state) := h1.cells 2 (by omega)
  have k0 : ((s.state : Int) == 1) = false := beq_eq_false_iff_ne.2 (by omega)
  clear h h1 h2
  go_enter Tryd.func15, Tryd.ntmps15
  go_wp2
  go_ret2
  exact ⟨rfl, rfl⟩

theorem sweep_zombie (b : Nat) (F : Nat → Prop) (s : Sp) (U M : Nat → Bool) (w : World) (h : SpanIs w b F s U M) (hd : s.state = 1) (j : Nat) (hj : zB U M j = true) :
    Calls Tryd.prog 15 #[.pointer (some ⟨b, 0, none⟩)] w fun r w' => r = .returned (.tuple #[.slice none 0 0, .int .i64 40]) ∧ w = w' := by
  obtain ⟨uv, mv, nu, nm, h1, h2⟩ := h.at_
  have c2 : w.cell? ⟨b, 2, none⟩ = some (.int .i64 s.state) := h1.cells 2 (by omega)
  rw [hd] at c2
  have HZ := Lib.hid (zombie_yes b s uv mv nu nm U M w h1 j hj)
  clear h h1 h2
  go_enter Tryd.func15, Tryd.ntmps15
  go_wp2_with (go_at_call 32; refine HZ.out.mono ?_; rintro r w1 ⟨rfl, rfl⟩)
  go_ret2
  exact ⟨rfl, rfl⟩

theorem sweep_yes (b : Nat) (F : Nat → Prop) (s : Sp) (U M : Nat → Bool) (w : World) (h : SpanIs w b F s U M) (h0 : ¬ F 0) (hd : s.state = 1) (hz : ∀ j, zB U M j = false) (hUs : ∀ j, U j = true → j < s.slots) (ht : TzAt w) (hc : (swl (gB U M) s.slots).length ≤ s.used) :
    Calls Tryd.prog 15 #[.pointer (some ⟨b, 0, none⟩)] w fun r w' => ∃ v, r = .returned (.tuple #[v, .int .i64 0]) ∧ w'.ownsRow w.heap.size 3 1 v (swl (gB U M) s.slots).length (ints (swl (gB U M) s.slots)) ∧ SpanIs w' b F (sSweep s (swl (gB U M) s.slots).length) M (fun _ => false) ∧ Chg F w w' := by
  obtain ⟨uv, mv, nu, nm, h1, h2⟩ := h.at_
  have hb : F b := h2 b (.inl rfl)
  refine (sweep_at b F s uv mv nu nm U M w h1 h2 h.lt h0 h.fit hd hz hUs ht).mono ?_
  rintro r w' ⟨v, wr, rfl, hR, rfl⟩
  have hg : ∀ i, gB U M i = true → U i = true := fun i hi => by
    unfold gB at hi; simp only [Bool.and_eq_true] at hi; exact hi.1
  have hUn : ∀ i, U i = true → i < 64 * nu := fun i hi => Nat.lt_of_not_le fun hc => by
    rw [h1.urow.clear i hc] at hi; cases hi
  have eL : swl (gB U M) (64 * nu) = swl (gB U M) s.slots := swl_to _ _ _ fun i hi => ⟨hUn i (hg i hi), hUs i (hg i hi)⟩
  have eU : sU U M nu = M := by
    funext j
    have hzj := hz j
    have hn := hUn j
    unfold zB at hzj
    unfold sU
    cases eU : U j <;> cases eM : M j <;> simp [eU, eM] at hzj hn ⊢
    omega
  obtain ⟨hs, hr, hcg⟩ := hR
  rw [eL] at hr ⊢
  rw [eU] at hs
  generalize swl (gB U M) s.slots = L at *
  have hlt := h.lt
  have hf := h.fit
  have hS : SpanIs wr b F s M M := ⟨⟨uv, mv, nu, nm, hs, h2⟩, fun k hk => Nat.lt_of_lt_of_le (hlt k hk) hcg.size, hf⟩
  have e1 : (s.used : Int) - (L.length : Int) = ((s.used - L.length : Nat) : Int) := by omega
  have hT := turned_put (turned_dropM (turned_put (turned_start hS) 7 (by omega) (.int .i64 ((s.used : Int) - (L.length : Int))) (s' := { s with used := s.used - L.length }) (fun _ _ => by rw [e1]; rfl) ⟨hf.base, hf.pages, hf.cls, hf.elem0, hf.elem, hf.slots, Nat.le_trans (Nat.sub_le _ _) hf.used, hf.look, hf.magic, hf.state, hf.bytes⟩ hb) hb) 13 (by omega) (.int .i64 0) (s' := sSweep s L.length) (fun _ _ => rfl) ⟨hf.base, hf.pages, hf.cls, hf.elem0, hf.elem, hf.slots, Nat.le_trans (Nat.sub_le _ _) hf.used, Nat.zero_le _, hf.magic, hf.state, hf.bytes⟩ hb
  have hv : ∀ g, v.ownBlock = some g → ¬ F g := fun g hg hF => by
    have a1 := (owns_lt hr g hg).1
    have a2 := hlt g hF
    omega
  have he : (((wr.setCell ⟨b, 7, none⟩ (.int .i64 ((s.used : Int) - (L.length : Int)))).setCell ⟨b, 12, none⟩ (.slice none 0 0)).setCell ⟨b, 13, none⟩ (.int .i64 0)).heap.size = wr.heap.size := by rw [World.size_setCell, World.size_setCell, World.size_setCell]
  generalize ((wr.setCell ⟨b, 7, none⟩ (.int .i64 ((s.used : Int) - (L.length : Int)))).setCell ⟨b, 12, none⟩ (.slice none 0 0)).setCell ⟨b, 13, none⟩ (.int .i64 0) = w' at *
  obtain ⟨hT1, hT2⟩ := hT
  have hcw : Chg F w w' := hcg.trans hT2 fun i hi => .inl hi
  refine ⟨v, rfl, owns_chg hr hT2 hv, ?_, hcw⟩
  exact hT1.sub (fun k hk => hk.elim id fun h => by omega) (fun k hk => by have := hlt k hk; have := hcw.size; omega)

end Go.Proofs.YticaamdghjfifaaDoor
