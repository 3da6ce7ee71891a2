/- A span that a law made: what its calls leave, when nothing else is at stake. -/
import Derived.Test.YticaamdghjfifaaDoorNew
namespace Go.Proofs.YticaamdghjfifaaDoor
open Go.RowKit
set_option linter.unusedVariables false

structure AwS (W w : World) (g : Nat) (s : Sp) (U M : Nat → Bool) : Prop where
  at_ : ∃ F, SpanIs w g F s U M ∧ ∀ k, F k → W.heap.size ≤ k
  ext : Ext W w

theorem AwS.later {W w w' : World} {g : Nat} {s : Sp} {U M : Nat → Bool} (h : AwS W w g s U M) (hx : Ext w w') : AwS W w' g s U M := by
  obtain ⟨⟨F, h1, h2⟩, h3⟩ := h
  exact ⟨⟨F, h1.later hx, h2⟩, h3.trans hx⟩

theorem AwS.turned {W w w' : World} {g : Nat} {F : Nat → Prop} {s : Sp} {U M : Nat → Bool} (hT : Turned w g F s U M w') (hF : ∀ k, F k → W.heap.size ≤ k) (hx : Ext W w) : AwS W w' g s U M :=
  ⟨⟨_, hT.1, fun k hk => hk.elim (hF k) fun h => Nat.le_trans hx.size h.1⟩, hT.2.ext hx hF⟩

theorem aw_new (page c : Nat) (noptr : Bool) (w : World) (hc0 : 1 ≤ c) (hc : c ≤ 67) (h3 : page + pgN c ≤ 34359738368) :
    Calls Tryd.prog 11 #[.int .u64 page, .int .u64 (pgN c : Nat), .int .i64 c, .bool noptr] w fun r w' => ∃ g, r = .returned (.tuple #[.pointer (some ⟨g, 0, none⟩), .int .i64 0]) ∧ AwS w w' g (sNew page c noptr) (fun _ => false) (fun _ => false) := by
  refine (new_yes page c noptr w hc0 hc h3).mono ?_
  rintro r w' ⟨g, rfl, hg, hS, hx⟩
  exact ⟨g, rfl, ⟨_, hS, fun k hk => by subst hk; exact hg⟩, hx⟩

theorem aw_manual (page pages elem : Nat) (w : World) (h1 : 0 < pages) (h2 : pages ≤ 134217728) (h3 : page + pages ≤ 34359738368) (h4 : 8 ≤ elem) (h5 : elem ≤ pages * 8192) :
    Calls Tryd.prog 20 #[.int .u64 page, .int .u64 pages, .int .i64 elem] w fun r w' => ∃ g, r = .returned (.tuple #[.pointer (some ⟨g, 0, none⟩), .int .i64 0]) ∧ AwS w w' g (sMan page pages elem) (fun _ => false) (fun _ => false) := by
  refine (manual_yes page pages elem w h1 h2 h3 h4 h5).mono ?_
  rintro r w' ⟨rfl, hS, hx⟩
  exact ⟨_, rfl, ⟨_, hS, fun k hk => by subst hk; exact Nat.le_refl _⟩, hx⟩

section
variable {W w : World} {g : Nat} {s : Sp} {U M : Nat → Bool}

theorem aw_next (h : AwS W w g s U M) (ht : TzAt W) (r : Nat) (hd : s.state ≠ 0) (hr : freeAt U s.look r) (hf : r < s.slots) (hu : s.used < s.slots) :
    Calls Tryd.prog 12 #[.pointer (some ⟨g, 0, none⟩)] w fun e w' => e = .returned (.tuple #[.int .i64 r, .int .i64 0]) ∧ AwS W w' g (sNext s r) (setB U r 1) M := by
  obtain ⟨⟨F, h1, h2⟩, h3⟩ := h
  refine (next_some g F s U M w h1 hd (ht.later h3) r hr hf hu).mono ?_
  rintro e w' ⟨rfl, hT⟩
  exact ⟨rfl, AwS.turned hT h2 h3⟩

theorem aw_mark (h : AwS W w g s U M) (n : Nat) (hd : s.state = 1) (hn : n < s.slots) :
    Calls Tryd.prog 14 #[.pointer (some ⟨g, 0, none⟩), .int .i64 n] w fun e w' => e = .returned (.int .i64 0) ∧ AwS W w' g s U (setB M n 1) := by
  obtain ⟨⟨F, h1, h2⟩, h3⟩ := h
  refine (mark_yes g F s U M n w h1 hd hn).mono ?_
  rintro e w' ⟨rfl, hT⟩
  exact ⟨rfl, AwS.turned hT h2 h3⟩

theorem aw_sweep (h : AwS W w g s U M) (ht : TzAt W) (hd : s.state = 1) (hz : ∀ j, zB U M j = false) (hUs : ∀ j, U j = true → j < s.slots) (L : List Nat) (hL : swl (gB U M) s.slots = L) (hc : L.length ≤ s.used) :
    Calls Tryd.prog 15 #[.pointer (some ⟨g, 0, none⟩)] w fun r w' => ∃ v, r = .returned (.tuple #[v, .int .i64 0]) ∧ w'.ownsRow W.heap.size 3 1 v L.length (ints L) ∧ AwS W w' g (sSweep s L.length) M (fun _ => false) := by
  obtain ⟨⟨F, h1, h2⟩, h3⟩ := h
  subst hL
  refine (sweep_yes g F s U M w h1 (fun h0 => by have := h2 0 h0; have := ht.1; omega) hd hz hUs (ht.later h3) hc).mono ?_
  rintro r w' ⟨v, rfl, ho, hS, hcg⟩
  exact ⟨v, rfl, owns_rebase ho (fun k hk => Nat.le_trans h3.size (owns_lt ho k hk).1), ⟨F, hS, h2⟩, hcg.ext h3 h2⟩

theorem aw_info (h : AwS W w g s U M) :
    Calls Tryd.prog 16 #[.pointer (some ⟨g, 0, none⟩)] w fun r w' => r = .returned (.agg (infoL s).toArray) ∧ Ext w w' := by
  obtain ⟨⟨F, h1, h2⟩, h3⟩ := h
  exact info_any g F s U M w h1
end

/-! ### awake -/
def aU : Nat → Bool := setB (setB (fun _ => false) 0 1) 1 1
def aM : Nat → Bool := setB (fun _ => false) 1 1
def aS : Sp := sNext (sNext (sNew 512 5 false) 0) 1

theorem aw_free0 : freeAt (fun _ => false) (sNew 512 5 false).look 0 := ⟨Nat.le_refl _, rfl, fun j h1 h2 => by omega⟩
theorem aw_free1 : freeAt (setB (fun _ => false) 0 1) (sNext (sNew 512 5 false) 0).look 1 := ⟨Nat.le_refl _, by decide, fun j (h1 : 1 ≤ j) h2 => by omega⟩
theorem aw_swl : swl (gB aU aM) aS.slots = [0] := by decide +kernel
theorem aw_zomb : ∀ j, zB aU aM j = false := fun j => by
  unfold zB aU aM setB inB
  by_cases h : j = 1
  · subst h; decide
  · rw [decide_eq_false (show ¬ (1 ≤ j ∧ j < 1 + 1) by omega)]; rfl
theorem aw_low : ∀ j, aU j = true → j < aS.slots := fun j hj => by
  have e : aS.slots = 170 := by decide +kernel
  rw [e]
  refine Nat.lt_of_not_le fun hc => ?_
  unfold aU setB inB at hj
  rw [decide_eq_false (show ¬ (1 ≤ j ∧ j < 1 + 1) by omega), decide_eq_false (show ¬ (0 ≤ j ∧ j < 0 + 1) by omega)] at hj
  cases hj

end Go.Proofs.YticaamdghjfifaaDoor
