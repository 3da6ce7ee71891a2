/- The walk of SpanEnds. -/
import Derived.Test.YticaamdghjfifaaDoorAwake
namespace Go.Proofs.YticaamdghjfifaaDoor
open Go.RowKit
set_option linter.unusedVariables false

section
variable {W w : World} {g : Nat} {s : Sp} {U M : Nat → Bool}

theorem aw_give (h : AwS W w g s U M) (n : Nat) (hd : s.state = 2) (hn : n < s.slots) (hu : U n = true) (hp : 0 < s.used) :
    Calls Tryd.prog 21 #[.pointer (some ⟨g, 0, none⟩), .int .i64 n] w fun e w' => e = .returned (.int .i64 0) ∧ AwS W w' g (sGive s n) (clrB U n 1) M := by
  obtain ⟨⟨F, h1, h2⟩, h3⟩ := h
  refine (give_yes g F s U M n w h1 hd hn hu hp).mono ?_
  rintro e w' ⟨rfl, hT⟩
  exact ⟨rfl, AwS.turned hT h2 h3⟩
theorem aw_give_free (h : AwS W w g s U M) (n : Nat) (hd : s.state = 2) (hn : n < s.slots) (hu : U n = false) :
    Calls Tryd.prog 21 #[.pointer (some ⟨g, 0, none⟩), .int .i64 n] w fun e w' => e = .returned (.int .i64 31) ∧ w = w' := by
  obtain ⟨⟨F, h1, h2⟩, h3⟩ := h
  exact give_free g F s U M n w h1 hd hn hu
theorem aw_die (h : AwS W w g s U M) (hd : s.state ≠ 0) (hu : s.used = 0) :
    Calls Tryd.prog 22 #[.pointer (some ⟨g, 0, none⟩)] w fun e w' => e = .returned (.int .i64 0) ∧ AwS W w' g (sDie s) (fun _ => false) (fun _ => false) := by
  obtain ⟨⟨F, h1, h2⟩, h3⟩ := h
  refine (die_yes g F s U M w h1 hd hu).mono ?_
  rintro e w' ⟨rfl, hT⟩
  exact ⟨rfl, AwS.turned hT h2 h3⟩
theorem aw_die_no (h : AwS W w g s U M) (hd : s.state = 0 ∨ 0 < s.used) :
    Calls Tryd.prog 22 #[.pointer (some ⟨g, 0, none⟩)] w fun e w' => e = .returned (.int .i64 33) ∧ w = w' := by
  obtain ⟨⟨F, h1, h2⟩, h3⟩ := h
  exact die_no g F s U M w h1 hd
theorem aw_next_dead (h : AwS W w g s U M) (hd : s.state = 0) :
    Calls Tryd.prog 12 #[.pointer (some ⟨g, 0, none⟩)] w fun e w' => e = .returned (.tuple #[.int .i64 0, .int .i64 33]) ∧ w = w' := by
  obtain ⟨⟨F, h1, h2⟩, h3⟩ := h
  exact next_dead g F s U M w h1 hd
theorem aw_sweep_state (h : AwS W w g s U M) (hd : s.state ≠ 1) :
    Calls Tryd.prog 15 #[.pointer (some ⟨g, 0, none⟩)] w fun e w' => e = .returned (.tuple #[.slice none 0 0, .int .i64 33]) ∧ w = w' := by
  obtain ⟨⟨F, h1, h2⟩, h3⟩ := h
  exact sweep_state g F s U M w h1 hd
theorem aw_give_state (h : AwS W w g s U M) (hd : s.state ≠ 2) (i : Int) :
    Calls Tryd.prog 21 #[.pointer (some ⟨g, 0, none⟩), .int .i64 i] w fun e w' => e = .returned (.int .i64 33) ∧ w = w' := by
  obtain ⟨⟨F, h1, h2⟩, h3⟩ := h
  exact give_state g F s U M i w h1 hd
theorem aw_mark_state (h : AwS W w g s U M) (hd : s.state ≠ 1) (i : Int) :
    Calls Tryd.prog 14 #[.pointer (some ⟨g, 0, none⟩), .int .i64 i] w fun e w' => e = .returned (.int .i64 33) ∧ w = w' := by
  obtain ⟨⟨F, h1, h2⟩, h3⟩ := h
  exact mark_state g F s U M i w h1 hd
end

def ltB (k : Nat) : Nat → Bool := fun j => decide (j < k)
def noB : Nat → Bool := fun _ => false
theorem ltB_zero : ltB 0 = fun _ => false := by funext j; unfold ltB; simp
theorem ltB_set (k : Nat) : setB (ltB k) k 1 = ltB (k + 1) := by
  funext j
  unfold setB inB ltB
  by_cases h : j < k
  · rw [decide_eq_true h, decide_eq_true (show j < k + 1 by omega)]; rfl
  · rw [decide_eq_false h, Bool.false_or, decide_eq_decide]; omega
theorem ltB_clr (k : Nat) : clrB (ltB (k + 1)) k 1 = ltB k := by
  funext j
  unfold clrB inB ltB
  by_cases h : j < k
  · rw [decide_eq_true h, decide_eq_true (show j < k + 1 by omega), decide_eq_false (show ¬ (k ≤ j ∧ j < k + 1) by omega)]; rfl
  · rw [decide_eq_false h]
    by_cases h2 : j = k
    · subst h2; simp
    · rw [decide_eq_false (show ¬ j < k + 1 by omega)]; rfl
theorem ltB_free (k : Nat) : freeAt (ltB k) k k := ⟨Nat.le_refl _, by unfold ltB; simp, fun j h1 h2 => by omega⟩

/-- the manual span of SpanEnds when the first k slots are used. -/
def sE (e k : Nat) : Sp := ⟨24576, 8, 2, 0, false, e, 65536 / e, k, false, false, 0, k⟩
theorem sE_slots (e : Nat) (h1 : 8 ≤ e) (h2 : e ≤ 8192) : 8 ≤ 65536 / e := (Nat.le_div_iff_mul_le (by omega)).2 (by omega)

/-- the span of SpanEnds with k used slots. -/
def EnS (W w : World) (g e k : Nat) : Prop := AwS W w g (sE e k) (ltB k) noB

theorem en_new (e : Nat) (w : World) (h4 : 8 ≤ e) (h5 : e ≤ 8192) :
    Calls Tryd.prog 20 #[.int .u64 3, .int .u64 8, .int .i64 e] w fun r w' => ∃ g, r = .returned (.tuple #[.pointer (some ⟨g, 0, none⟩), .int .i64 0]) ∧ EnS w w' g e 0 := by
  refine (aw_manual 3 8 e w (by omega) (by omega) (by omega) h4 (by omega)).mono ?_
  rintro r w' ⟨g, rfl, h⟩
  refine ⟨g, rfl, ?_⟩
  unfold EnS
  rw [ltB_zero]
  exact h
theorem en_next {W w : World} {g e k : Nat} (h : EnS W w g e k) (ht : TzAt W) (hk : k < 8) (h1 : 8 ≤ e) (h2 : e ≤ 8192) :
    Calls Tryd.prog 12 #[.pointer (some ⟨g, 0, none⟩)] w fun r w' => r = .returned (.tuple #[.int .i64 k, .int .i64 0]) ∧ EnS W w' g e (k + 1) := by
  have hs := sE_slots e h1 h2
  have := aw_next h ht k (by show (2 : Nat) ≠ 0; decide) (ltB_free k) (by show k < 65536 / e; omega) (by show k < 65536 / e; omega)
  rw [ltB_set] at this
  exact this
theorem en_give {W w : World} {g e k : Nat} (h : EnS W w g e (k + 1)) (hk : k < 8) (h1 : 8 ≤ e) (h2 : e ≤ 8192) :
    Calls Tryd.prog 21 #[.pointer (some ⟨g, 0, none⟩), .int .i64 k] w fun r w' => r = .returned (.int .i64 0) ∧ EnS W w' g e k := by
  have hs := sE_slots e h1 h2
  have := aw_give h k rfl (by show k < 65536 / e; omega) (by unfold ltB; simp) (by show 0 < k + 1; omega)
  rw [ltB_clr] at this
  have e1 : sGive (sE e (k + 1)) k = sE e k := by
    unfold sGive sE
    simp
  rw [e1] at this
  exact this
theorem en_free {W w : World} {g e k : Nat} (h : EnS W w g e k) (hk : k < 8) (h1 : 8 ≤ e) (h2 : e ≤ 8192) :
    Calls Tryd.prog 21 #[.pointer (some ⟨g, 0, none⟩), .int .i64 k] w fun r w' => r = .returned (.int .i64 31) ∧ w = w' := by
  have hs := sE_slots e h1 h2
  exact aw_give_free h k rfl (by show k < 65536 / e; omega) (by unfold ltB; simp)
/-- a dead span of SpanEnds. -/
def DeS (W w : World) (g e : Nat) : Prop := AwS W w g (sDie (sE e 0)) noB noB
theorem en_die {W w : World} {g e : Nat} (h : EnS W w g e 0) :
    Calls Tryd.prog 22 #[.pointer (some ⟨g, 0, none⟩)] w fun r w' => r = .returned (.int .i64 0) ∧ DeS W w' g e :=
  aw_die h (by show (2 : Nat) ≠ 0; decide) rfl
theorem en_die_no {W w : World} {g e k : Nat} (h : EnS W w g e k) (hk : 0 < k) :
    Calls Tryd.prog 22 #[.pointer (some ⟨g, 0, none⟩)] w fun r w' => r = .returned (.int .i64 33) ∧ w = w' :=
  aw_die_no h (.inr hk)
theorem de_info {W w : World} {g e : Nat} (h : DeS W w g e) :
    Calls Tryd.prog 16 #[.pointer (some ⟨g, 0, none⟩)] w fun r w' => r = .returned (.agg #[.int .u64 24576, .int .i64 8, .int .i64 0, .int .i64 0, .bool false, .int .i64 e, .int .i64 (65536 / e : Nat), .int .i64 0, .bool false, .bool false]) ∧ Ext w w' :=
  aw_info h

end Go.Proofs.YticaamdghjfifaaDoor
