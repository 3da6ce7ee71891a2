/- What Find answers, said in counts. -/
import Derived.Test.YtahabnepjjcgoaaBitsD
namespace Go.Proofs.Ytahabnepjjcgoaa
open Go.RowKit
set_option linter.unusedVariables false

theorem cntF_nat (f : Nat → Bool) (q n : Nat) (h : q + n ≤ 512) : cntF f q n = (cnt f q n : Nat) := by
  unfold cntF rightB
  rw [if_pos (by simp; omega)]
  rfl

theorem find_form (f : Nat → Bool) (n frm : Nat) (h1 : 1 ≤ n) (h2 : n ≤ 512) (h3 : frm ≤ 512) :
    (∃ p : Nat, findI f n frm = p ∧ findB f n frm = true ∧ frm ≤ p ∧ p + n ≤ 512 ∧ cntF f p n = 0 ∧ ∀ q : Nat, frm ≤ q → q < p → cntF f q n ≠ 0) ∨
    (findI f n frm = 0 ∧ findB f n frm = false ∧ ∀ q : Nat, frm ≤ q → q < 513 - n → cntF f q n ≠ 0) := by
  have ho : findO f n frm = findG f n (512 - frm) frm 0 := by unfold findO; rw [if_neg (by omega)]; rfl
  have hs := findG_spec f n (by omega) (512 - frm) frm 0 frm (by omega) (by omega) (fun j h4 h5 => by omega) (fun p h4 h5 => by omega) (.inl (by omega))
  have one : ∀ q j : Nat, q + n ≤ 512 → q ≤ j → j < q + n → f j = true → cntF f q n ≠ 0 := fun q j h4 h5 h6 h7 h8 => by
    rw [cntF_nat f q n h4] at h8
    rw [cnt_eq_zero f n q (by omega) j h5 h6] at h7
    cases h7
  unfold findI findB
  rw [ho]
  revert hs
  cases findG f n (512 - frm) frm 0 with
  | none =>
    intro hs
    refine .inr ⟨rfl, rfl, fun q h4 h5 => ?_⟩
    obtain ⟨j, a, b, c⟩ := hs q h4 (by omega)
    exact one q j (by omega) a b c
  | some p =>
    rintro ⟨a, b, c, d⟩
    refine .inl ⟨p, rfl, rfl, a, by omega, ?_, fun q h4 h5 => ?_⟩
    · rw [cntF_nat f p n (by omega), cnt_zero n p c]; rfl
    · obtain ⟨j, e, g, h⟩ := d q h4 h5
      exact one q j (by omega) e g h

end Go.Proofs.Ytahabnepjjcgoaa
