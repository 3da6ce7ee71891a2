/- What is told of a row: its longest row of clear bits, those at its start and at its end; no program in sight. -/
import Derived.Test.YtbfnadfbanhgcaaFindP
namespace Go.Proofs.Ytbfnadfbanhgcaa
open Go.RowKit
set_option linter.unusedVariables false

theorem endS_spec (f : Nat → Bool) : ∀ k, (∀ j, k - endS f k ≤ j → j < k → f j = false) ∧ (endS f k = k ∨ f (k - endS f k - 1) = true)
  | 0 => ⟨fun j _ h => by omega, .inl rfl⟩
  | k + 1 => by
    obtain ⟨h1, h2⟩ := endS_spec f k
    have hl := endS_le f k
    cases hf : f k
    · have e : endS f (k + 1) = endS f k + 1 := by show (if f k = true then 0 else _) = _; rw [if_neg (by rw [hf]; decide)]
      rw [e]
      refine ⟨fun j h3 h4 => ?_, ?_⟩
      · by_cases h5 : j = k
        · rw [h5]; exact hf
        · exact h1 j (by omega) (by omega)
      · rcases h2 with h2 | h2
        · left; omega
        · right; rw [show k + 1 - (endS f k + 1) - 1 = k - endS f k - 1 by omega]; exact h2
    · have e : endS f (k + 1) = 0 := by show (if f k = true then 0 else _) = _; rw [if_pos hf]
      rw [e]
      exact ⟨fun j h3 h4 => by omega, .inr hf⟩

theorem startS_spec (f : Nat → Bool) : ∀ k, (∀ j, j < startS f k → f j = false) ∧ (startS f k = k ∨ (startS f k < k ∧ f (startS f k) = true))
  | 0 => ⟨(fun j h => by cases h), .inl rfl⟩
  | k + 1 => by
    obtain ⟨h1, h2⟩ := startS_spec f k
    obtain ⟨g1, g2⟩ := endS_spec f k
    have hl := endS_le f k
    cases hf : f k
    · by_cases he : endS f k = k
      · have e : startS f (k + 1) = k + 1 := by show (if f k = true then _ else if endS f k = k then _ else _) = _; rw [if_neg (by rw [hf]; decide), if_pos he]
        rw [e]
        refine ⟨fun j h3 => ?_, .inl rfl⟩
        by_cases h5 : j = k
        · rw [h5]; exact hf
        · exact g1 j (by omega) (by omega)
      · have e : startS f (k + 1) = startS f k := by show (if f k = true then _ else if endS f k = k then _ else _) = _; rw [if_neg (by rw [hf]; decide), if_neg he]
        rw [e]
        refine ⟨h1, .inr ?_⟩
        rcases h2 with h2 | ⟨h2, h3⟩
        · exfalso
          have h4 := g2.resolve_left he
          rw [h1 _ (by omega)] at h4
          cases h4
        · exact ⟨by omega, h3⟩
    · have e : startS f (k + 1) = startS f k := by show (if f k = true then _ else _) = _; rw [if_pos hf]
      rw [e]
      refine ⟨h1, .inr ?_⟩
      rcases h2 with h2 | ⟨h2, h3⟩
      · rw [h2]; exact ⟨by omega, hf⟩
      · exact ⟨by omega, h3⟩

theorem maxS_ge (f : Nat → Bool) (k : Nat) : maxS f k ≤ maxS f (k + 1) := by
  show maxS f k ≤ (if f k = true then maxS f k else if maxS f k < endS f k + 1 then endS f k + 1 else maxS f k)
  (repeat' split) <;> omega

/-- the longest row is there, and no longer one. -/
theorem maxS_spec (f : Nat → Bool) : ∀ k, (∃ p, p + maxS f k ≤ k ∧ ∀ j, p ≤ j → j < p + maxS f k → f j = false) ∧ ∀ p n, p + n ≤ k → (∀ j, p ≤ j → j < p + n → f j = false) → n ≤ maxS f k
  | 0 => ⟨⟨0, Nat.le_refl _, fun j _ h => by cases h⟩, fun p n h _ => by show n ≤ 0; omega⟩
  | k + 1 => by
    obtain ⟨⟨p, h1, h2⟩, h3⟩ := maxS_spec f k
    obtain ⟨g1, g2⟩ := endS_spec f k
    have hl := endS_le f k
    have hge := maxS_ge f k
    cases hf : f k
    · by_cases hm : maxS f k < endS f k + 1
      · have e : maxS f (k + 1) = endS f k + 1 := by
          show (if f k = true then _ else if maxS f k < endS f k + 1 then _ else _) = _; rw [if_neg (by rw [hf]; decide), if_pos hm]
        rw [e]
        refine ⟨⟨k - endS f k, by omega, fun j h4 h5 => ?_⟩, fun q n h4 h5 => ?_⟩
        · by_cases h6 : j = k
          · rw [h6]; exact hf
          · exact g1 j (by omega) (by omega)
        · by_cases h6 : q + n ≤ k
          · have := h3 q n h6 h5; omega
          · rcases g2 with g2 | g2
            · omega
            · by_cases h7 : q ≤ k - endS f k - 1 ∧ endS f k < k
              · rw [h5 _ h7.1 (by omega)] at g2; cases g2
              · omega
      · have e : maxS f (k + 1) = maxS f k := by
          show (if f k = true then _ else if maxS f k < endS f k + 1 then _ else _) = _; rw [if_neg (by rw [hf]; decide), if_neg hm]
        rw [e]
        refine ⟨⟨p, by omega, h2⟩, fun q n h4 h5 => ?_⟩
        by_cases h6 : q + n ≤ k
        · exact h3 q n h6 h5
        · rcases g2 with g2 | g2
          · omega
          · by_cases h7 : q ≤ k - endS f k - 1 ∧ endS f k < k
            · rw [h5 _ h7.1 (by omega)] at g2; cases g2
            · omega
    · have e : maxS f (k + 1) = maxS f k := by show (if f k = true then _ else _) = _; rw [if_pos hf]
      rw [e]
      refine ⟨⟨p, by omega, h2⟩, fun q n h4 h5 => ?_⟩
      by_cases h6 : q + n ≤ k
      · exact h3 q n h6 h5
      · by_cases h7 : n = 0
        · omega
        · rw [h5 k (by omega) (by omega)] at hf; cases hf

theorem start_le_max (f : Nat → Bool) (k : Nat) : startS f k ≤ maxS f k :=
  (maxS_spec f k).2 0 (startS f k) (by have := startS_le f k; omega) (fun j _ h => (startS_spec f k).1 j (by omega))
theorem end_le_max (f : Nat → Bool) (k : Nat) : endS f k ≤ maxS f k :=
  (maxS_spec f k).2 (k - endS f k) (endS f k) (by have := endS_le f k; omega) (fun j h1 h2 => (endS_spec f k).1 j h1 (by have := endS_le f k; omega))
theorem max_cnt (f : Nat → Bool) : maxS f 512 + cnt f 0 512 ≤ 512 := by
  obtain ⟨⟨p, h1, h2⟩, -⟩ := maxS_spec f 512
  obtain ⟨r, hr⟩ : ∃ r, p + (maxS f 512 + r) = 512 := ⟨512 - (p + maxS f 512), by omega⟩
  have e := cnt_add f p 0 (maxS f 512 + r)
  rw [cnt_add _ (maxS f 512) (0 + p) r, hr, cnt_zero (maxS f 512) (0 + p) (fun j h3 h4 => h2 j (by omega) (by omega))] at e
  have a := cnt_le f p 0
  have b := cnt_le f r (0 + p + maxS f 512)
  omega
theorem find_max (f : Nat → Bool) (h : 0 < maxS f 512) : findB f (maxS f 512 : Nat) 0 = true := by
  obtain ⟨⟨p, h1, h2⟩, -⟩ := maxS_spec f 512
  have hs := findG_spec f (maxS f 512) h 512 0 0 0 (by omega) (by omega) (fun j h4 h5 => by omega) (fun p h4 h5 => by omega) (.inl (by omega))
  have ho : findO f (maxS f 512 : Nat) 0 = findG f (maxS f 512) 512 0 0 := by
    have := maxS_le f 512
    unfold findO; rw [if_neg (by omega)]; rfl
  unfold findB
  rw [ho]
  revert hs
  cases findG f (maxS f 512) 512 0 0 with
  | none =>
    intro hs
    obtain ⟨j, a, b, c⟩ := hs p (by omega) (by omega)
    rw [h2 j a b] at c; cases c
  | some q => intro _; rfl
theorem find_more (f : Nat → Bool) : findB f ((maxS f 512 : Nat) + 1) 0 = false := by
  have hm := maxS_le f 512
  by_cases h5 : maxS f 512 = 512
  · unfold findB findO; rw [if_pos (by omega)]; rfl
  · have hs := findG_spec f (maxS f 512 + 1) (by omega) 512 0 0 0 (by omega) (by omega) (fun j h4 h5 => by omega) (fun p h4 h5 => by omega) (.inl (by omega))
    have ho : findO f ((maxS f 512 : Nat) + 1) 0 = findG f (maxS f 512 + 1) 512 0 0 := by
      unfold findO; rw [if_neg (by omega)]
      rw [show (((maxS f 512 : Nat) : Int) + 1).toNat = maxS f 512 + 1 by omega]; rfl
    unfold findB
    rw [ho]
    revert hs
    cases findG f (maxS f 512 + 1) 512 0 0 with
    | none => intro _; rfl
    | some q =>
      rintro ⟨a, b, c, d⟩
      have := (maxS_spec f 512).2 q (maxS f 512 + 1) (by omega) c
      omega

end Go.Proofs.Ytbfnadfbanhgcaa
