/- What is found in a row of bits: plain functions; no program in sight. -/
import Derived.Test.YtbfnadfbanhgcaaBitsP
namespace Go.Proofs.Ytbfnadfbanhgcaa
open Go.RowKit
set_option linter.unusedVariables false

/-- the first place of n clear bits, from place i on, so many of which stand right ahead. -/
def findG (f : Nat → Bool) (n : Nat) : Nat → Nat → Nat → Option Nat
  | 0, _, _ => none
  | k + 1, i, run => if f i = true then findG f n k (i + 1) 0 else if run + 1 = n then some (i + 1 - n) else findG f n k (i + 1) (run + 1)

theorem findG_skip (f : Nat → Bool) (n : Nat) : ∀ (m k i run : Nat), (∀ j, i ≤ j → j < i + (m + 1) → f j = true) → findG f n (m + 1 + k) i run = findG f n k (i + (m + 1)) 0
  | 0, k, i, run, h => by
    rw [show 0 + 1 + k = k + 1 by omega]
    show (if f i = true then findG f n k (i + 1) 0 else _) = _
    rw [if_pos (h i (by omega) (by omega))]
  | m + 1, k, i, run, h => by
    rw [show m + 1 + 1 + k = (m + 1 + k) + 1 by omega]
    show (if f i = true then findG f n (m + 1 + k) (i + 1) 0 else _) = _
    rw [if_pos (h i (by omega) (by omega)), findG_skip f n m k (i + 1) 0 fun j h1 h2 => h j (by omega) (by omega)]
    congr 1; omega

/-- what is found lies clear, from the first place on, and nothing ahead of it would do. -/
theorem findG_spec (f : Nat → Bool) (n : Nat) (hn : 0 < n) : ∀ (k i run a : Nat), run < n → a + run ≤ i → (∀ j, i - run ≤ j → j < i → f j = false) → (∀ p, a ≤ p → p + n ≤ i → ∃ j, p ≤ j ∧ j < p + n ∧ f j = true) → (i - run = a ∨ (a < i - run ∧ f (i - run - 1) = true)) →
    match findG f n k i run with
    | some p => a ≤ p ∧ p + n ≤ i + k ∧ (∀ j, p ≤ j → j < p + n → f j = false) ∧ ∀ q, a ≤ q → q < p → ∃ j, q ≤ j ∧ j < q + n ∧ f j = true
    | none => ∀ p, a ≤ p → p + n ≤ i + k → ∃ j, p ≤ j ∧ j < p + n ∧ f j = true
  | 0, i, run, a, h1, h2, h3, h4, h5 => by
    show ∀ p, a ≤ p → p + n ≤ i + 0 → _
    exact h4
  | k + 1, i, run, a, h1, h2, h3, h4, h5 => by
    by_cases hf : f i = true
    · have e : findG f n (k + 1) i run = findG f n k (i + 1) 0 := by show (if f i = true then _ else _) = _; rw [if_pos hf]
      rw [e]
      have ih := findG_spec f n hn k (i + 1) 0 a hn (by omega) (fun j h6 h7 => by omega) (fun p h6 h7 => by
        by_cases h8 : p + n ≤ i
        · exact h4 p h6 h8
        · exact ⟨i, by omega, by omega, hf⟩) (.inr ⟨by omega, by rw [show i + 1 - 0 - 1 = i by omega]; exact hf⟩)
      revert ih
      cases findG f n k (i + 1) 0 with
      | none => exact fun ih p h6 h7 => ih p h6 (by omega)
      | some p => exact fun ⟨a1, a2, a3, a4⟩ => ⟨a1, by omega, a3, a4⟩
    · have hf' : f i = false := by cases h : f i <;> simp_all
      by_cases hr : run + 1 = n
      · have e : findG f n (k + 1) i run = some (i + 1 - n) := by show (if f i = true then _ else if run + 1 = n then _ else _) = _; rw [if_neg hf, if_pos hr]
        rw [e]
        refine ⟨by omega, by omega, fun j h6 h7 => ?_, fun q h6 h7 => ?_⟩
        · by_cases h8 : j = i
          · rw [h8]; exact hf'
          · exact h3 j (by omega) (by omega)
        · by_cases h8 : q + n ≤ i
          · exact h4 q h6 h8
          · rcases h5 with h5 | ⟨h5, h9⟩
            · omega
            · exact ⟨i - run - 1, by omega, by omega, h9⟩
      · have e : findG f n (k + 1) i run = findG f n k (i + 1) (run + 1) := by show (if f i = true then _ else if run + 1 = n then _ else _) = _; rw [if_neg hf, if_neg hr]
        rw [e]
        have ih := findG_spec f n hn k (i + 1) (run + 1) a (by omega) (by omega) (fun j h6 h7 => by
          by_cases h8 : j = i
          · rw [h8]; exact hf'
          · exact h3 j (by omega) (by omega)) (fun p h6 h7 => by
          by_cases h8 : p + n ≤ i
          · exact h4 p h6 h8
          · rcases h5 with h5 | ⟨h5, h9⟩
            · omega
            · exact ⟨i - run - 1, by omega, by omega, h9⟩) (by
          rw [show i + 1 - (run + 1) = i - run by omega]; exact h5)
        revert ih
        cases findG f n k (i + 1) (run + 1) with
        | none => exact fun ih p h6 h7 => ih p h6 (by omega)
        | some p => exact fun ⟨a1, a2, a3, a4⟩ => ⟨a1, by omega, a3, a4⟩

/-- what Find answers. -/
def findO (f : Nat → Bool) (n frm : Int) : Option Nat := if n < 1 ∨ 512 < n then none else findG f n.toNat (512 - frm.toNat) frm.toNat 0
def findI (f : Nat → Bool) (n frm : Int) : Int := ((findO f n frm).getD 0 : Nat)
def findB (f : Nat → Bool) (n frm : Int) : Bool := (findO f n frm).isSome

/-- the highest place below which a clear bit stands; 0: none. -/
def topz (f : Nat → Bool) : Nat → Nat
  | 0 => 0
  | t + 1 => if f t = true then topz f t else t + 1
/-- how many clear bits end there, but for n at most. -/
def runz (f : Nat → Bool) : Nat → Nat → Nat
  | 0, _ => 0
  | t + 1, n => if n = 0 then 0 else if f t = true then 0 else runz f t (n - 1) + 1

theorem topz_le (f : Nat → Bool) : ∀ t, topz f t ≤ t
  | 0 => Nat.le_refl _
  | t + 1 => by
    have := topz_le f t
    show (if f t = true then topz f t else t + 1) ≤ t + 1
    split <;> omega
theorem topz_set (f : Nat → Bool) : ∀ t j, topz f t ≤ j → j < t → f j = true
  | 0, _, _, h => by omega
  | t + 1, j, h1, h2 => by
    have h1' : (if f t = true then topz f t else t + 1) ≤ j := h1
    by_cases hf : f t = true
    · rw [if_pos hf] at h1'
      by_cases e : j = t
      · rw [e]; exact hf
      · exact topz_set f t j h1' (by omega)
    · rw [if_neg hf] at h1'; omega
theorem topz_clear (f : Nat → Bool) : ∀ t, 0 < topz f t → f (topz f t - 1) = false
  | 0, h => by cases h
  | t + 1, h => by
    by_cases hf : f t = true
    · have e : topz f (t + 1) = topz f t := by show (if f t = true then _ else _) = _; rw [if_pos hf]
      rw [e] at h ⊢
      exact topz_clear f t h
    · have e : topz f (t + 1) = t + 1 := by show (if f t = true then _ else _) = _; rw [if_neg hf]
      rw [e, Nat.add_sub_cancel]
      cases h : f t <;> simp_all
theorem runz_le (f : Nat → Bool) : ∀ t n, runz f t n ≤ t ∧ runz f t n ≤ n
  | 0, n => ⟨Nat.le_refl _, Nat.zero_le _⟩
  | t + 1, n => by
    have := runz_le f t (n - 1)
    show (if n = 0 then 0 else if f t = true then 0 else runz f t (n - 1) + 1) ≤ t + 1 ∧ (if n = 0 then 0 else if f t = true then 0 else runz f t (n - 1) + 1) ≤ n
    (repeat' split) <;> omega
theorem runz_clear (f : Nat → Bool) : ∀ t n j, t - runz f t n ≤ j → j < t → f j = false
  | 0, _, _, _, h => by omega
  | t + 1, n, j, h1, h2 => by
    have h1' : t + 1 - (if n = 0 then 0 else if f t = true then 0 else runz f t (n - 1) + 1) ≤ j := h1
    by_cases h0 : n = 0
    · rw [if_pos h0] at h1'; omega
    · rw [if_neg h0] at h1'
      by_cases hf : f t = true
      · rw [if_pos hf] at h1'; omega
      · rw [if_neg hf] at h1'
        by_cases e : j = t
        · rw [e]; cases h : f t <;> simp_all
        · exact runz_clear f t (n - 1) j (by omega) (by omega)
theorem runz_stop (f : Nat → Bool) : ∀ t n, runz f t n = n ∨ runz f t n = t ∨ f (t - runz f t n - 1) = true
  | 0, n => .inr (.inl rfl)
  | t + 1, n => by
    by_cases h0 : n = 0
    · left
      show (if n = 0 then 0 else _) = n
      rw [if_pos h0, h0]
    · by_cases hf : f t = true
      · have e : runz f (t + 1) n = 0 := by show (if n = 0 then 0 else if f t = true then 0 else _) = 0; rw [if_neg h0, if_pos hf]
        rw [e]
        right; right
        simpa using hf
      · have e : runz f (t + 1) n = runz f t (n - 1) + 1 := by show (if n = 0 then 0 else if f t = true then 0 else _) = _; rw [if_neg h0, if_neg hf]
        rw [e]
        rcases runz_stop f t (n - 1) with h | h | h
        · left; omega
        · right; left; omega
        · right; right
          rw [show t + 1 - (runz f t (n - 1) + 1) - 1 = t - runz f t (n - 1) - 1 by omega]; exact h

/-- where Last begins to look. -/
def lastT (to : Int) : Nat := (if to < 512 then to else 512).toNat
def lastN (f : Nat → Bool) (n to : Int) : Nat := if n < 1 then 0 else runz f (topz f (lastT to)) n.toNat
def lastI (f : Nat → Bool) (n to : Int) : Nat := if lastN f n to = 0 then 0 else topz f (lastT to) - lastN f n to

/-- the longest row of clear bits among the first, the one at their start, the one at their end. -/
def endS (f : Nat → Bool) : Nat → Nat
  | 0 => 0
  | k + 1 => if f k = true then 0 else endS f k + 1
def maxS (f : Nat → Bool) : Nat → Nat
  | 0 => 0
  | k + 1 => if f k = true then maxS f k else if maxS f k < endS f k + 1 then endS f k + 1 else maxS f k
def startS (f : Nat → Bool) : Nat → Nat
  | 0 => 0
  | k + 1 => if f k = true then startS f k else if endS f k = k then k + 1 else startS f k

theorem endS_le (f : Nat → Bool) : ∀ k, endS f k ≤ k
  | 0 => Nat.le_refl _
  | k + 1 => by
    have := endS_le f k
    show (if f k = true then 0 else endS f k + 1) ≤ k + 1
    split <;> omega
theorem maxS_le (f : Nat → Bool) : ∀ k, maxS f k ≤ k
  | 0 => Nat.le_refl _
  | k + 1 => by
    have := maxS_le f k
    have := endS_le f k
    show (if f k = true then maxS f k else if maxS f k < endS f k + 1 then endS f k + 1 else maxS f k) ≤ k + 1
    (repeat' split) <;> omega
theorem startS_le (f : Nat → Bool) : ∀ k, startS f k ≤ k
  | 0 => Nat.le_refl _
  | k + 1 => by
    have := startS_le f k
    show (if f k = true then startS f k else if endS f k = k then k + 1 else startS f k) ≤ k + 1
    (repeat' split) <;> omega

end Go.Proofs.Ytbfnadfbanhgcaa
