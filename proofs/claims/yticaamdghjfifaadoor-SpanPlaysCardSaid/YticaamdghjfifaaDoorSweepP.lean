/- Plain facts for a span's Sweep: a word's bits, from the lowest on. -/
import Derived.Test.YticaamdghjfifaaDoorZombie
namespace Go.Proofs.YticaamdghjfifaaDoor
open Go.RowKit
set_option linter.unusedVariables false

/-- the places below c. -/
def swl (g : Nat → Bool) (c : Nat) : List Nat := (List.range c).filter g
theorem swl_len (g : Nat → Bool) (c : Nat) : (swl g c).length ≤ c := by
  have := List.length_filter_le g (List.range c)
  rwa [List.length_range] at this
theorem swl_skip (g : Nat → Bool) (c : Nat) : ∀ d, (∀ i, c ≤ i → i < c + d → g i = false) → swl g (c + d) = swl g c
  | 0, _ => rfl
  | d + 1, h => by
    have ih := swl_skip g c d (fun i h1 h2 => h i h1 (by omega))
    unfold swl at ih ⊢
    rw [show c + (d + 1) = (c + d) + 1 by omega, List.range_succ, List.filter_append, ih]
    simp [h (c + d) (by omega) (by omega)]
theorem swl_step (g : Nat → Bool) (c j : Nat) (hc : c ≤ j) (hj : g j = true) (h : ∀ i, c ≤ i → i < j → g i = false) : swl g (j + 1) = swl g c ++ [j] := by
  have e := swl_skip g c (j - c) (fun i h1 h2 => h i h1 (by omega))
  rw [show c + (j - c) = j by omega] at e
  rw [← e]
  unfold swl
  rw [List.range_succ, List.filter_append]
  simp [hj]

theorem low_clear (x : Nat) (hx : x < 18446744073709551616) (h0 : x ≠ 0) (i : Nat) : (x &&& (x - 1)).testBit i = (x.testBit i && !decide (i = Lib.ctz 64 x)) := by
  have e : Lib.ctz 64 x = Lib.ctzFrom 64 x := by unfold Lib.ctz; rw [if_neg h0]
  rw [e]
  obtain ⟨m, hm, hlt⟩ := Lib.ctzFrom_spec 64 x (by omega) (by simpa using hx)
  generalize Lib.ctzFrom 64 x = c at *
  have hp : 0 < 2 ^ c := Nat.two_pow_pos c
  have e1 : x = 2 ^ (c + 1) * m + 2 ^ c := by rw [hm, Nat.pow_succ, Nat.mul_add, Nat.mul_one, Nat.mul_assoc]
  have e2 : x - 1 = 2 ^ (c + 1) * m + (2 ^ c - 1) := by omega
  have l1 : 2 ^ c < 2 ^ (c + 1) := by rw [Nat.pow_succ]; omega
  rw [Nat.testBit_and, e2, e1, Nat.testBit_two_pow_mul_add m l1, Nat.testBit_two_pow_mul_add m (show 2 ^ c - 1 < 2 ^ (c + 1) by omega)]
  by_cases h1 : i < c + 1
  · rw [if_pos h1, if_pos h1, Nat.testBit_two_pow_sub_one, Nat.testBit_two_pow]
    by_cases h2 : i = c
    · subst h2; simp
    · simp [h2, Ne.symm h2]
  · rw [if_neg h1, if_neg h1]
    rw [decide_eq_false (show ¬ i = c by omega)]
    simp

def cutw (g : Nat → Bool) (c k : Nat) : Nat := word (fun j => g j && decide (c ≤ j)) k
theorem cutw_lt (g : Nat → Bool) (c k : Nat) : cutw g c k < 18446744073709551616 := word_lt _ _
theorem cut_start (g : Nat → Bool) (k : Nat) : word g k = cutw g (64 * k) k := word_congr fun j hj => by simp
theorem cut_zero (g : Nat → Bool) (c k : Nat) (h : cutw g c k = 0) (i : Nat) (h1 : c ≤ i) (h2 : i / 64 = k) : g i = false := by
  have := word_eq_zero h i h2
  simpa [h1] using this
theorem cut_next (g : Nat → Bool) (c k : Nat) (h : cutw g c k ≠ 0) : Lib.ctz 64 (cutw g c k) < 64 ∧ c ≤ 64 * k + Lib.ctz 64 (cutw g c k) ∧ g (64 * k + Lib.ctz 64 (cutw g c k)) = true ∧ (∀ i, 64 * k ≤ i → c ≤ i → i < 64 * k + Lib.ctz 64 (cutw g c k) → g i = false) ∧ cutw g c k &&& (cutw g c k - 1) = cutw g (64 * k + Lib.ctz 64 (cutw g c k) + 1) k := by
  obtain ⟨a1, a2, a3⟩ := ctz_spec _ (cutw_lt g c k) h
  have hl := low_clear _ (cutw_lt g c k) h
  have hb : ∀ j, j < 64 → (cutw g c k).testBit j = (g (64 * k + j) && decide (c ≤ 64 * k + j)) := fun j hj => word_bit _ k j hj
  have hxl := cutw_lt g c k
  generalize hx : cutw g c k = x at *
  generalize Lib.ctz 64 x = t at *
  rw [hb t a1] at a2
  simp only [Bool.and_eq_true, decide_eq_true_eq] at a2
  have hz : ∀ i, 64 * k ≤ i → c ≤ i → i < 64 * k + t → g i = false := fun i h1 h2 h3 => by
    have := a3 (i - 64 * k) (by omega)
    rw [hb _ (by omega), show 64 * k + (i - 64 * k) = i by omega] at this
    simpa [h2] using this
  refine ⟨a1, a2.2, a2.1, hz, ?_⟩
  refine eq_word (Nat.and_lt_two_pow _ (by omega)) fun j hj => ?_
  rw [hl j, hb j hj]
  by_cases h1 : j = t
  · subst h1
    rw [decide_eq_true rfl, decide_eq_false (show ¬ 64 * k + j + 1 ≤ 64 * k + j by omega)]; simp
  · rw [decide_eq_false h1]
    by_cases h2 : j < t
    · rw [decide_eq_false (show ¬ 64 * k + t + 1 ≤ 64 * k + j by omega)]
      by_cases h3 : c ≤ 64 * k + j
      · rw [hz (64 * k + j) (by omega) h3 (by omega)]; rfl
      · rw [decide_eq_false h3]; simp
    · rw [decide_eq_true (show 64 * k + t + 1 ≤ 64 * k + j by omega), decide_eq_true (show c ≤ 64 * k + j by omega)]; simp

theorem u64_andNot_low (x : Nat) (hx : x < 18446744073709551616) (h0 : x ≠ 0) : bits .and .u64 (x : Int) ((x : Int) - 1) = ((x &&& (x - 1) : Nat) : Int) := by
  rw [show (x : Int) - 1 = ((x - 1 : Nat) : Int) by omega]
  exact u64_and_nat x (x - 1) hx (by omega)

end Go.Proofs.YticaamdghjfifaaDoor
