/- Plain laws of rows of bits in words of 64; no program in sight. -/
import Derived.WalkKit
import Derived.Laws.BitsAllLaws
import Derived.Lib.BitFns
namespace Go.Proofs.YticaamdghjfifaaDoor
open Go.RowKit
set_option linter.unusedVariables false

/-! ### words -/
def wordN (f : Nat → Bool) (k : Nat) : Nat → Nat
  | 0 => 0
  | n + 1 => 2 ^ n * (f (64 * k + n)).toNat + wordN f k n
/-- the k-th word of a row. -/
def word (f : Nat → Bool) (k : Nat) : Nat := wordN f k 64

theorem toNat_le (b : Bool) : b.toNat ≤ 1 := by cases b <;> decide
theorem wordN_lt (f : Nat → Bool) (k : Nat) : ∀ n, wordN f k n < 2 ^ n
  | 0 => by show 0 < 1; decide
  | n + 1 => by
    have ih := wordN_lt f k n
    have hb : 2 ^ n * (f (64 * k + n)).toNat ≤ 2 ^ n * 1 := Nat.mul_le_mul_left _ (toNat_le _)
    show 2 ^ n * (f (64 * k + n)).toNat + wordN f k n < 2 ^ (n + 1)
    rw [Nat.pow_succ]; omega
theorem word_lt (f : Nat → Bool) (k : Nat) : word f k < 2 ^ 64 := wordN_lt f k 64

theorem testBit_toNat (b : Bool) (j : Nat) : (b.toNat).testBit j = (decide (j = 0) && b) := by
  cases b
  · simp
  · cases j with
    | zero => rfl
    | succ j => simp [Nat.testBit_succ]

theorem wordN_bit (f : Nat → Bool) (k : Nat) : ∀ n j, (wordN f k n).testBit j = (decide (j < n) && f (64 * k + j))
  | 0, j => by simp [wordN]
  | n + 1, j => by
    show (2 ^ n * (f (64 * k + n)).toNat + wordN f k n).testBit j = _
    rw [Nat.testBit_two_pow_mul_add _ (wordN_lt f k n), wordN_bit f k n j]
    by_cases h : j < n
    · simp [h, show j < n + 1 by omega]
    · rw [if_neg h, testBit_toNat]
      by_cases h2 : j = n
      · subst h2; simp
      · simp [show ¬ j - n = 0 by omega, show ¬ j < n + 1 by omega]
theorem word_bit (f : Nat → Bool) (k j : Nat) (h : j < 64) : (word f k).testBit j = f (64 * k + j) := by
  unfold word; rw [wordN_bit]; simp [h]
theorem word_high (f : Nat → Bool) (k j : Nat) (h : 64 ≤ j) : (word f k).testBit j = false := by
  unfold word; rw [wordN_bit]; simp [show ¬ j < 64 by omega]

theorem eq_word {x : Nat} {f : Nat → Bool} {k : Nat} (hx : x < 2 ^ 64) (h : ∀ j, j < 64 → x.testBit j = f (64 * k + j)) : x = word f k := by
  refine Nat.eq_of_testBit_eq fun j => ?_
  rcases Nat.lt_or_ge j 64 with hj | hj
  · rw [h j hj, word_bit f k j hj]
  · rw [word_high f k j hj]
    exact Nat.testBit_lt_two_pow (Nat.lt_of_lt_of_le hx (Nat.pow_le_pow_right (by omega) hj))
theorem word_congr {f g : Nat → Bool} {k : Nat} (h : ∀ j, j < 64 → f (64 * k + j) = g (64 * k + j)) : word f k = word g k :=
  eq_word (word_lt f k) fun j hj => by rw [word_bit f k j hj, h j hj]

/-- the row of words that are there. -/
def bitsOf (ws : Nat → Nat) (i : Nat) : Bool := (ws (i / 64)).testBit (i % 64)
theorem word_of (ws : Nat → Nat) (k : Nat) (h : ws k < 2 ^ 64) : word (bitsOf ws) k = ws k :=
  (eq_word h fun j hj => by
    unfold bitsOf
    rw [show (64 * k + j) / 64 = k by omega, show (64 * k + j) % 64 = j by omega]).symm

/-! ### masks -/
/-- so many ones from a place on. -/
def maskN (a m : Nat) : Nat := 2 ^ a * (2 ^ m - 1)
theorem maskN_bit (a m j : Nat) : (maskN a m).testBit j = decide (a ≤ j ∧ j < a + m) := by
  unfold maskN
  rw [Nat.testBit_two_pow_mul, Nat.testBit_two_pow_sub_one]
  by_cases h : a ≤ j
  · simp [h]; omega
  · simp [h]
theorem maskN_lt (a m : Nat) (h : a + m ≤ 64) : maskN a m < 2 ^ 64 := by
  unfold maskN
  have h1 : 2 ^ a * (2 ^ m - 1) < 2 ^ a * 2 ^ m := Nat.mul_lt_mul_of_pos_left (by have := Nat.two_pow_pos m; omega) (Nat.two_pow_pos a)
  rw [← Nat.pow_add] at h1
  exact Nat.lt_of_lt_of_le h1 (Nat.pow_le_pow_right (by omega) h)
theorem ones_div (m : Nat) (h : m ≤ 64) : (2 ^ 64 - 1) / 2 ^ (64 - m) = 2 ^ m - 1 := by
  have hp : 0 < 2 ^ (64 - m) := Nat.two_pow_pos _
  have hm : 0 < 2 ^ m := Nat.two_pow_pos _
  have e : 2 ^ 64 = 2 ^ (64 - m) * 2 ^ m := by rw [← Nat.pow_add]; congr 1; omega
  have h2 : 2 ^ (64 - m) * (2 ^ m - 1) + 2 ^ (64 - m) = 2 ^ 64 := by
    rw [e, ← Nat.mul_succ]; congr 1; omega
  have h3 : 2 ^ 64 - 1 = (2 ^ (64 - m) - 1) + 2 ^ (64 - m) * (2 ^ m - 1) := by omega
  rw [h3, Nat.add_mul_div_left _ _ hp, Nat.div_eq_of_lt (by omega), Nat.zero_add]

/-- is a place in a span? -/
def inB (i n j : Nat) : Bool := decide (i ≤ j ∧ j < i + n)
def setB (f : Nat → Bool) (i n : Nat) (j : Nat) : Bool := f j || inB i n j
def clrB (f : Nat → Bool) (i n : Nat) (j : Nat) : Bool := f j && !inB i n j

theorem word_or (f : Nat → Bool) (k a m : Nat) (h : a + m ≤ 64) : word f k ||| maskN a m = word (setB f (64 * k + a) m) k := by
  refine eq_word (Nat.or_lt_two_pow (word_lt f k) (maskN_lt a m h)) fun j hj => ?_
  rw [Nat.testBit_or, word_bit f k j hj, maskN_bit]
  unfold setB inB
  congr 1
  rw [decide_eq_decide]; omega

theorem word_andNot (f : Nat → Bool) (k a m : Nat) (h : a + m ≤ 64) : word f k &&& (18446744073709551615 - maskN a m) = word (clrB f (64 * k + a) m) k := by
  refine eq_word (Nat.and_lt_two_pow _ (by omega)) fun j hj => ?_
  have hm := maskN_lt a m h
  rw [Nat.testBit_and, word_bit f k j hj, show 18446744073709551615 - maskN a m = 2 ^ 64 - (maskN a m + 1) by omega, Nat.testBit_two_pow_sub_succ hm, maskN_bit]
  unfold clrB inB
  rw [show decide (j < 64) = true by simpa using hj, Bool.true_and]
  congr 2
  rw [decide_eq_decide]; omega

/-- the k-th word's bit, as it is asked for. -/
theorem word_get (f : Nat → Bool) (k j : Nat) (h : j < 64) : (bits .and .u64 (((word f k : Nat) : Int) / 2 ^ j) 1 == 1) = f (64 * k + j) := by
  have hw := word_lt f k
  have e : ((word f k : Nat) : Int) / 2 ^ j = ((word f k / 2 ^ j : Nat) : Int) := by
    rw [Int.natCast_ediv, Int.natCast_pow]; rfl
  have hd : word f k / 2 ^ j ≤ word f k := Nat.div_le_self _ _
  rw [e, show (1 : Int) = ((1 : Nat) : Int) from rfl, u64_and_nat _ _ (by omega) (by omega), Nat.and_one_is_mod, ← word_bit f k j h, Nat.testBit_eq_decide_div_mod_eq]
  rw [Bool.eq_iff_iff, beq_iff_eq, decide_eq_true_eq]
  omega

/-! ### how many -/
def cnt (f : Nat → Bool) (i : Nat) : Nat → Nat
  | 0 => 0
  | n + 1 => (f i).toNat + cnt f (i + 1) n

theorem cnt_add (f : Nat → Bool) : ∀ (n i m : Nat), cnt f i (n + m) = cnt f i n + cnt f (i + n) m
  | 0, i, m => by simp [cnt]
  | n + 1, i, m => by
    rw [show n + 1 + m = (n + m) + 1 by omega]
    show (f i).toNat + cnt f (i + 1) (n + m) = (f i).toNat + cnt f (i + 1) n + cnt f (i + (n + 1)) m
    rw [cnt_add f n (i + 1) m, show i + 1 + n = i + (n + 1) by omega]; omega
theorem cnt_congr {f g : Nat → Bool} : ∀ (n i : Nat), (∀ j, i ≤ j → j < i + n → f j = g j) → cnt f i n = cnt g i n
  | 0, _, _ => rfl
  | n + 1, i, h => by
    show (f i).toNat + cnt f (i + 1) n = (g i).toNat + cnt g (i + 1) n
    rw [h i (by omega) (by omega), cnt_congr n (i + 1) fun j h1 h2 => h j (by omega) (by omega)]
theorem cnt_shift (f : Nat → Bool) (a : Nat) : ∀ (n i : Nat), cnt (fun j => f (a + j)) i n = cnt f (a + i) n
  | 0, _ => rfl
  | n + 1, i => by
    show (f (a + i)).toNat + cnt (fun j => f (a + j)) (i + 1) n = (f (a + i)).toNat + cnt f (a + i + 1) n
    rw [cnt_shift f a n (i + 1)]; rfl
theorem cnt_zero : ∀ (n i : Nat) {f : Nat → Bool}, (∀ j, i ≤ j → j < i + n → f j = false) → cnt f i n = 0
  | 0, _, _, _ => rfl
  | n + 1, i, f, h => by
    show (f i).toNat + cnt f (i + 1) n = 0
    rw [h i (by omega) (by omega), cnt_zero n (i + 1) fun j h1 h2 => h j (by omega) (by omega)]; rfl
theorem cnt_le (f : Nat → Bool) : ∀ (n i : Nat), cnt f i n ≤ n
  | 0, _ => Nat.le_refl _
  | n + 1, i => by
    have := cnt_le f n (i + 1)
    have := toNat_le (f i)
    show (f i).toNat + cnt f (i + 1) n ≤ n + 1
    omega
theorem cnt_eq_zero (f : Nat → Bool) : ∀ (n i : Nat), cnt f i n = 0 → ∀ j, i ≤ j → j < i + n → f j = false
  | 0, _, _, _, _, _ => by omega
  | n + 1, i, h, j, h1, h2 => by
    have h' : (f i).toNat + cnt f (i + 1) n = 0 := h
    by_cases e : j = i
    · subst e
      cases hf : f j
      · rfl
      · rw [hf] at h'; simp at h'
    · exact cnt_eq_zero f n (i + 1) (by omega) j (by omega) (by omega)
theorem cnt_full (f : Nat → Bool) : ∀ (n i : Nat), cnt f i n = n → ∀ j, i ≤ j → j < i + n → f j = true
  | 0, _, _, _, _, _ => by omega
  | n + 1, i, h, j, h1, h2 => by
    have h' : (f i).toNat + cnt f (i + 1) n = n + 1 := h
    have hl := cnt_le f n (i + 1)
    have ht := toNat_le (f i)
    by_cases e : j = i
    · subst e
      cases hf : f j
      · rw [hf] at h'; simp at h'; omega
      · rfl
    · exact cnt_full f n (i + 1) (by omega) j (by omega) (by omega)
theorem cnt_all {f : Nat → Bool} : ∀ (n i : Nat), (∀ j, i ≤ j → j < i + n → f j = true) → cnt f i n = n
  | 0, _, _ => rfl
  | n + 1, i, h => by
    show (f i).toNat + cnt f (i + 1) n = n + 1
    rw [h i (by omega) (by omega), cnt_all n (i + 1) fun j h1 h2 => h j (by omega) (by omega)]; simp; omega

/-! ### the ones of a number -/
def popL : Nat → Nat → Nat
  | _, 0 => 0
  | x, n + 1 => x % 2 + popL (x / 2) n

theorem popL_cnt : ∀ (n x : Nat), popL x n = cnt (fun j => x.testBit j) 0 n
  | 0, _ => rfl
  | n + 1, x => by
    show x % 2 + popL (x / 2) n = (x.testBit 0).toNat + cnt (fun j => x.testBit j) (0 + 1) n
    rw [popL_cnt n (x / 2), show (x.testBit 0).toNat = x % 2 by rw [Nat.testBit_zero]; have : x % 2 = 0 ∨ x % 2 = 1 := by omega
                                                                rcases this with h | h <;> simp [h]]
    congr 1
    have := cnt_shift (fun j => x.testBit j) 1 n 0
    rw [show 0 + 1 = 1 + 0 from rfl, ← this]
    exact cnt_congr n 0 fun j _ _ => by rw [Nat.add_comm 1 j, Nat.testBit_succ]

theorem pop_word (f : Nat → Bool) (k a m : Nat) (h : a + m ≤ 64) : popL (word f k &&& maskN a m) 64 = cnt f (64 * k + a) m := by
  obtain ⟨r, hr⟩ : ∃ r, a + (m + r) = 64 := ⟨64 - (a + m), by omega⟩
  have e := cnt_add (fun j => (word f k &&& maskN a m).testBit j) a 0 (m + r)
  rw [cnt_add _ m (0 + a) r, hr, ← popL_cnt] at e
  rw [e, cnt_zero a 0, cnt_zero r (0 + a + m)]
  · rw [Nat.zero_add, Nat.zero_add, Nat.add_zero, ← cnt_shift f (64 * k) m a]
    refine cnt_congr m a fun j h1 h2 => ?_
    rw [Nat.testBit_and, maskN_bit, word_bit f k j (by omega)]; simp [h1, h2]
  · intro j h1 h2; rw [Nat.testBit_and, maskN_bit]; simp; omega
  · intro j h1 h2; rw [Nat.testBit_and, maskN_bit]; simp; omega

end Go.Proofs.YticaamdghjfifaaDoor
