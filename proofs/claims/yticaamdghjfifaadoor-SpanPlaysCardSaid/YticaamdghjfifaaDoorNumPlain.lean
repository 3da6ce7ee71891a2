/- Plain laws of powers of two and of multiples; no program in sight. -/
import Derived.WalkKit
import Derived.Lib.BitFns
import Derived.Laws.BitsAllLaws
namespace Go.Proofs.YticaamdghjfifaaDoor
open Go.RowKit

/-- is n a power of two? -/
def isPow (n : Nat) : Bool := !(n == 0) && (n &&& (n - 1)) == 0

theorem isPow_half (n : Nat) (h0 : 1 < n) (h : n % 2 = 0) : isPow (n / 2) = isPow n := by
  have e1 : (n &&& (n - 1)) / 2 = (n / 2) &&& (n / 2 - 1) := by
    rw [Nat.and_div_two]; congr 1; omega
  have e2 : (n &&& (n - 1)) % 2 = 0 := by
    have := @Nat.and_mod_two_pow n (n - 1) 1
    rw [Nat.pow_one] at this
    rw [this, h, Nat.zero_and]
  unfold isPow
  rw [← e1]
  have h1 : (n / 2 == 0) = false := by simp; omega
  have h2 : (n == 0) = false := by simp; omega
  rw [h1, h2]
  generalize n &&& (n - 1) = x at *
  simp only [Bool.not_false, Bool.true_and]
  rw [Bool.eq_iff_iff]; simp; omega

theorem isPow_odd (n : Nat) (h : n % 2 = 1) : isPow n = (n == 1) := by
  have e1 : (n &&& (n - 1)) / 2 = n / 2 := by
    rw [Nat.and_div_two, show (n - 1) / 2 = n / 2 by omega, Nat.and_self]
  have e2 : (n &&& (n - 1)) % 2 = 0 := by
    have := @Nat.and_mod_two_pow n (n - 1) 1
    rw [Nat.pow_one] at this
    rw [this, show (n - 1) % 2 = 0 by omega, Nat.and_zero]
  unfold isPow
  have h2 : (n == 0) = false := by simp; omega
  rw [h2]
  generalize n &&& (n - 1) = x at *
  rw [Bool.eq_iff_iff]; simp; omega

theorem isPow_0 : isPow 0 = false := rfl

theorem isPow_two (k : Nat) : isPow (2 ^ k) = true := by
  induction k with
  | zero => rfl
  | succ k ih =>
    have h : 0 < 2 ^ k := Nat.two_pow_pos k
    rw [← isPow_half (2 ^ (k + 1)) (by rw [Nat.pow_succ]; omega) (by rw [Nat.pow_succ]; omega)]
    rw [show 2 ^ (k + 1) / 2 = 2 ^ k by rw [Nat.pow_succ]; omega]; exact ih

theorem isPow_is (n : Nat) (h : isPow n = true) : ∃ k, n = 2 ^ k := by
  induction n using Nat.strongRecOn with
  | ind n ih =>
    by_cases h1 : n % 2 = 1
    · rw [isPow_odd n h1] at h; exact ⟨0, by simpa using h⟩
    · by_cases h0 : n = 0
      · subst h0; cases h
      · rw [← isPow_half n (by omega) (by omega)] at h
        obtain ⟨k, hk⟩ := ih (n / 2) (by omega) h
        exact ⟨k + 1, by rw [Nat.pow_succ]; omega⟩

/-- n lies from the power of two to below the next one. -/
theorem bitLen_bounds (n : Nat) (h0 : n ≠ 0) (h : n < 2 ^ 64) : 1 ≤ Lib.bitLen n ∧ 2 ^ (Lib.bitLen n - 1) ≤ n ∧ n < 2 ^ Lib.bitLen n := by
  induction n using Nat.strongRecOn with
  | ind n ih =>
    have e := Lib.bitLen_half n h0 h
    by_cases h1 : n / 2 = 0
    · have : n = 1 := by omega
      subst this; decide
    · obtain ⟨a, b, c⟩ := ih (n / 2) (by omega) h1 (by omega)
      refine ⟨by omega, ?_, ?_⟩
      · rw [e, show 1 + Lib.bitLen (n / 2) - 1 = (Lib.bitLen (n / 2) - 1) + 1 by omega, Nat.pow_succ]; omega
      · rw [e, show 1 + Lib.bitLen (n / 2) = Lib.bitLen (n / 2) + 1 by omega, Nat.pow_succ]; omega

theorem bitLen_two (k : Nat) (h : k < 64) : Lib.bitLen (2 ^ k) = k + 1 := by
  have hp : 2 ^ k < 2 ^ 64 := Nat.pow_lt_pow_right (by omega) h
  obtain ⟨a, b, c⟩ := bitLen_bounds (2 ^ k) (by have := Nat.two_pow_pos k; omega) hp
  have h1 : Lib.bitLen (2 ^ k) - 1 ≤ k := (Nat.pow_le_pow_iff_right (by omega)).1 b
  have h2 : k < Lib.bitLen (2 ^ k) := (Nat.pow_lt_pow_iff_right (by omega)).1 c
  omega

def powB (n : Int) : Bool := isPow n.toNat

theorem pow_bits (n : Int) (h0 : 1 ≤ n) (h1 : n ≤ 18446744073709551615) : (bits .and .u64 n (n - 1) == 0) = powB n := by
  rw [u64_and n (n - 1) (by omega) (by omega) (by omega) (by omega)]
  unfold powB isPow
  have h2 : (n.toNat == 0) = false := by simp; omega
  rw [h2, show (n - 1).toNat = n.toNat - 1 by omega]
  generalize n.toNat &&& (n.toNat - 1) = x
  rw [Bool.eq_iff_iff]; simp

theorem mod_le {n a : Int} (h0 : 0 ≤ n) (ha : 0 < a) : n % a ≤ n := by
  have h := Int.mul_ediv_add_emod n a
  have h2 : 0 ≤ a * (n / a) := Int.mul_nonneg (by omega) (Int.ediv_nonneg h0 (by omega))
  omega

theorem u64_of {a : Int} (h : (Lit.int .u64 a).wf = true) : 0 ≤ a ∧ a ≤ 18446744073709551615 := by
  simp [Lit.wf, IntKind.min, IntKind.max, IntKind.signed, IntKind.bits] at h; omega
theorem u32_of {a : Int} (h : (Lit.int .u32 a).wf = true) : 0 ≤ a ∧ a ≤ 4294967295 := by
  simp [Lit.wf, IntKind.min, IntKind.max, IntKind.signed, IntKind.bits] at h; omega

def downV (n a : Int) : Int := if a = 0 then 0 else n - n % a
def okB (a : Int) : Bool := !(a == 0)
def upV (n a : Int) : Int := if a = 0 then 0 else if n % a = 0 then n else if 18446744073709551615 < n - n % a + a then 0 else n - n % a + a
def upB (n a : Int) : Bool := if a = 0 then false else if n % a = 0 then true else if 18446744073709551615 < n - n % a + a then false else true
def ceilV (n d : Int) : Int := if d = 0 then 0 else if n % d = 0 then n / d else n / d + 1
def magicV (d : Int) : Int := if d < 2 then 0 else 4294967295 / d + 1
def quotV (x m : Int) : Int := x * m / 4294967296

end Go.Proofs.YticaamdghjfifaaDoor
