/- Plain laws of the order of two patterns: by value, the noughts by sign, the NaNs behind all else. -/
import Derived.Test.YtbdngcifnlkijaaRung
import Derived.Laws.BitsAllLaws
namespace Go.Proofs.Ytbdngcifnlkijaa
open Go.RowKit

/-- a signed rung. -/
def sr (b : Nat) : Int := if b / 2 ^ 63 % 2 == 1 then -((b % 2 ^ 63 : Nat) : Int) else ((b % 2 ^ 63 : Nat) : Int)

def vR (r : Nat) : Nat := magR r * 2 ^ (placeR r + 1074).toNat

theorem placeR_ge (r : Nat) : -1074 ≤ placeR r := by unfold placeR; split <;> omega

theorem leQ_v {r s : Nat} : leQ (magR r) (placeR r) (magR s) (placeR s) ↔ vR r ≤ vR s := by
  have := leQ_iff (m := magR r) (n := magR s) (-1074) (placeR_ge r) (placeR_ge s)
  rw [show placeR r - (-1074) = placeR r + 1074 by omega, show placeR s - (-1074) = placeR s + 1074 by omega] at this
  exact this

theorem vR_lt {r s : Nat} (h : r < s) (hs : s < 2047 * 2 ^ 52) : vR r < vR s := by
  rcases Nat.lt_or_ge (vR r) (vR s) with h1 | h1
  · exact h1
  · exfalso
    have := rung_mono (leQ_v.2 h1)
    rw [rung_back hs, rung_back (by omega)] at this
    omega

theorem vR_0 : vR 0 = 0 := by
  have : magR 0 = 0 := rfl
  unfold vR; rw [this, Nat.zero_mul]

theorem compare_of {a b c d : Int} (h1 : a < b ↔ c < d) (h2 : a = b ↔ c = d) : compare a b = compare c d := by
  rcases Int.lt_trichotomy a b with h | h | h
  · rw [Int.compare_eq_lt.2 h, Int.compare_eq_lt.2 (h1.1 h)]
  · rw [Int.compare_eq_eq.2 h, Int.compare_eq_eq.2 (h2.1 h)]
  · rw [Int.compare_eq_gt.2 h, Int.compare_eq_gt.2 (by omega)]

theorem val_of (neg : Bool) (r : Nat) : val neg (magR r) (placeR r) = if neg then -(vR r : Int) else (vR r : Int) := by
  cases neg
  · rw [val_false]; rfl
  · rw [val_true]; rfl

theorem rd_inf {b : Nat} (h : b % 2 ^ 63 = 2047 * 2 ^ 52) : rd b = .infinity (b / 2 ^ 63 % 2 == 1) := by
  rw [rd_def, if_neg (by omega), if_neg (by omega), if_pos h]

theorem order_sr {a b : Nat} (ha : selfEq a = true) (hb : selfEq b = true) : FloatKind.f64.format.order a b = some (compare (sr a) (sr b)) := by
  rw [selfEq_iff] at ha hb
  have ha := of_decide_eq_true ha
  have hb := of_decide_eq_true hb
  show (rd a).order (rd b) = _
  unfold sr
  generalize hsa : (a / 2 ^ 63 % 2 == 1) = sa
  generalize hsb : (b / 2 ^ 63 % 2 == 1) = sb
  by_cases h1 : a % 2 ^ 63 < 2047 * 2 ^ 52
  · rw [rd_fin h1, hsa]
    by_cases h2 : b % 2 ^ 63 < 2047 * 2 ^ 52
    · rw [rd_fin h2, hsb, order_val _ _ _ _ _ _ (placeR_ge _) (placeR_ge _), val_of, val_of]
      congr 1
      have f1 : a % 2 ^ 63 < b % 2 ^ 63 → vR (a % 2 ^ 63) < vR (b % 2 ^ 63) := fun h => vR_lt h h2
      have f2 : b % 2 ^ 63 < a % 2 ^ 63 → vR (b % 2 ^ 63) < vR (a % 2 ^ 63) := fun h => vR_lt h h1
      have f3 : 0 < a % 2 ^ 63 → 0 < vR (a % 2 ^ 63) := fun h => by have := vR_lt h h1; rw [vR_0] at this; exact this
      have f4 : 0 < b % 2 ^ 63 → 0 < vR (b % 2 ^ 63) := fun h => by have := vR_lt h h2; rw [vR_0] at this; exact this
      have f5 : a % 2 ^ 63 = b % 2 ^ 63 → vR (a % 2 ^ 63) = vR (b % 2 ^ 63) := fun h => by rw [h]
      have f6 : a % 2 ^ 63 = 0 → vR (a % 2 ^ 63) = 0 := fun h => by rw [h]; exact vR_0
      have f7 : b % 2 ^ 63 = 0 → vR (b % 2 ^ 63) = 0 := fun h => by rw [h]; exact vR_0
      generalize vR (a % 2 ^ 63) = x at *
      generalize vR (b % 2 ^ 63) = y at *
      generalize a % 2 ^ 63 = r at *
      generalize b % 2 ^ 63 = s at *
      clear ha hb h1 h2 hsa hsb
      cases sa <;> cases sb <;> simp only [if_true, if_false, Bool.false_eq_true] <;> apply compare_of <;> omega
    · have h2' : b % 2 ^ 63 = 2047 * 2 ^ 52 := by omega
      rw [rd_inf h2', hsb, h2']
      cases sb
      · simp only [Ieee.Datum.order, if_false, Bool.false_eq_true]
        congr 1; symm; rw [Int.compare_eq_lt]; cases sa <;> simp <;> omega
      · simp only [Ieee.Datum.order, if_true]
        congr 1; symm; rw [Int.compare_eq_gt]; cases sa <;> simp <;> omega
  · have h1' : a % 2 ^ 63 = 2047 * 2 ^ 52 := by omega
    rw [rd_inf h1', hsa, h1']
    by_cases h2 : b % 2 ^ 63 < 2047 * 2 ^ 52
    · rw [rd_fin h2, hsb]
      cases sa
      · simp only [Ieee.Datum.order, if_false, Bool.false_eq_true]
        congr 1; symm; rw [Int.compare_eq_gt]; cases sb <;> simp <;> omega
      · simp only [Ieee.Datum.order, if_true]
        congr 1; symm; rw [Int.compare_eq_lt]; cases sb <;> simp <;> omega
    · have h2' : b % 2 ^ 63 = 2047 * 2 ^ 52 := by omega
      rw [rd_inf h2', hsb, h2']
      cases sa <;> cases sb <;> decide +kernel

/-- which of two numbers is ahead. -/
def cmpI (x y : Int) : Int := if x < y then -1 else if y < x then 1 else 0

/-- where a pattern stands among all of them. -/
def rankV (a : Int) : Int :=
  if selfEq a.toNat = false then 18446744073709551615 else if 9223372036854775808 ≤ a then 18446744073709551615 - a else a + 9223372036854775808

def ordV (a b : Int) : Int := cmpI (rankV a) (rankV b)

theorem selfEq_le {a : Int} (h : selfEq a.toNat = true) : a.toNat % 2 ^ 63 ≤ 9218868437227405312 := by
  rw [selfEq_iff] at h; exact of_decide_eq_true h

theorem rank_fin {a : Int} (h0 : 0 ≤ a) (h1 : a ≤ 18446744073709551615) (h : selfEq a.toNat = true) : 0 ≤ rankV a ∧ rankV a ≤ 18446744073709551614 := by
  have h2 := selfEq_le h
  unfold rankV
  rw [h, if_neg (by decide)]
  split <;> omega

theorem rank_nan {a : Int} (h : selfEq a.toNat = false) : rankV a = 18446744073709551615 := by
  unfold rankV; rw [if_pos h]

theorem ord_nan_both {a b : Int} (ha : selfEq a.toNat = false) (hb : selfEq b.toNat = false) : ordV a b = 0 := by
  unfold ordV cmpI; rw [rank_nan ha, rank_nan hb]; rfl
theorem ord_nan_left {a b : Int} (b0 : 0 ≤ b) (b1 : b ≤ 18446744073709551615) (ha : selfEq a.toNat = false) (hb : selfEq b.toNat = true) : ordV a b = 1 := by
  have := rank_fin b0 b1 hb
  unfold ordV cmpI; rw [rank_nan ha, if_neg (by omega), if_pos (by omega)]
theorem ord_nan_right {a b : Int} (a0 : 0 ≤ a) (a1 : a ≤ 18446744073709551615) (ha : selfEq a.toNat = true) (hb : selfEq b.toNat = false) : ordV a b = -1 := by
  have := rank_fin a0 a1 ha
  unfold ordV cmpI; rw [rank_nan hb, if_pos (by omega)]

theorem sr_of {a : Int} (a0 : 0 ≤ a) (a1 : a ≤ 18446744073709551615) : sr a.toNat = if 9223372036854775808 ≤ a then 9223372036854775808 - a else a := by
  unfold sr
  by_cases h : 9223372036854775808 ≤ a
  · have e : (a.toNat / 2 ^ 63 % 2 == 1) = true := by simp; omega
    rw [e, if_pos rfl, if_pos h]; omega
  · have e : (a.toNat / 2 ^ 63 % 2 == 1) = false := by simp; omega
    rw [e, if_neg (by decide), if_neg h]; omega

theorem rank_of {a : Int} (h : selfEq a.toNat = true) : rankV a = if 9223372036854775808 ≤ a then 18446744073709551615 - a else a + 9223372036854775808 := by
  unfold rankV; rw [h, if_neg (by decide)]

section
variable {a b : Int} (a0 : 0 ≤ a) (a1 : a ≤ 18446744073709551615) (b0 : 0 ≤ b) (b1 : b ≤ 18446744073709551615) (ha : selfEq a.toNat = true) (hb : selfEq b.toNat = true)
include a0 a1 b0 b1 ha hb

theorem ord_lt (h : FloatKind.f64.format.order a.toNat b.toNat = some .lt) : ordV a b = -1 := by
  rw [order_sr ha hb] at h
  have h := Int.compare_eq_lt.1 (Option.some.inj h)
  rw [sr_of a0 a1, sr_of b0 b1] at h
  unfold ordV cmpI
  rw [rank_of ha, rank_of hb]
  rw [if_pos]
  split at h <;> split at h <;> simp_all <;> omega

theorem ord_gt (h : FloatKind.f64.format.order a.toNat b.toNat = some .gt) : ordV a b = 1 := by
  rw [order_sr ha hb] at h
  have h := Int.compare_eq_gt.1 (Option.some.inj h)
  rw [sr_of a0 a1, sr_of b0 b1] at h
  unfold ordV cmpI
  rw [rank_of ha, rank_of hb]
  rw [if_neg, if_pos] <;> split at h <;> split at h <;> simp_all <;> omega

theorem ord_eq (h : FloatKind.f64.format.order a.toNat b.toNat = some .eq) : ordV a b = if a = b then 0 else if b < a then -1 else 1 := by
  rw [order_sr ha hb] at h
  have h := Int.compare_eq_eq.1 (Option.some.inj h)
  rw [sr_of a0 a1, sr_of b0 b1] at h
  unfold ordV cmpI
  rw [rank_of ha, rank_of hb]
  by_cases c1 : 9223372036854775808 ≤ a <;> by_cases c2 : 9223372036854775808 ≤ b <;> simp only [c1, c2, if_true, if_false] at h ⊢ <;> (repeat' split) <;> omega
end

theorem order_three {a b : Nat} (ha : selfEq a = true) (hb : selfEq b = true) :
    FloatKind.f64.format.order a b = some .lt ∨ FloatKind.f64.format.order a b = some .gt ∨ FloatKind.f64.format.order a b = some .eq := by
  rw [order_sr ha hb]
  cases compare (sr a) (sr b) <;> simp

theorem isNaN_of {b : Nat} (h : selfEq b = false) : (rd b).isNaN = true := by
  rw [selfEq_iff] at h; rw [rd_nan_iff]
  have := of_decide_eq_false h
  apply decide_eq_true; omega

theorem not_u64 (a : Int) (h0 : 0 ≤ a) (h1 : a ≤ 18446744073709551615) : bits .xor .u64 IntKind.u64.max a = 18446744073709551615 - a := by
  have hmax : IntKind.u64.max = 18446744073709551615 := rfl
  rw [hmax, u64_xor _ _ (by omega) (by omega) h0 (by omega)]
  have e : (18446744073709551615 : Int).toNat ^^^ a.toNat = 18446744073709551615 - a.toNat := by
    have h := BitVec.toNat_not (x := BitVec.ofNat 64 a.toNat)
    have h2 : BitVec.ofNat 64 a.toNat = BitVec.ofNat 64 a.toNat := rfl
    rw [← BitVec.allOnes_xor] at h
    rw [BitVec.toNat_xor, BitVec.toNat_ofNat, Nat.mod_eq_of_lt (by omega : a.toNat < 2 ^ 64)] at h
    exact h
  rw [e]; omega

theorem or_top (a : Int) (h0 : 0 ≤ a) (h1 : a < 9223372036854775808) : bits .or .u64 a 9223372036854775808 = a + 9223372036854775808 := by
  rw [u64_or _ _ h0 (by omega) (by omega) (by omega)]
  have e : (9223372036854775808 : Int).toNat ||| a.toNat = (9223372036854775808 : Int).toNat + a.toNat := nat_join 63 _ _ (by decide) (by omega)
  rw [Nat.or_comm, e]; omega

theorem mask_top (a : Int) (h0 : 0 ≤ a) (h1 : a ≤ 18446744073709551615) : bits .and .u64 a 9223372036854775807 = a % 9223372036854775808 := by
  rw [u64_and _ _ h0 (by omega) (by omega) (by omega)]
  have e : a.toNat &&& (9223372036854775807 : Int).toNat = a.toNat % 2 ^ 63 := Nat.and_two_pow_sub_one_eq_mod a.toNat 63
  rw [e]; omega

end Go.Proofs.Ytbdngcifnlkijaa
