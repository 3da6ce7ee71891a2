/- Plain laws of numbers that are doubles, and of quotients. -/
import Derived.Test.YtbdngcifnlkijaaNum
namespace Go.Proofs.Ytbdngcifnlkijaa
open Go.RowKit

theorem rung_exact {m : Nat} {i : Int} (hm : m ≠ 0) (hL : m.log2 ≤ 52) (lo : -1022 ≤ i + (m.log2 : Int)) (hi : i + (m.log2 : Int) ≤ 1023) :
    rungOf m i < 2047 * 2 ^ 52 ∧ magR (rungOf m i) = m * 2 ^ (52 - m.log2) ∧ placeR (rungOf m i) = i + (m.log2 : Int) - 52 := by
  have hl : lastP m i = i + (m.log2 : Int) - 52 := by unfold lastP; omega
  have hk : keptP m i = m * 2 ^ (52 - m.log2) := by
    unfold keptP
    rw [hl, show (i + (m.log2 : Int) - 52 - i).toNat = 0 by omega, rE_zero, show (i - (i + (m.log2 : Int) - 52)).toNat = 52 - m.log2 by omega]
  have k1 : 2 ^ 52 ≤ m * 2 ^ (52 - m.log2) := by
    have := Nat.mul_le_mul_right (2 ^ (52 - m.log2)) (log_lo hm)
    rw [← Nat.pow_add, show m.log2 + (52 - m.log2) = 52 by omega] at this
    exact this
  have k2 : m * 2 ^ (52 - m.log2) < 2 ^ 53 := by
    have := Nat.mul_lt_mul_of_pos_right (log_hi m) (Nat.two_pow_pos (52 - m.log2))
    rw [← Nat.pow_add, show m.log2 + 1 + (52 - m.log2) = 53 by omega] at this
    exact this
  have hr : rungOf m i = (i + (m.log2 : Int) - 52 + 1074).toNat * 2 ^ 52 + m * 2 ^ (52 - m.log2) := by
    unfold rungOf
    rw [if_neg hm, hl, hk]
    apply Nat.min_eq_left
    have : (i + (m.log2 : Int) - 52 + 1074).toNat ≤ 2045 := by omega
    generalize (i + (m.log2 : Int) - 52 + 1074).toNat = e at *
    generalize m * 2 ^ (52 - m.log2) = k at *
    omega
  have he : ((i + (m.log2 : Int) - 52 + 1074).toNat : Int) = i + (m.log2 : Int) - 52 + 1074 := by omega
  rw [hr]
  have he2 : (i + (m.log2 : Int) - 52 + 1074).toNat ≤ 2045 := by omega
  generalize (i + (m.log2 : Int) - 52 + 1074).toNat = e at *
  generalize m * 2 ^ (52 - m.log2) = k at *
  have d1 : (e * 2 ^ 52 + k) / 2 ^ 52 = e + 1 := by omega
  have d2 : (e * 2 ^ 52 + k) % 2 ^ 52 = k - 2 ^ 52 := by omega
  refine ⟨by omega, ?_, ?_⟩
  · unfold magR; rw [if_neg (by omega), d2]; omega
  · unfold placeR; rw [if_neg (by omega), d1]; omega

theorem pow2_place1 (k : Nat) : 2 ^ (place1 + k) = one1 * 2 ^ k := by rw [Nat.pow_add]; rfl

theorem vR_exact {m : Nat} {i : Int} (hm : m ≠ 0) (hL : m.log2 ≤ 52) (lo : -1022 ≤ i + (m.log2 : Int)) (hi : i + (m.log2 : Int) ≤ 1023) (hi2 : -1074 ≤ i) :
    vR (rungOf m i) = m * 2 ^ (i + 1074).toNat := by
  obtain ⟨-, h1, h2⟩ := rung_exact hm hL lo hi
  unfold vR
  rw [h1, h2, Nat.mul_assoc, ← Nat.pow_add]
  congr 2; omega

theorem vR_p0 : vR p0 = one1 := by
  have h2 : rd p0 = .number false (magR p0) (placeR p0) := rd_rung (Nat.lt_of_le_of_lt p0_le p64_lt)
  rw [rd_p0] at h2
  obtain ⟨-, e2, e3⟩ := Ieee.Datum.number.inj h2
  have h3 : ((vR p0 : Nat) : Int) = ((one1 : Nat) : Int) := by
    rw [← val_p0, val_false]
    unfold vR; rw [← e2, ← e3]
  exact Int.ofNat_inj.1 h3

theorem vR_p64 : vR p64 = 2 ^ 64 * one1 := by
  have h2 : rd p64 = .number false (magR p64) (placeR p64) := rd_rung p64_lt
  rw [rd_p64] at h2
  obtain ⟨-, e2, e3⟩ := Ieee.Datum.number.inj h2
  have h3 : ((vR p64 : Nat) : Int) = ((2 ^ 64 * one1 : Nat) : Int) := by
    rw [← val_p64, val_false]
    unfold vR; rw [← e2, ← e3]
  exact Int.ofNat_inj.1 h3

theorem cut_of {r : Nat} (h : r < 2047 * 2 ^ 52) (hv : vR r < 2 ^ 64 * one1) : cutT r = ((vR r / one1 : Nat) : Int) := by
  unfold cutT
  rw [if_neg]
  · by_cases h0 : p0 ≤ r
    · rw [if_pos h0]
    · rw [if_neg h0]
      have : vR r < vR p0 := vR_lt (by omega) (Nat.lt_of_le_of_lt p0_le p64_lt)
      rw [vR_p0] at this
      rw [Nat.div_eq_of_lt this]; rfl
  · intro h1
    have := vR_mono h1 h
    rw [vR_p64] at this
    omega

theorem log2_lt {n k : Nat} (h : n < 2 ^ k) (hn : n ≠ 0) : n.log2 < k := (Nat.log2_lt hn).2 h

/-- a whole number below 2 ^ 53 is a double. -/
theorem flo_exact {n : Int} (h1 : 1 ≤ n) (h2 : n < 9007199254740992) :
    floatOfInt .f64 n < 2047 * 2 ^ 52 ∧ magR (floatOfInt .f64 n) = n.toNat * 2 ^ (52 - n.toNat.log2) ∧ placeR (floatOfInt .f64 n) = (n.toNat.log2 : Int) - 52 ∧ n.toNat.log2 ≤ 52 := by
  have hL : n.toNat.log2 < 53 := log2_lt (by omega) (by omega)
  have := rung_exact (m := n.toNat) (i := 0) (by omega) (by omega) (by omega) (by omega)
  rw [← flo_is (by omega)] at this
  refine ⟨this.1, this.2.1, by rw [this.2.2]; omega, by omega⟩

theorem cut_flo {n : Int} (h1 : 0 ≤ n) (h2 : n < 9007199254740992) : cutT (floatOfInt .f64 n) = n := by
  by_cases h0 : n = 0
  · subst h0; rw [flo_zero]; decide +kernel
  · have hL : n.toNat.log2 < 53 := log2_lt (by omega) (by omega)
    have hv := vR_exact (m := n.toNat) (i := 0) (by omega) (by omega) (by omega) (by omega) (by omega)
    have e : (0 + 1074 : Int).toNat = place1 := rfl
    rw [e, ← flo_is h1] at hv
    have hv' : vR (floatOfInt .f64 n) = n.toNat * one1 := hv
    have hp := one1_pos
    have hlt : n.toNat * one1 < 2 ^ 64 * one1 := Nat.mul_lt_mul_of_pos_right (by omega) hp
    rw [cut_of (flo_exact (by omega) h2).1 (by rw [hv']; exact hlt), hv', Nat.mul_div_cancel _ hp]
    omega

theorem leQ_antisymm_rung {m n : Nat} {i j : Int} (h1 : leQ m i n j) (h2 : leQ n j m i) : rungOf m i = rungOf n j :=
  Nat.le_antisymm (rung_mono h1) (rung_mono h2)

/-- the same number, by another place. -/
theorem rung_same {m n : Nat} {i j : Int} (k : Nat) (h : m = n * 2 ^ k) (hj : j = i + k) : rungOf m i = rungOf n j := by
  subst h hj
  apply leQ_antisymm_rung
  · rw [leQ_iff i (by omega) (by omega), show (i - i).toNat = 0 by omega, show (i + (k : Int) - i).toNat = k by omega]; omega
  · rw [leQ_iff i (by omega) (by omega), show (i - i).toNat = 0 by omega, show (i + (k : Int) - i).toNat = k by omega]; omega

/-- n times one is n. -/
theorem timesV_one {n r : Int} (h0 : 0 ≤ n) (h1 : n < 9007199254740992) (hr : r.toNat = p0) : timesV n r = n := by
  have hr2 : rd r.toNat = .number false (2 ^ 52) (-52) := by rw [hr]; exact rd_p0
  rw [timesV_pos h0 (by omega) hr2]
  have hb : rungOf (magR (floatOfInt .f64 n) * 2 ^ 52) (placeR (floatOfInt .f64 n) + -52) = floatOfInt .f64 n := by
    rw [rung_same 52 rfl (show placeR (floatOfInt .f64 n) = placeR (floatOfInt .f64 n) + -52 + (52 : Nat) by omega)]
    exact rung_back (Nat.lt_of_le_of_lt (flo_small h0 (by omega)) p64_lt)
  rw [hb]
  exact cut_flo h0 h1

/-! ### quotients -/
def moreQ (m n : Nat) : Nat := 54 + n.log2 - m.log2
def sticky (m n : Nat) : Nat := 2 * (m * 2 ^ moreQ m n / n) + (m * 2 ^ moreQ m n % n != 0).toNat

theorem quo_num {x y : Nat} {m n : Nat} {i j : Int} (hx : rd x = .number false m i) (hy : rd y = .number false n j) (hn : n ≠ 0) :
    floatBits .quo .f64 x y = some (rungOf (sticky m n) (i - j - (moreQ m n : Int) - 1)) := by
  have e : floatBits .quo .f64 x y = ((rd x).quotient 54 (rd y)).map Ieee.double.write := rfl
  rw [e, hx, hy]
  unfold Ieee.Datum.quotient
  dsimp only
  rw [if_neg hn]
  show some (Ieee.double.nearest (false ^^ false) (2 * (m <<< (54 + n.log2 - m.log2) / n) + (m <<< (54 + n.log2 - m.log2) % n != 0).toNat) (i - j - ((54 + n.log2 - m.log2 : Nat) : Int) - 1)) = _
  rw [nearest_rung, Nat.shiftLeft_eq]
  show some ((if false = true then 2 ^ 63 else 0) + _) = _
  rw [if_neg (by decide), Nat.zero_add]
  rfl

theorem sticky_le {m n c : Nat} (hn : n ≠ 0) (h : m * 2 ^ moreQ m n ≤ c * n) : sticky m n ≤ 2 * c := by
  unfold sticky
  generalize m * 2 ^ moreQ m n = D at *
  have e := Nat.div_add_mod D n
  have hm : D % n < n := Nat.mod_lt D (by omega)
  generalize D / n = q at *
  generalize D % n = r at *
  by_cases hr : r = 0
  · subst hr
    have : n * q ≤ n * c := by rw [Nat.mul_comm n c]; omega
    have := Nat.le_of_mul_le_mul_left this (by omega)
    simp; omega
  · have hb : (r != 0) = true := by simpa using hr
    rw [hb, Bool.toNat_true]
    have h1 : n * q < n * c := by rw [Nat.mul_comm n c]; omega
    have := Nat.lt_of_mul_lt_mul_left h1
    omega

theorem le_sticky {m n c : Nat} (hn : n ≠ 0) (h : c * n ≤ m * 2 ^ moreQ m n) : 2 * c ≤ sticky m n := by
  unfold sticky
  have : c ≤ m * 2 ^ moreQ m n / n := (Nat.le_div_iff_mul_le (by omega)).2 h
  omega

theorem optV_rung {r : Nat} (h : r ≤ 2047 * 2 ^ 52) : optV (some r) = (r : Int) := by
  show (if selfEq r = true then (r : Int) else canonV) = r
  rw [if_pos (selfEq_rung h)]

theorem ofV_is {a b : Int} (a0 : 0 ≤ a) (a1 : a ≤ 18446744073709551615) (b0 : 1 ≤ b) (b1 : b ≤ 18446744073709551615) :
    ofV a b = (rungOf (sticky (magR (floatOfInt .f64 a)) (magR (floatOfInt .f64 b))) (placeR (floatOfInt .f64 a) - placeR (floatOfInt .f64 b) - (moreQ (magR (floatOfInt .f64 a)) (magR (floatOfInt .f64 b)) : Int) - 1) : Nat) := by
  unfold ofV
  rw [quo_num (flo_rd a0 a1) (flo_rd (by omega) b1) (mag_pos (flo_pos b0)), optV_rung (rung_le _ _)]

theorem sticky_zero (n : Nat) : sticky 0 n = 0 := by
  unfold sticky; simp

theorem ofV_zero {b : Int} (b0 : 1 ≤ b) (b1 : b ≤ 18446744073709551615) : ofV 0 b = 0 := by
  rw [ofV_is (by omega) (by omega) b0 b1, flo_zero, magR_0, sticky_zero]
  rfl

end Go.Proofs.Ytbdngcifnlkijaa
