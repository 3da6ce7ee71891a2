/- Plain laws of products cut to whole numbers, and of quotients. -/
import Derived.Test.YtbdngcifnlkijaaOrder
namespace Go.Proofs.Ytbdngcifnlkijaa
open Go.RowKit

theorem rung_le (m : Nat) (i : Int) : rungOf m i ≤ 2047 * 2 ^ 52 := by
  unfold rungOf; split
  · omega
  · exact Nat.min_le_right _ _

theorem flo_is {n : Int} (h : 0 ≤ n) : floatOfInt .f64 n = rungOf n.toNat 0 := by
  have e : floatOfInt .f64 n = Ieee.double.nearest (decide (n < 0)) n.natAbs 0 := rfl
  rw [e, nearest_rung, decide_eq_false (by omega)]
  have : n.natAbs = n.toNat := by omega
  rw [this]; simp

theorem rd_rung {r : Nat} (h : r < 2047 * 2 ^ 52) : rd r = .number false (magR r) (placeR r) := by
  have e : r % 2 ^ 63 = r := Nat.mod_eq_of_lt (by omega)
  have := rd_fin (b := r) (by omega)
  rw [e] at this
  rw [this]
  have z : (r / 2 ^ 63 % 2 == 1) = false := by simp; omega
  rw [z]

theorem rung_p64 : rungOf (2 ^ 52) 12 = p64 := by decide +kernel
theorem rung_p0 : rungOf (2 ^ 52) (-52) = p0 := by decide +kernel

theorem flo_small {n : Int} (h : 0 ≤ n) (h1 : n ≤ 18446744073709551615) : floatOfInt .f64 n ≤ p64 := by
  rw [flo_is h, ← rung_p64]
  apply rung_mono
  rw [leQ_iff 0 (by omega) (by omega)]
  have e : ((12 : Int) - 0).toNat = 12 := rfl
  have e0 : ((0 : Int) - 0).toNat = 0 := rfl
  rw [e, e0]; omega

theorem p64_lt : p64 < 2047 * 2 ^ 52 := by decide

theorem flo_rd {n : Int} (h : 0 ≤ n) (h1 : n ≤ 18446744073709551615) : rd (floatOfInt .f64 n) = .number false (magR (floatOfInt .f64 n)) (placeR (floatOfInt .f64 n)) :=
  rd_rung (Nat.lt_of_le_of_lt (flo_small h h1) p64_lt)

theorem flo_mono {a b : Int} (h : 0 ≤ a) (h1 : a ≤ b) : floatOfInt .f64 a ≤ floatOfInt .f64 b := by
  rw [flo_is h, flo_is (by omega)]
  apply rung_mono
  rw [leQ_iff 0 (by omega) (by omega)]
  have e0 : ((0 : Int) - 0).toNat = 0 := rfl
  rw [e0]; omega

theorem mul_num {x y : Nat} {s t : Bool} {m n : Nat} {i j : Int} (hx : rd x = .number s m i) (hy : rd y = .number t n j) :
    floatBits .mul .f64 x y = some ((if (s ^^ t) then 2 ^ 63 else 0) + rungOf (m * n) (i + j)) := by
  have e : floatBits .mul .f64 x y = ((rd x).product (rd y)).map Ieee.double.write := rfl
  rw [e, hx, hy]
  show some (Ieee.double.nearest (s ^^ t) (m * n) (i + j)) = _
  rw [nearest_rung]

theorem selfEq_rung {p : Nat} (h : p ≤ 2047 * 2 ^ 52) : selfEq p = true := by
  rw [selfEq_iff]; apply decide_eq_true; omega

theorem sr_rung {p : Nat} (h : p ≤ 2047 * 2 ^ 52) : sr p = (p : Int) := by
  unfold sr
  have e : (p / 2 ^ 63 % 2 == 1) = false := by simp; omega
  rw [e, if_neg (by decide)]; omega

theorem ge_rung {p c : Nat} (hp : p ≤ 2047 * 2 ^ 52) (hc : c ≤ 2047 * 2 ^ 52) : geB p c = decide (c ≤ p) := by
  unfold geB
  rw [order_sr (selfEq_rung hp) (selfEq_rung hc), sr_rung hp, sr_rung hc]
  rcases Nat.lt_trichotomy p c with h | h | h
  · rw [Int.compare_eq_lt.2 (by omega), decide_eq_false (by omega)]; rfl
  · rw [Int.compare_eq_eq.2 (by omega), decide_eq_true (by omega)]; rfl
  · rw [Int.compare_eq_gt.2 (by omega), decide_eq_true (by omega)]; rfl

/-- a rung, cut to a whole number. -/
def cutT (p : Nat) : Int := if p64 ≤ p then 18446744073709551615 else if p0 ≤ p then ((vR p / one1 : Nat) : Int) else 0

theorem p0_le : p0 ≤ p64 := by decide

theorem timesV_cut {n r : Int} {p : Nat} (h : floatBits .mul .f64 (floatOfInt .f64 n) r.toNat = some p) (hp : p ≤ 2047 * 2 ^ 52) : timesV n r = cutT p := by
  have c1 : p64 ≤ 2047 * 2 ^ 52 := Nat.le_of_lt p64_lt
  have g1 := ge_rung hp c1
  have g2 := ge_rung hp (Nat.le_trans p0_le c1)
  unfold cutT
  by_cases h1 : p64 ≤ p
  · rw [decide_eq_true h1] at g1
    rw [timesV_most h g1, if_pos h1]
  · rw [decide_eq_false h1] at g1
    rw [if_neg h1]
    by_cases h2 : p0 ≤ p
    · rw [decide_eq_true h2] at g2
      obtain ⟨k, h3, -, -, m, i, hrd, hk⟩ := whole g2 g1
      rw [timesV_some h g1 g2 h3, if_pos h2, hk]
      rw [rd_rung (Nat.lt_trans (by omega : p < p64) p64_lt)] at hrd
      injection hrd with e1 e2 e3
      subst e2 e3
      rfl
    · rw [decide_eq_false h2] at g2
      rw [timesV_zero h g1 g2, if_neg h2]

theorem vR_mono {r s : Nat} (h : r ≤ s) (hs : s < 2047 * 2 ^ 52) : vR r ≤ vR s := by
  rcases Nat.lt_or_eq_of_le h with h | h
  · exact Nat.le_of_lt (vR_lt h hs)
  · subst h; exact Nat.le_refl _

theorem vR_below {p : Nat} (h : p < p64) : vR p < 2 ^ 64 * one1 := by
  have h1 := vR_lt h p64_lt
  have h2 : rd p64 = .number false (magR p64) (placeR p64) := rd_rung p64_lt
  rw [rd_p64] at h2
  obtain ⟨-, e2, e3⟩ := Ieee.Datum.number.inj h2
  have h3 : ((vR p64 : Nat) : Int) = ((2 ^ 64 * one1 : Nat) : Int) := by
    rw [← val_p64, val_false]
    unfold vR; rw [← e2, ← e3]
  have h4 : vR p64 = 2 ^ 64 * one1 := Int.ofNat_inj.1 h3
  rw [← h4]; exact h1

theorem cut_range (p : Nat) : 0 ≤ cutT p ∧ cutT p ≤ 18446744073709551615 := by
  unfold cutT
  split
  · omega
  · split
    · rename_i h1 h2
      have : vR p / one1 < 2 ^ 64 := (Nat.div_lt_iff_lt_mul one1_pos).2 (vR_below (by omega))
      generalize vR p / one1 = k at *
      omega
    · omega

theorem cut_mono {p q : Nat} (h : p ≤ q) : cutT p ≤ cutT q := by
  have rq := cut_range q
  have rp := cut_range p
  unfold cutT at *
  by_cases h1 : p64 ≤ q
  · rw [if_pos h1]; exact rp.2
  · rw [if_neg h1]; rw [if_neg (by omega : ¬ p64 ≤ p)]
    by_cases h2 : p0 ≤ p
    · rw [if_pos h2, if_pos (by omega)]
      have : vR p / one1 ≤ vR q / one1 := Nat.div_le_div_right (vR_mono h (Nat.lt_trans (by omega : q < p64) p64_lt))
      generalize vR p / one1 = k at *
      generalize vR q / one1 = k' at *
      omega
    · rw [if_neg h2]; split
      · exact Int.natCast_nonneg _
      · omega

theorem mag_mul_mono {x y : Nat} (h : x ≤ y) (hy : y < 2047 * 2 ^ 52) (m : Nat) (i : Int) : rungOf (magR x * m) (placeR x + i) ≤ rungOf (magR y * m) (placeR y + i) := by
  apply rung_mono
  have hv := leQ_v.2 (vR_mono h hy)
  unfold leQ at hv
  rw [leQ_iff (min (placeR x) (placeR y) + i) (by omega) (by omega)]
  have e1 : (placeR x + i - (min (placeR x) (placeR y) + i)).toNat = (placeR x - min (placeR x) (placeR y)).toNat := by omega
  have e2 : (placeR y + i - (min (placeR x) (placeR y) + i)).toNat = (placeR y - min (placeR x) (placeR y)).toNat := by omega
  rw [e1, e2, Nat.mul_right_comm, Nat.mul_right_comm (magR y)]
  exact Nat.mul_le_mul_right _ hv

theorem flo_zero : floatOfInt .f64 0 = 0 := by decide +kernel

theorem flo_pos {n : Int} (h : 1 ≤ n) : 0 < floatOfInt .f64 n := by
  have := flo_mono (a := 1) (b := n) (by omega) h
  have e : floatOfInt .f64 1 = p0 := by decide +kernel
  have : 0 < p0 := by decide
  omega

theorem mag_pos {r : Nat} (h : 0 < r) : magR r ≠ 0 := by
  unfold magR; split <;> omega

theorem magR_0 : magR 0 = 0 := rfl

/-- n times an infinity. -/
theorem timesV_inf {n r : Int} (h0 : 0 ≤ n) (h1 : n ≤ 18446744073709551615) {s : Bool} (hr : rd r.toNat = .infinity s) : timesV n r = if n = 0 ∨ s = true then 0 else 18446744073709551615 := by
  have e : floatBits .mul .f64 (floatOfInt .f64 n) r.toNat = ((rd (floatOfInt .f64 n)).product (rd r.toNat)).map Ieee.double.write := rfl
  by_cases hn : n = 0
  · subst hn
    rw [if_pos (Or.inl rfl)]
    apply timesV_none
    rw [e, hr, flo_zero]; rfl
  · have hm := mag_pos (flo_pos (n := n) (by omega))
    have e2 : floatBits .mul .f64 (floatOfInt .f64 n) r.toNat = some (Ieee.double.write (.infinity s)) := by
      rw [e, hr, flo_rd h0 h1]
      show ((if magR (floatOfInt .f64 n) = 0 then (none : Option Ieee.Datum) else some (.infinity (s ^^ false))).map Ieee.double.write) = _
      rw [if_neg hm]; cases s <;> rfl
    cases s
    · rw [if_neg (by simp [hn])]
      exact timesV_most e2 (by decide +kernel)
    · rw [if_pos (Or.inr rfl)]
      exact timesV_zero e2 (by decide +kernel) (by decide +kernel)

theorem timesV_nan {n r : Int} (hr : (rd r.toNat).isNaN = true) : timesV n r = 0 := timesV_none (floatBits_nan_right _ hr)

theorem timesV_neg {n r : Int} (h0 : 0 ≤ n) (h1 : n ≤ 18446744073709551615) {m : Nat} {i : Int} (hr : rd r.toNat = .number true m i) : timesV n r = 0 := by
  have h := mul_num (flo_rd h0 h1) hr
  have hp := rung_le (magR (floatOfInt .f64 n) * m) (placeR (floatOfInt .f64 n) + i)
  generalize rungOf (magR (floatOfInt .f64 n) * m) (placeR (floatOfInt .f64 n) + i) = p at *
  have e : (if (false ^^ true) = true then 2 ^ 63 else 0) + p = 2 ^ 63 + p := rfl
  rw [e] at h
  have hs : selfEq (2 ^ 63 + p) = true := by rw [selfEq_iff]; apply decide_eq_true; omega
  have hn : sr (2 ^ 63 + p) = -(p : Int) := by
    unfold sr
    have z : ((2 ^ 63 + p) / 2 ^ 63 % 2 == 1) = true := by simp; omega
    rw [z, if_pos rfl]; omega
  have g : ∀ c, 0 < c → c ≤ 2047 * 2 ^ 52 → geB (2 ^ 63 + p) c = false := by
    intro c c0 hc
    unfold geB
    rw [order_sr hs (selfEq_rung hc), hn, sr_rung hc, Int.compare_eq_lt.2 (by omega)]; rfl
  exact timesV_zero h (g p64 (by decide) (Nat.le_of_lt p64_lt)) (g p0 (by decide) (Nat.le_trans p0_le (Nat.le_of_lt p64_lt)))

theorem timesV_pos {n r : Int} (h0 : 0 ≤ n) (h1 : n ≤ 18446744073709551615) {m : Nat} {i : Int} (hr : rd r.toNat = .number false m i) :
    timesV n r = cutT (rungOf (magR (floatOfInt .f64 n) * m) (placeR (floatOfInt .f64 n) + i)) := by
  have h := mul_num (flo_rd h0 h1) hr
  have e : (if (false ^^ false) = true then 2 ^ 63 else 0) + rungOf (magR (floatOfInt .f64 n) * m) (placeR (floatOfInt .f64 n) + i) = rungOf (magR (floatOfInt .f64 n) * m) (placeR (floatOfInt .f64 n) + i) := by simp
  rw [e] at h
  exact timesV_cut h (rung_le _ _)

/-- more bytes are never worth less. -/
theorem timesV_mono {a b : Int} (h0 : 0 ≤ a) (h : a ≤ b) (h1 : b ≤ 18446744073709551615) (r : Int) : timesV a r ≤ timesV b r := by
  cases hr : rd r.toNat with
  | nan s f => rw [timesV_nan (by rw [hr]; rfl), timesV_nan (by rw [hr]; rfl)]; exact Int.le_refl _
  | infinity s =>
    rw [timesV_inf h0 (by omega) hr, timesV_inf (by omega) h1 hr]
    cases s
    · by_cases ha : a = 0
      · rw [if_pos (Or.inl ha)]; split <;> omega
      · rw [if_neg (by simp [ha]), if_neg (by simp; omega)]; exact Int.le_refl _
    · rw [if_pos (Or.inr rfl), if_pos (Or.inr rfl)]; exact Int.le_refl _
  | number s m i =>
    cases s
    · rw [timesV_pos h0 (by omega) hr, timesV_pos (by omega) h1 hr]
      exact cut_mono (mag_mul_mono (flo_mono h0 h) (Nat.lt_of_le_of_lt (flo_small (by omega) h1) p64_lt) m i)
    · rw [timesV_neg h0 (by omega) hr, timesV_neg (by omega) h1 hr]; exact Int.le_refl _

theorem goalV_mono {a b : Int} (h0 : 0 ≤ a) (h : a ≤ b) (h1 : b ≤ 18446744073709551615) (percent : Int) : goalV a percent ≤ goalV b percent := by
  have t := timesV_mono h0 h h1 (ofV percent 100)
  unfold goalV
  generalize timesV a (ofV percent 100) = x at *
  generalize timesV b (ofV percent 100) = y at *
  split
  · omega
  · split <;> split <;> (try split) <;> (try split) <;> omega

theorem goalV_least {a : Int} (h0 : 0 ≤ a) (h1 : a ≤ 18446744073709551615) (percent : Int) : 4194304 ≤ goalV a percent ∧ a ≤ goalV a percent ∧ goalV a percent ≤ 18446744073709551615 := by
  have t := timesV_range a (ofV percent 100)
  unfold goalV
  generalize timesV a (ofV percent 100) = x at *
  split
  · omega
  · split
    · omega
    · split <;> omega

end Go.Proofs.Ytbdngcifnlkijaa
