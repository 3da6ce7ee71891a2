/- Plain laws: so many times a quotient is the number again, but for one at most. -/
import Derived.Test.YtbdngcifnlkijaaNum3
namespace Go.Proofs.Ytbdngcifnlkijaa
open Go.RowKit

theorem sticky_near {m n : Nat} (hn : n ≠ 0) : sticky m n * n ≤ 2 * (m * 2 ^ moreQ m n) + n ∧ 2 * (m * 2 ^ moreQ m n) ≤ sticky m n * n + n := by
  unfold sticky
  generalize m * 2 ^ moreQ m n = D at *
  have e := Nat.div_add_mod D n
  have hm : D % n < n := Nat.mod_lt D (by omega)
  generalize D / n = q at *
  generalize D % n = r at *
  by_cases hr : r = 0
  · subst hr
    have e0 : ((0 : Nat) != 0).toNat = 0 := rfl
    rw [e0, Nat.add_zero, Nat.mul_assoc, Nat.mul_comm q n]; omega
  · have hb : (r != 0) = true := by simpa using hr
    rw [hb, Bool.toNat_true, Nat.add_mul, Nat.one_mul, Nat.mul_assoc, Nat.mul_comm q n]; omega

theorem half_one1 : one1 = 2 ^ ((-1 : Int) + 1074).toNat * 2 := by
  rw [← Nat.pow_succ]; exact one1_pow (by decide)

/-- a half more, or less, is cut off. -/
theorem cut_half {m : Nat} (h0 : m ≠ 0) (h1 : m < 2 ^ 40) : cutT (rungOf m (-1)) = ((m / 2 : Nat) : Int) := by
  have hL : m.log2 < 40 := log2_lt h1 h0
  have hr := (rung_exact (m := m) (i := -1) h0 (by omega) (by omega) (by omega)).1
  have hv := vR_exact (m := m) (i := -1) h0 (by omega) (by omega) (by omega) (by omega)
  have ho := half_one1
  have hp : 0 < 2 ^ ((-1 : Int) + 1074).toNat := Nat.two_pow_pos _
  generalize 2 ^ ((-1 : Int) + 1074).toNat = z at *
  have hlt : vR (rungOf m (-1)) < 2 ^ 64 * one1 := by
    rw [hv, ho]
    have : m * z < 2 ^ 40 * z := Nat.mul_lt_mul_of_pos_right h1 hp
    have e : 2 ^ 64 * (z * 2) = 2 ^ 65 * z := by rw [Nat.mul_comm z 2, ← Nat.mul_assoc]
    rw [e]
    refine Nat.lt_of_lt_of_le this (Nat.mul_le_mul_right _ (by decide))
  rw [cut_of hr hlt, hv, ho, Nat.mul_comm z 2, Nat.mul_div_mul_right _ _ hp]

/-- the quotient of two small numbers, and its value. -/
theorem back_quot {a n : Int} (a0 : 1 ≤ a) (a1 : a ≤ 67108864) (n0 : 1 ≤ n) (n1 : n ≤ 67108864) :
    ∃ (q K my : Nat) (La Ln : Nat), ofV a n = (q : Int) ∧ q < 2047 * 2 ^ 52 ∧ La ≤ 26 ∧ Ln ≤ 26 ∧ my = magR (floatOfInt .f64 n) ∧ placeR (floatOfInt .f64 n) = (Ln : Int) - 52 ∧
      vR q = K * 2 ^ ((La : Int) - Ln - 55 + 1074).toNat ∧
      (2 * a.toNat - 1) * 2 ^ (106 - La) ≤ my * K ∧ my * K ≤ (2 * a.toNat + 1) * 2 ^ (106 - La) := by
  obtain ⟨-, hmx, hix, -⟩ := flo_exact (n := a) a0 (by omega)
  obtain ⟨-, hmy, hiy, -⟩ := flo_exact (n := n) n0 (by omega)
  have hLa : a.toNat.log2 < 27 := log2_lt (by omega) (by omega)
  have hLn : n.toNat.log2 < 27 := log2_lt (by omega) (by omega)
  have nx := flo_normal a0
  have ny := flo_normal n0
  have hm54 := more_normal nx ny
  obtain ⟨mx1, mx2⟩ := magR_normal nx
  obtain ⟨my1, my2⟩ := magR_normal ny
  have hq := ofV_is (a := a) (b := n) (by omega) (by omega) n0 (by omega)
  rw [hm54, hix, hiy] at hq
  have hy0 : magR (floatOfInt .f64 n) ≠ 0 := by omega
  have near := sticky_near (m := magR (floatOfInt .f64 a)) hy0
  have slo : 2 * 2 ^ 53 ≤ sticky (magR (floatOfInt .f64 a)) (magR (floatOfInt .f64 n)) := by
    apply le_sticky hy0; rw [hm54]
    exact Nat.le_trans (Nat.mul_le_mul_left (2 ^ 53) (Nat.le_of_lt my2)) (by
      have e : (2 : Nat) ^ 53 * 2 ^ 53 = 2 ^ 52 * 2 ^ 54 := by decide
      rw [e]; exact Nat.mul_le_mul_right _ mx1)
  have shi : sticky (magR (floatOfInt .f64 a)) (magR (floatOfInt .f64 n)) ≤ 2 * 2 ^ 55 := by
    apply sticky_le hy0; rw [hm54]
    exact Nat.le_trans (Nat.mul_le_mul_right (2 ^ 54) (Nat.le_of_lt mx2)) (by
      have e : (2 : Nat) ^ 53 * 2 ^ 54 = 2 ^ 55 * 2 ^ 52 := by decide
      rw [e]; exact Nat.mul_le_mul_left _ my1)
  rw [hm54] at near
  generalize hS : sticky (magR (floatOfInt .f64 a)) (magR (floatOfInt .f64 n)) = S at *
  generalize hmyv : magR (floatOfInt .f64 n) = my at *
  have hD : 2 * (magR (floatOfInt .f64 a) * 2 ^ 54) = 2 * a.toNat * 2 ^ (106 - a.toNat.log2) := by
    rw [hmx]
    have e : (2 : Nat) ^ (106 - a.toNat.log2) = 2 ^ (52 - a.toNat.log2) * 2 ^ 54 := by rw [← Nat.pow_add]; congr 1; omega
    rw [e, Nat.mul_assoc a.toNat, Nat.mul_assoc 2]
  rw [hD] at near
  have hH : 2 ^ 80 ≤ 2 ^ (106 - a.toNat.log2) := Nat.pow_le_pow_right (by omega) (by omega)
  generalize a.toNat.log2 = La at *
  generalize n.toNat.log2 = Ln at *
  have hS0 : S ≠ 0 := by omega
  have l1 : 54 ≤ S.log2 := (Nat.le_log2 hS0).2 (by omega)
  have l2 : S.log2 < 57 := (Nat.log2_lt hS0).2 (by omega)
  have hfin : rungOf S ((La : Int) - 52 - ((Ln : Int) - 52) - (54 : Nat) - 1) ≤ p64 := by
    rw [← rung_p64]
    apply rung_mono
    rw [leQ_iff ((La : Int) - 52 - ((Ln : Int) - 52) - (54 : Nat) - 1) (by omega) (by omega)]
    rw [show ((La : Int) - 52 - ((Ln : Int) - 52) - (54 : Nat) - 1 - ((La : Int) - 52 - ((Ln : Int) - 52) - (54 : Nat) - 1)).toNat = 0 by omega, Nat.pow_zero, Nat.mul_one]
    have : (2 : Nat) ^ 4 ≤ 2 ^ (12 - ((La : Int) - 52 - ((Ln : Int) - 52) - (54 : Nat) - 1)).toNat := Nat.pow_le_pow_right (by omega) (by omega)
    have h2 := Nat.mul_le_mul_left (2 ^ 52) this
    omega
  have hlt := Nat.lt_of_le_of_lt hfin p64_lt
  have hv := vR_rung hS0 hlt
  have hlast : lastP S ((La : Int) - 52 - ((Ln : Int) - 52) - (54 : Nat) - 1) = (La : Int) - Ln - 55 + (S.log2 : Int) - 52 := by unfold lastP; omega
  have hk : keptP S ((La : Int) - 52 - ((Ln : Int) - 52) - (54 : Nat) - 1) = rE S (S.log2 - 52) := by
    unfold keptP
    rw [hlast]
    have e1 : ((La : Int) - 52 - ((Ln : Int) - 52) - (54 : Nat) - 1 - ((La : Int) - Ln - 55 + (S.log2 : Int) - 52)).toNat = 0 := by omega
    have e2 : ((La : Int) - Ln - 55 + (S.log2 : Int) - 52 - ((La : Int) - 52 - ((Ln : Int) - 52) - (54 : Nat) - 1)).toNat = S.log2 - 52 := by omega
    rw [e1, e2, Nat.pow_zero, Nat.mul_one]
  obtain ⟨k, P, hkk, hP, P0, b1, b2, -, -⟩ := rE_spec S (S.log2 - 52)
  have hP16 : P ≤ 16 := by
    rw [hP]; exact Nat.pow_le_pow_right (n := 2) (by omega) (by omega : S.log2 - 52 ≤ 4)
  refine ⟨_, k * P, my, La, Ln, hq, hlt, by omega, by omega, rfl, by omega, ?_, ?_⟩
  · rw [hv, hk, ← hkk, hlast, hP, Nat.mul_assoc, ← Nat.pow_add]
    congr 2; omega
  · have c1 : 2 * k * P = 2 * (k * P) := Nat.mul_assoc 2 k P
    rw [c1] at b1 b2
    generalize k * P = K at *
    have u1 : K ≤ S + 8 := by omega
    have u2 : S ≤ K + 8 := by omega
    have v1 : my * K ≤ my * (S + 8) := Nat.mul_le_mul_left _ u1
    have v2 : S * my ≤ (K + 8) * my := Nat.mul_le_mul_right _ u2
    rw [Nat.mul_add, Nat.mul_comm my S] at v1
    rw [Nat.add_mul, Nat.mul_comm K my] at v2
    obtain ⟨n1', n2'⟩ := near
    have hA : 1 ≤ a.toNat := by omega
    generalize a.toNat = A at *
    generalize hHH : 2 ^ (106 - La) = H at *
    have w1 : (2 * A + 1) * H = 2 * A * H + H := by rw [Nat.add_mul, Nat.one_mul]
    have w2 : (2 * A - 1) * H + H = 2 * A * H := by
      have : (2 * A - 1) * H + H = (2 * A - 1 + 1) * H := by rw [Nat.add_mul, Nat.one_mul]
      rw [this]; congr 1; omega
    constructor <;> omega

theorem timesV_back {a n : Int} (a0 : 1 ≤ a) (a1 : a ≤ 67108864) (n0 : 1 ≤ n) (n1 : n ≤ 67108864) : a - 1 ≤ timesV n (ofV a n) ∧ timesV n (ofV a n) ≤ a := by
  obtain ⟨q, K, my, La, Ln, hq, hlt, hLa, hLn, hmy, hiy, hv, lo, hi⟩ := back_quot a0 a1 n0 n1
  rw [hq]
  have hrd : rd ((q : Int).toNat) = .number false (magR q) (placeR q) := by rw [Int.toNat_natCast]; exact rd_rung hlt
  rw [timesV_pos (by omega) (by omega) hrd, ← hmy, hiy]
  have hp := placeR_ge q
  have hA : 1 ≤ a.toNat := by omega
  have hA2 : a.toNat ≤ 67108864 := by omega
  have hvq : my * magR q * 2 ^ (placeR q + 1074).toNat = my * K * 2 ^ ((La : Int) - Ln - 55 + 1074).toNat := by
    rw [Nat.mul_assoc my K, ← hv, Nat.mul_assoc]; rfl
  have key : ∀ c : Nat, 2 ^ (106 - La) * 2 ^ ((La : Int) - Ln - 55 + 1074).toNat * c = c * 2 ^ (-1 - ((Ln : Int) - 52 - 1074)).toNat := by
    intro c
    rw [← Nat.pow_add, Nat.mul_comm]
    congr 2; omega
  have e0 : ((Ln : Int) - 52 + placeR q - ((Ln : Int) - 52 - 1074)).toNat = (placeR q + 1074).toNat := by omega
  constructor
  · have h : leQ (2 * a.toNat - 1) (-1) (my * magR q) ((Ln : Int) - 52 + placeR q) := by
      rw [leQ_iff ((Ln : Int) - 52 - 1074) (by omega) (by omega), e0, hvq, ← key]
      have := Nat.mul_le_mul_right (2 ^ ((La : Int) - Ln - 55 + 1074).toNat) lo
      rw [Nat.mul_comm (2 * a.toNat - 1), Nat.mul_assoc, Nat.mul_comm (2 * a.toNat - 1), ← Nat.mul_assoc] at this
      exact this
    have := cut_mono (rung_mono h)
    rw [cut_half (by omega) (by omega)] at this
    omega
  · have h : leQ (my * magR q) ((Ln : Int) - 52 + placeR q) (2 * a.toNat + 1) (-1) := by
      rw [leQ_iff ((Ln : Int) - 52 - 1074) (by omega) (by omega), e0, hvq, ← key]
      have := Nat.mul_le_mul_right (2 ^ ((La : Int) - Ln - 55 + 1074).toNat) hi
      rw [Nat.mul_comm (2 * a.toNat + 1), Nat.mul_assoc (2 ^ (106 - La)), Nat.mul_comm (2 * a.toNat + 1), ← Nat.mul_assoc] at this
      exact this
    have := cut_mono (rung_mono h)
    rw [cut_half (by omega) (by omega)] at this
    omega

theorem log2_double {n : Nat} (h : n ≠ 0) : (2 * n).log2 = n.log2 + 1 := by
  apply log2_of
  · have := log_lo h; rw [Nat.pow_succ]; omega
  · have := log_hi n; rw [Nat.pow_succ]; omega

/-- twice of both is the same quotient. -/
theorem ofV_twice {a n : Int} (a0 : 0 ≤ a) (a1 : a ≤ 67108864) (n0 : 1 ≤ n) (n1 : n ≤ 67108864) : ofV (2 * a) (2 * n) = ofV a n := by
  by_cases h : a = 0
  · subst h
    rw [show (2 : Int) * 0 = 0 by omega, ofV_zero (by omega) (by omega), ofV_zero (by omega) (by omega)]
  · have tw : ∀ z : Int, 1 ≤ z → z ≤ 67108864 → magR (floatOfInt .f64 (2 * z)) = magR (floatOfInt .f64 z) ∧ placeR (floatOfInt .f64 (2 * z)) = placeR (floatOfInt .f64 z) + 1 := by
      intro z z0 z1
      obtain ⟨-, h1, h2, h3⟩ := flo_exact (n := z) z0 (by omega)
      obtain ⟨-, g1, g2, g3⟩ := flo_exact (n := 2 * z) (by omega) (by omega)
      have e : (2 * z).toNat = 2 * z.toNat := by omega
      rw [e, log2_double (by omega)] at g1 g2 g3
      refine ⟨?_, by rw [g2, h2]; omega⟩
      rw [g1, h1, show 52 - z.toNat.log2 = (52 - (z.toNat.log2 + 1)) + 1 by omega, Nat.pow_succ, Nat.mul_comm 2 z.toNat, Nat.mul_assoc, Nat.mul_comm 2]
    obtain ⟨x1, x2⟩ := tw a (by omega) a1
    obtain ⟨y1, y2⟩ := tw n n0 n1
    rw [ofV_is (by omega) (by omega) (by omega) (by omega), ofV_is (by omega) (by omega) n0 (by omega), x1, x2, y1, y2]
    congr 2; omega

end Go.Proofs.Ytbdngcifnlkijaa
