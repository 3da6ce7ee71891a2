/- Plain laws of rounding: a greater number is rounded no lower; a number that is a double is not moved. -/
import Derived.Test.YtbdngcifnlkijaaVal
namespace Go.Proofs.Ytbdngcifnlkijaa
open Go.RowKit

/-- n by 2 ^ d, to the nearest, ties to even. -/
def rE (n d : Nat) : Nat := n / 2 ^ d + (2 ^ d < 2 * (n % 2 ^ d) || (2 ^ d == 2 * (n % 2 ^ d) && n / 2 ^ d % 2 == 1)).toNat

theorem cut_even (s : Bool) (n d : Nat) : Ieee.Toward.even.cut s n d = rE n d := by
  unfold Ieee.Toward.cut rE
  simp only [Nat.shiftLeft_eq, Nat.one_mul]
  by_cases h : d ≤ n.log2 + 2
  · rw [Nat.min_eq_left h]
  · rw [Nat.min_eq_right (by omega)]
    have h1 : n < 2 ^ (n.log2 + 1) := Nat.lt_log2_self
    have e2 : 2 ^ (n.log2 + 2) = 2 * 2 ^ (n.log2 + 1) := by rw [Nat.pow_succ, Nat.mul_comm]
    have h3 : 2 ^ (n.log2 + 2) ≤ 2 ^ d := Nat.pow_le_pow_right (by omega) (by omega)
    have q1 : n / 2 ^ (n.log2 + 2) = 0 := Nat.div_eq_of_lt (by omega)
    have q2 : n / 2 ^ d = 0 := Nat.div_eq_of_lt (by omega)
    have m1 : n % 2 ^ (n.log2 + 2) = n := Nat.mod_eq_of_lt (by omega)
    have m2 : n % 2 ^ d = n := Nat.mod_eq_of_lt (by omega)
    have b1 : decide (2 ^ (n.log2 + 2) < 2 * n) = false := decide_eq_false (by omega)
    have b2 : decide (2 ^ d < 2 * n) = false := decide_eq_false (by omega)
    rw [q1, q2, m1, m2, b1, b2]
    simp

theorem rE_spec (n d : Nat) : ∃ k P : Nat, k = rE n d ∧ P = 2 ^ d ∧ 0 < P ∧ 2 * k * P ≤ 2 * n + P ∧ 2 * n ≤ 2 * k * P + P ∧ (2 * n = 2 * k * P + P → k % 2 = 0) ∧ (2 * k * P = 2 * n + P → k % 2 = 0) := by
  refine ⟨rE n d, 2 ^ d, rfl, rfl, Nat.two_pow_pos d, ?_⟩
  unfold rE
  have hP : 0 < 2 ^ d := Nat.two_pow_pos d
  generalize 2 ^ d = P at *
  have e : P * (n / P) + n % P = n := Nat.div_add_mod n P
  have hm : n % P < P := Nat.mod_lt n hP
  generalize n / P = q at *
  generalize n % P = r at *
  have c : P * q = q * P := Nat.mul_comm P q
  by_cases h1 : P < 2 * r
  · have hd : decide (P < 2 * r) = true := decide_eq_true h1
    rw [hd, Bool.true_or, Bool.toNat_true]
    have e2 : 2 * (q + 1) * P = 2 * (q * P) + 2 * P := by rw [Nat.mul_assoc, Nat.add_mul, Nat.one_mul, Nat.mul_add]
    rw [e2]; refine ⟨by omega, by omega, by omega, by omega⟩
  · have hd : decide (P < 2 * r) = false := decide_eq_false h1
    rw [hd, Bool.false_or]
    by_cases h2 : P = 2 * r ∧ q % 2 = 1
    · have hb : (P == 2 * r && q % 2 == 1) = true := by simp [h2.2, ← h2.1]
      rw [hb, Bool.toNat_true]
      have e2 : 2 * (q + 1) * P = 2 * (q * P) + 2 * P := by rw [Nat.mul_assoc, Nat.add_mul, Nat.one_mul, Nat.mul_add]
      rw [e2]; refine ⟨by omega, by omega, by omega, by omega⟩
    · have hb : (P == 2 * r && q % 2 == 1) = false := by
        rw [Bool.eq_false_iff]; intro h; apply h2; simpa using h
      rw [hb, Bool.toNat_false, Nat.add_zero]
      have e2 : 2 * q * P = 2 * (q * P) := by rw [Nat.mul_assoc]
      rw [e2]; refine ⟨by omega, by omega, by omega, by omega⟩

theorem rE_mono {n d n' d' : Nat} (h : n * 2 ^ d' ≤ n' * 2 ^ d) : rE n d ≤ rE n' d' := by
  obtain ⟨k, P, hk, hP, p0, a1, a2, a3, a4⟩ := rE_spec n d
  obtain ⟨k', P', hk', hP', p0', b1, b2, b3, b4⟩ := rE_spec n' d'
  rw [← hk, ← hk']
  rw [← hP, ← hP'] at h
  rcases Nat.lt_or_ge k' k with hlt | hge
  · exfalso
    have s1 : (2 * k * P) * P' ≤ (2 * n + P) * P' := Nat.mul_le_mul_right _ a1
    have s2 : (2 * n') * P ≤ (2 * k' * P' + P') * P := Nat.mul_le_mul_right _ b2
    have c1 : (2 * k * P) * P' = 2 * (k * (P * P')) := by rw [Nat.mul_assoc, Nat.mul_assoc]
    have c2 : (2 * n + P) * P' = 2 * (n * P') + P * P' := by rw [Nat.add_mul, Nat.mul_assoc]
    have c3 : (2 * n') * P = 2 * (n' * P) := by rw [Nat.mul_assoc]
    have c4 : (2 * k' * P' + P') * P = 2 * (k' * (P * P')) + P * P' := by
      rw [Nat.add_mul, Nat.mul_assoc, Nat.mul_assoc, Nat.mul_comm P' P]
    rw [c1, c2] at s1; rw [c3, c4] at s2
    have pp : 0 < P * P' := Nat.mul_pos p0 p0'
    have s3 : (k' + 1) * (P * P') ≤ k * (P * P') := Nat.mul_le_mul_right _ hlt
    rw [Nat.add_mul, Nat.one_mul] at s3
    -- all are equal
    have t1 : 2 * (k * (P * P')) = 2 * (n * P') + P * P' := by omega
    have t2 : 2 * (n' * P) = 2 * (k' * (P * P')) + P * P' := by omega
    have t3 : k * (P * P') = (k' + 1) * (P * P') := by rw [Nat.add_mul, Nat.one_mul]; omega
    have t4 : k = k' + 1 := Nat.eq_of_mul_eq_mul_right pp t3
    have u1 : 2 * k * P = 2 * n + P := Nat.eq_of_mul_eq_mul_right p0' (by rw [c1, c2]; exact t1)
    have u2 : 2 * n' = 2 * k' * P' + P' := Nat.eq_of_mul_eq_mul_right p0 (by rw [c3, c4]; exact t2)
    have v1 := a4 u1
    have v2 := b3 u2
    omega
  · exact hge

/-- the last digit's place that is kept of 'm * 2 ^ i'. -/
def lastP (m : Nat) (i : Int) : Int := max (i + (m.log2 : Int) - 52) (-1074)

def keptP (m : Nat) (i : Int) : Nat := rE (m * 2 ^ (i - lastP m i).toNat) (lastP m i - i).toNat

/-- the rung of a double, of 'm * 2 ^ i', rounded. -/
def rungOf (m : Nat) (i : Int) : Nat := if m = 0 then 0 else min ((lastP m i + 1074).toNat * 2 ^ 52 + keptP m i) (2047 * 2 ^ 52)

theorem nearest_rung (neg : Bool) (m : Nat) (i : Int) : Ieee.double.nearest neg m i = (if neg then 2 ^ 63 else 0) + rungOf m i := by
  unfold Ieee.Format.nearest rungOf keptP
  have w : ∀ r, Ieee.double.word neg r = (if neg then 2 ^ 63 else 0) + r := by
    intro r; cases neg
    · show r = _; simp
    · rfl
  by_cases h : m = 0
  · rw [if_pos h, if_pos h, w]
  · rw [if_neg h, if_neg h]
    dsimp only
    rw [w, cut_even, Nat.shiftLeft_eq]
    congr 1

def leQ (m : Nat) (i : Int) (n : Nat) (j : Int) : Prop := m * 2 ^ (i - min i j).toNat ≤ n * 2 ^ (j - min i j).toNat

theorem leQ_iff {m n : Nat} {i j : Int} (b : Int) (hi : b ≤ i) (hj : b ≤ j) : leQ m i n j ↔ m * 2 ^ (i - b).toNat ≤ n * 2 ^ (j - b).toNat := by
  unfold leQ
  obtain ⟨k, hk⟩ : ∃ k : Nat, (k : Int) = min i j - b := ⟨(min i j - b).toNat, by omega⟩
  have e1 : (i - b).toNat = (i - min i j).toNat + k := by omega
  have e2 : (j - b).toNat = (j - min i j).toNat + k := by omega
  rw [e1, e2, Nat.pow_add, Nat.pow_add, ← Nat.mul_assoc, ← Nat.mul_assoc]
  exact ⟨fun h => Nat.mul_le_mul_right _ h, fun h => Nat.le_of_mul_le_mul_right h (Nat.two_pow_pos k)⟩

theorem log_lo {m : Nat} (h : m ≠ 0) : 2 ^ m.log2 ≤ m := Nat.log2_self_le h
theorem log_hi (m : Nat) : m < 2 ^ (m.log2 + 1) := Nat.lt_log2_self

theorem log_le {m n : Nat} {i j : Int} (hm : m ≠ 0) (h : leQ m i n j) : i + (m.log2 : Int) ≤ j + (n.log2 : Int) := by
  rcases Int.lt_or_le (j + (n.log2 : Int)) (i + (m.log2 : Int)) with hlt | hge
  · exfalso
    unfold leQ at h
    have h1 : 2 ^ (m.log2 + (i - min i j).toNat) ≤ m * 2 ^ (i - min i j).toNat := by
      rw [Nat.pow_add]; exact Nat.mul_le_mul_right _ (log_lo hm)
    have h2 : n * 2 ^ (j - min i j).toNat < 2 ^ (n.log2 + 1 + (j - min i j).toNat) := by
      rw [Nat.pow_add]; exact Nat.mul_lt_mul_of_pos_right (log_hi n) (Nat.two_pow_pos _)
    have h3 : 2 ^ (n.log2 + 1 + (j - min i j).toNat) ≤ 2 ^ (m.log2 + (i - min i j).toNat) := Nat.pow_le_pow_right (by omega) (by omega)
    omega
  · exact hge

theorem kept_le (m : Nat) (i : Int) : keptP m i ≤ 2 ^ 53 := by
  unfold keptP
  have hl : i + (m.log2 : Int) - 52 ≤ lastP m i := by unfold lastP; omega
  have h1 : m * 2 ^ (i - lastP m i).toNat < 2 ^ 53 * 2 ^ (lastP m i - i).toNat := by
    have : 2 ^ (m.log2 + 1) * 2 ^ (i - lastP m i).toNat ≤ 2 ^ 53 * 2 ^ (lastP m i - i).toNat := by
      rw [← Nat.pow_add, ← Nat.pow_add]; exact Nat.pow_le_pow_right (by omega) (by omega)
    exact Nat.lt_of_lt_of_le (Nat.mul_lt_mul_of_pos_right (log_hi m) (Nat.two_pow_pos _)) this
  have h2 : m * 2 ^ (i - lastP m i).toNat / 2 ^ (lastP m i - i).toNat < 2 ^ 53 := (Nat.div_lt_iff_lt_mul (Nat.two_pow_pos _)).2 h1
  unfold rE
  generalize m * 2 ^ (i - lastP m i).toNat / 2 ^ (lastP m i - i).toNat = q at *
  have h3 : ∀ b : Bool, b.toNat ≤ 1 := by intro b; cases b <;> decide
  have := h3 (decide (2 ^ (lastP m i - i).toNat < 2 * (m * 2 ^ (i - lastP m i).toNat % 2 ^ (lastP m i - i).toNat)) || (2 ^ (lastP m i - i).toNat == 2 * (m * 2 ^ (i - lastP m i).toNat % 2 ^ (lastP m i - i).toNat) && q % 2 == 1))
  omega

theorem kept_ge {m : Nat} {i : Int} (hm : m ≠ 0) (h : -1074 < lastP m i) : 2 ^ 52 ≤ keptP m i := by
  have hl : lastP m i = i + (m.log2 : Int) - 52 := by unfold lastP at h ⊢; omega
  unfold keptP rE
  refine Nat.le_trans ?_ (Nat.le_add_right _ _)
  refine (Nat.le_div_iff_mul_le (Nat.two_pow_pos _)).2 ?_
  rw [← Nat.pow_add]
  refine Nat.le_trans ?_ (Nat.mul_le_mul_right _ (log_lo hm))
  rw [← Nat.pow_add]
  exact Nat.pow_le_pow_right (by omega) (by omega)

theorem cap_lt {x y k k' C : Nat} (h : x + 1 ≤ y) (h1 : k ≤ 2 ^ 53) (h2 : 2 ^ 52 ≤ k') : min (x * 2 ^ 52 + k) C ≤ min (y * 2 ^ 52 + k') C := by
  have e : (2 : Nat) ^ 53 = 2 ^ 52 + 2 ^ 52 := by decide
  rw [e] at h1
  generalize (2 : Nat) ^ 52 = B at *
  have h3 : (x + 1) * B ≤ y * B := Nat.mul_le_mul_right _ h
  rw [Nat.add_mul, Nat.one_mul] at h3
  omega

theorem cap_le {x k k' C : Nat} (h : k ≤ k') : min (x * 2 ^ 52 + k) C ≤ min (x * 2 ^ 52 + k') C := by
  generalize x * 2 ^ 52 = y
  omega

theorem rung_mono {m n : Nat} {i j : Int} (h : leQ m i n j) : rungOf m i ≤ rungOf n j := by
  by_cases hm : m = 0
  · unfold rungOf; rw [if_pos hm]; exact Nat.zero_le _
  · have hn : n ≠ 0 := by
      rintro rfl
      unfold leQ at h
      have : 0 < m * 2 ^ (i - min i j).toNat := Nat.mul_pos (by omega) (Nat.two_pow_pos _)
      omega
    have hl := log_le hm h
    unfold rungOf
    rw [if_neg hm, if_neg hn]
    have hlast : lastP m i ≤ lastP n j := by unfold lastP; omega
    have hlo : -1074 ≤ lastP m i := by unfold lastP; omega
    rcases Int.lt_or_le (lastP m i) (lastP n j) with hlt | hge
    · exact cap_lt (by omega) (kept_le m i) (kept_ge hn (by omega))
    · have he : lastP n j = lastP m i := by omega
      have hk : keptP m i ≤ keptP n j := by
        unfold keptP
        rw [he]
        apply rE_mono
        generalize lastP m i = l at *
        rw [Nat.mul_assoc, Nat.mul_assoc, ← Nat.pow_add, ← Nat.pow_add]
        have := (leQ_iff (l - (l - i).toNat - (l - j).toNat) (by omega) (by omega)).1 h
        have e1 : (i - (l - ((l - i).toNat : Int) - ((l - j).toNat : Int))).toNat = (i - l).toNat + (l - j).toNat := by omega
        have e2 : (j - (l - ((l - i).toNat : Int) - ((l - j).toNat : Int))).toNat = (j - l).toNat + (l - i).toNat := by omega
        rw [e1, e2] at this
        exact this
      rw [he]
      exact cap_le hk

/-- what a rung stands for. -/
def magR (r : Nat) : Nat := if r < 2 ^ 52 then r else 2 ^ 52 + r % 2 ^ 52
def placeR (r : Nat) : Int := if r < 2 ^ 52 then -1074 else -1074 + (r / 2 ^ 52 - 1 : Nat)

theorem rd_fin {b : Nat} (h : b % 2 ^ 63 < 2047 * 2 ^ 52) : rd b = .number (b / 2 ^ 63 % 2 == 1) (magR (b % 2 ^ 63)) (placeR (b % 2 ^ 63)) := by
  rw [rd_def]; unfold magR placeR
  by_cases h1 : b % 2 ^ 63 < 2 ^ 52
  · rw [if_pos h1, if_pos h1, if_pos h1]
  · rw [if_neg h1, if_pos h, if_neg h1, if_neg h1]

theorem log2_of {m k : Nat} (h1 : 2 ^ k ≤ m) (h2 : m < 2 ^ (k + 1)) : m.log2 = k := by
  have hm : m ≠ 0 := by have := Nat.two_pow_pos k; omega
  have a : k ≤ m.log2 := (Nat.le_log2 hm).2 h1
  have b : m.log2 < k + 1 := (Nat.log2_lt hm).2 h2
  omega

theorem rE_zero (n : Nat) : rE n 0 = n := by
  unfold rE
  have e1 : n % 2 ^ 0 = 0 := by omega
  rw [e1]; simp

theorem rung_back {r : Nat} (h : r < 2047 * 2 ^ 52) : rungOf (magR r) (placeR r) = r := by
  by_cases h0 : r = 0
  · subst h0; rfl
  by_cases h1 : r < 2 ^ 52
  · have em : magR r = r := by unfold magR; rw [if_pos h1]
    have ep : placeR r = -1074 := by unfold placeR; rw [if_pos h1]
    have hlog : r.log2 < 52 := (Nat.log2_lt h0).2 h1
    have el : lastP r (-1074) = -1074 := by unfold lastP; omega
    unfold rungOf keptP
    rw [em, ep, if_neg h0, el]
    have e1 : ((-1074 : Int) - -1074).toNat = 0 := rfl
    have e2 : ((-1074 : Int) + 1074).toNat = 0 := rfl
    rw [e1, e2, rE_zero, Nat.pow_zero]
    omega
  · have em : magR r = 2 ^ 52 + r % 2 ^ 52 := by unfold magR; rw [if_neg h1]
    have ep : placeR r = -1074 + (r / 2 ^ 52 - 1 : Nat) := by unfold placeR; rw [if_neg h1]
    have hlog : (2 ^ 52 + r % 2 ^ 52).log2 = 52 := log2_of (by omega) (by omega)
    have el : lastP (2 ^ 52 + r % 2 ^ 52) (-1074 + (r / 2 ^ 52 - 1 : Nat)) = -1074 + (r / 2 ^ 52 - 1 : Nat) := by unfold lastP; rw [hlog]; omega
    unfold rungOf keptP
    rw [em, ep, if_neg (by omega), el]
    have e1 : ((-1074 + (r / 2 ^ 52 - 1 : Nat) : Int) - (-1074 + (r / 2 ^ 52 - 1 : Nat))).toNat = 0 := by omega
    have e2 : ((-1074 + (r / 2 ^ 52 - 1 : Nat) : Int) + 1074).toNat = r / 2 ^ 52 - 1 := by omega
    rw [e1, e2, rE_zero, Nat.pow_zero]
    omega

end Go.Proofs.Ytbdngcifnlkijaa
