/- Plain laws of paces, of so many times a quotient, of mixtures with all of one. -/
import Derived.Test.YtbdngcifnlkijaaNum2
namespace Go.Proofs.Ytbdngcifnlkijaa
open Go.RowKit

/-! ### a normal double -/
theorem magR_normal {r : Nat} (h : 2 ^ 52 ≤ r) : 2 ^ 52 ≤ magR r ∧ magR r < 2 ^ 53 := by
  unfold magR; rw [if_neg (by omega)]; omega

theorem log2_normal {r : Nat} (h : 2 ^ 52 ≤ r) : (magR r).log2 = 52 :=
  log2_of (magR_normal h).1 (magR_normal h).2

theorem more_normal {x y : Nat} (hx : 2 ^ 52 ≤ x) (hy : 2 ^ 52 ≤ y) : moreQ (magR x) (magR y) = 54 := by
  unfold moreQ; rw [log2_normal hx, log2_normal hy]

theorem one_rung : floatOfInt .f64 1 = 4607182418800017408 := by decide +kernel

theorem flo_normal {n : Int} (h : 1 ≤ n) : 2 ^ 52 ≤ floatOfInt .f64 n := by
  have := flo_mono (a := 1) (b := n) (by omega) h
  rw [one_rung] at this
  omega

theorem placeR_mono {r s : Nat} (h : r ≤ s) : placeR r ≤ placeR s := by
  unfold placeR
  split
  · split <;> omega
  · rw [if_neg (by omega)]
    have : r / 2 ^ 52 ≤ s / 2 ^ 52 := Nat.div_le_div_right h
    omega

theorem flo_page : floatOfInt .f64 8192 = 1036 * 2 ^ 52 := by decide +kernel
theorem mag_page : magR (floatOfInt .f64 8192) = 2 ^ 52 := by rw [flo_page]; decide +kernel
theorem place_page : placeR (floatOfInt .f64 8192) = -39 := by rw [flo_page]; decide +kernel

/-- pages by a way of at least a page: no more than pages by a page. -/
theorem pace_le {pages d : Int} (p0 : 1 ≤ pages) (p1 : pages ≤ 1099511627776) (d0 : 8192 ≤ d) (d1 : d ≤ 18446744073709551615) :
    ∃ q : Nat, ofV pages d = (q : Int) ∧ q ≤ rungOf pages.toNat (-13) := by
  refine ⟨_, ofV_is (by omega) (by omega) (by omega) d1, ?_⟩
  obtain ⟨-, hmx, hix, hL⟩ := flo_exact (n := pages) p0 (by omega)
  have nx := flo_normal p0
  have ny := flo_normal (n := d) (by omega)
  have hd := flo_mono (a := 8192) (b := d) (by omega) d0
  have hiy := placeR_mono hd
  rw [place_page] at hiy
  have hmy := (magR_normal ny).1
  have hy0 := mag_pos (flo_pos (n := d) (by omega))
  rw [more_normal nx ny]
  generalize floatOfInt .f64 d = y at *
  have hs : sticky (magR (floatOfInt .f64 pages)) (magR y) ≤ 2 * (magR (floatOfInt .f64 pages) * 2 ^ (41 + placeR y).toNat) := by
    apply sticky_le hy0
    rw [more_normal nx ny, Nat.mul_assoc]
    apply Nat.mul_le_mul_left
    have h2 : (2 : Nat) ^ 2 ≤ 2 ^ (41 + placeR y).toNat := Nat.pow_le_pow_right (by omega) (by omega)
    have e : (2 : Nat) ^ 54 = 2 ^ 2 * 2 ^ 52 := by decide
    rw [e]
    exact Nat.mul_le_mul h2 hmy
  apply rung_mono
  rw [hmx] at hs ⊢
  rw [hix]
  generalize pages.toNat.log2 = L at *
  generalize pages.toNat = P at *
  rw [leQ_iff ((L : Int) - 52 - placeR y - (54 : Nat) - 1) (by omega) (by omega)]
  rw [show ((L : Int) - 52 - placeR y - (54 : Nat) - 1 - ((L : Int) - 52 - placeR y - (54 : Nat) - 1)).toNat = 0 by omega, Nat.pow_zero, Nat.mul_one]
  refine Nat.le_trans hs ?_
  have e2 : (-13 - ((L : Int) - 52 - placeR y - (54 : Nat) - 1)).toNat = 1 + (52 - L) + (41 + placeR y).toNat := by omega
  rw [e2, Nat.pow_add, Nat.pow_add, Nat.pow_one]
  have : 2 * (P * 2 ^ (52 - L) * 2 ^ (41 + placeR y).toNat) = P * (2 * 2 ^ (52 - L) * 2 ^ (41 + placeR y).toNat) := by
    rw [Nat.mul_assoc, Nat.mul_left_comm, Nat.mul_assoc 2]
  rw [this]
  exact Nat.le_refl _

/-- pages by a page is told wholly. -/
theorem pace_page {pages : Int} (p0 : 1 ≤ pages) (p1 : pages ≤ 1099511627776) : ofV pages 8192 = (rungOf pages.toNat (-13) : Nat) := by
  rw [ofV_is (by omega) (by omega) (by omega) (by omega)]
  obtain ⟨-, hmx, hix, hL⟩ := flo_exact (n := pages) p0 (by omega)
  have nx := flo_normal p0
  have ny := flo_normal (n := 8192) (by omega)
  have hs : sticky (magR (floatOfInt .f64 pages)) (2 ^ 52) = 2 * (magR (floatOfInt .f64 pages) * 4) := by
    have hm : moreQ (magR (floatOfInt .f64 pages)) (2 ^ 52) = 54 := by rw [← mag_page]; exact more_normal nx ny
    have e : (2 : Nat) ^ 54 = 4 * 2 ^ 52 := by decide
    apply Nat.le_antisymm
    · apply sticky_le (by decide); rw [hm, e, Nat.mul_assoc]; exact Nat.le_refl _
    · apply le_sticky (by decide); rw [hm, e, Nat.mul_assoc]; exact Nat.le_refl _
  rw [more_normal nx ny, mag_page, place_page, hs, hmx, hix]
  congr 1
  generalize pages.toNat.log2 = L at *
  generalize pages.toNat = P at *
  apply rung_same (55 - L)
  · have : 2 ^ (55 - L) = 2 ^ (52 - L) * (2 * 4) := by
      rw [show 55 - L = (52 - L) + 3 by omega, Nat.pow_add]
    rw [this, ← Nat.mul_assoc P]
    generalize P * 2 ^ (52 - L) = t
    omega
  · omega

theorem times_pace {pages : Int} {q : Nat} (p0 : 1 ≤ pages) (p1 : pages ≤ 1099511627776) (hq : q ≤ rungOf pages.toNat (-13)) : timesV 8192 (q : Int) ≤ pages := by
  have hL : pages.toNat.log2 < 41 := log2_lt (by omega) (by omega)
  obtain ⟨h1, h2, h3⟩ := rung_exact (m := pages.toNat) (i := -13) (by omega) (by omega) (by omega) (by omega)
  have hrd : rd ((q : Int).toNat) = .number false (magR q) (placeR q) := by
    rw [Int.toNat_natCast]; exact rd_rung (by omega)
  rw [timesV_pos (by omega) (by omega) hrd, mag_page, place_page, Nat.mul_comm, Int.add_comm]
  have := mag_mul_mono hq h1 (2 ^ 52) (-39)
  refine Int.le_trans (cut_mono this) ?_
  rw [h2, h3]
  have e : rungOf (pages.toNat * 2 ^ (52 - pages.toNat.log2) * 2 ^ 52) (-13 + (pages.toNat.log2 : Int) - 52 + -39) = rungOf pages.toNat 0 := by
    apply rung_same (52 - pages.toNat.log2 + 52)
    · rw [Nat.pow_add, Nat.mul_assoc]
    · omega
  rw [e, ← flo_is (by omega), cut_flo (by omega) (by omega)]
  exact Int.le_refl _

/-! ### so many times a quotient -/
theorem vR_join {e k : Nat} (h : 2 ^ 52 ≤ k ∨ e = 0) (hk : k ≤ 2 ^ 53) : vR (e * 2 ^ 52 + k) = k * 2 ^ e := by
  by_cases h1 : k < 2 ^ 52
  · have he : e = 0 := by omega
    subst he
    have e1 : 0 * 2 ^ 52 + k = k := by omega
    rw [e1]
    unfold vR magR placeR
    rw [if_pos h1, if_pos h1]; rfl
  · by_cases h2 : k < 2 ^ 53
    · have d1 : (e * 2 ^ 52 + k) / 2 ^ 52 = e + 1 := by omega
      have d2 : (e * 2 ^ 52 + k) % 2 ^ 52 = k - 2 ^ 52 := by omega
      unfold vR magR placeR
      rw [if_neg (by omega), if_neg (by omega), d1, d2]
      have a : 2 ^ 52 + (k - 2 ^ 52) = k := by omega
      have b : ((-1074 + (e + 1 - 1 : Nat) : Int) + 1074).toNat = e := by omega
      rw [a, b]
    · have hk3 : k = 2 ^ 53 := by omega
      subst hk3
      have d1 : (e * 2 ^ 52 + 2 ^ 53) / 2 ^ 52 = e + 2 := by omega
      have d2 : (e * 2 ^ 52 + 2 ^ 53) % 2 ^ 52 = 0 := by omega
      unfold vR magR placeR
      rw [if_neg (by omega), if_neg (by omega), d1, d2]
      have b : ((-1074 + (e + 2 - 1 : Nat) : Int) + 1074).toNat = e + 1 := by omega
      have e53 : (2 : Nat) ^ 53 = 2 ^ 52 * 2 := by decide
      have e1 : (2 : Nat) ^ (e + 1) = 2 * 2 ^ e := by rw [Nat.pow_succ, Nat.mul_comm]
      rw [b, Nat.add_zero, e1, e53, Nat.mul_assoc]

/-- the value of what is rounded. -/
theorem vR_rung {m : Nat} {i : Int} (hm : m ≠ 0) (h : rungOf m i < 2047 * 2 ^ 52) : vR (rungOf m i) = keptP m i * 2 ^ (lastP m i + 1074).toNat := by
  have hlo : -1074 ≤ lastP m i := by unfold lastP; omega
  have e : rungOf m i = (lastP m i + 1074).toNat * 2 ^ 52 + keptP m i := by
    unfold rungOf at h ⊢
    rw [if_neg hm] at h ⊢
    generalize (lastP m i + 1074).toNat * 2 ^ 52 + keptP m i = z at *
    omega
  rw [e]
  apply vR_join
  · by_cases hl : -1074 < lastP m i
    · exact Or.inl (kept_ge hm hl)
    · right; omega
  · exact kept_le m i

end Go.Proofs.Ytbdngcifnlkijaa
