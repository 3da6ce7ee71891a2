/- A quotient by multiplication is the quotient. No program in sight. -/
import Derived.Test.YticaamdghjfifaaDoorNumPlain
namespace Go.Proofs.YticaamdghjfifaaDoor
open Go.RowKit
set_option linter.unusedVariables false

theorem exact_plain (d x : Int) (hd : 2 ≤ d) (hd1 : d ≤ 32768) (hx : 0 ≤ x) (h : x < 131072 ∨ x ≤ 4294967296 / d) : quotV x (magicV d) = x / d := by
  have hM : magicV d = 4294967295 / d + 1 := by unfold magicV; rw [if_neg (by omega)]
  rw [hM]
  unfold quotV
  have e1 := Int.mul_ediv_add_emod 4294967295 d
  have r0 : 0 ≤ 4294967295 % d := Int.emod_nonneg _ (by omega)
  have r1 : 4294967295 % d < d := Int.emod_lt_of_pos _ (by omega)
  generalize 4294967295 / d = k at *
  generalize 4294967295 % d = r at *
  have e2 := Int.mul_ediv_add_emod x d
  have s0 : 0 ≤ x % d := Int.emod_nonneg _ (by omega)
  have s1 : x % d < d := Int.emod_lt_of_pos _ (by omega)
  have q0 : 0 ≤ x / d := Int.ediv_nonneg hx (by omega)
  -- x * e < 2 ^ 32 for e = d - 1 - r
  have hxe : x * (d - 1 - r) < 4294967296 := by
    rcases h with h | h
    · have a : x * (d - 1 - r) ≤ 131071 * 32767 := Int.mul_le_mul (by omega) (by omega) (by omega) (by omega)
      omega
    · have a : x * d ≤ 4294967296 := by
        have := Int.mul_ediv_self_le (x := 4294967296) (k := d) (by omega)
        have b : x * d ≤ 4294967296 / d * d := Int.mul_le_mul_of_nonneg_right h (by omega)
        rw [Int.mul_comm (4294967296 / d) d] at b
        omega
      rcases Int.lt_or_le 0 x with c | c
      · have : x * (d - 1 - r) < x * d := Int.mul_lt_mul_of_pos_left (by omega) c
        omega
      · obtain rfl : x = 0 := by omega
        omega
  generalize hq : x / d = q at *
  generalize hs : x % d = s at *
  have hMd : (k + 1) * d = 4294967296 + (d - 1 - r) := by
    rw [Int.add_mul, Int.one_mul, Int.mul_comm k d]; omega
  have hxM : x * (k + 1) * d = x * 4294967296 + x * (d - 1 - r) := by
    rw [Int.mul_assoc, hMd, Int.mul_add]
  have hxe0 : 0 ≤ x * (d - 1 - r) := Int.mul_nonneg hx (by omega)
  generalize x * (d - 1 - r) = t at *
  -- q * 2^32 ≤ x * (k+1) < (q+1) * 2^32
  have lo : q * 4294967296 ≤ x * (k + 1) := by
    apply Int.le_of_mul_le_mul_right (a := d) _ (by omega)
    rw [hxM]
    have : q * 4294967296 * d = d * q * 4294967296 := by rw [Int.mul_comm d q, Int.mul_assoc, Int.mul_assoc, Int.mul_comm d 4294967296]
    rw [this]
    generalize d * q = dq at *
    omega
  have hi : x * (k + 1) < (q + 1) * 4294967296 := by
    apply Int.lt_of_mul_lt_mul_right (a := d) _ (by omega)
    rw [hxM]
    have : (q + 1) * 4294967296 * d = (d * q + d) * 4294967296 := by
      rw [Int.mul_assoc, Int.mul_comm 4294967296 d, ← Int.mul_assoc, Int.add_mul, Int.one_mul, Int.mul_comm q d]
    rw [this]
    generalize d * q = dq at *
    omega
  generalize x * (k + 1) = z at *
  omega

end Go.Proofs.YticaamdghjfifaaDoor
