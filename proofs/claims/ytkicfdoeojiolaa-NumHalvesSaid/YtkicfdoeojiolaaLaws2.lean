/- The walks of the laws NumExact, NumHalves, NumParts. -/
import Derived.Test.YtkicfdoeojiolaaLaws
namespace Go.Proofs.Ytkicfdoeojiolaa
open Go.RowKit
set_option linter.unusedVariables false

theorem grown_drewN (w : World) (n : Nat) : Grown w (w.drewN n) := by
  induction n generalizing w with
  | zero => exact Grown.refl w
  | succ n ih =>
    have h : w.drewN (n + 1) = w.drew.drewN n := by rw [World.drewN_drew, Nat.add_comm]
    rw [h]
    exact ih w.drew

/-- the quotient by multiplication is the quotient. -/
theorem exact_plain (d x : Int) (hd : 2 ≤ d) (hd1 : d ≤ 32768) (hx : 0 ≤ x) (h : x < 131072 ∨ x ≤ 4294967296 / d) : quotV x (magicV d) = x / d := by
  have hM : magicV d = 4294967295 / d + 1 := by unfold magicV; rw [if_neg (by omega)]
  rw [hM]
  unfold quotV
  have e1 := Int.mul_ediv_add_emod 4294967295 d
  have r0 : 0 ≤ 4294967295 % d := Int.emod_nonneg _ (by omega)
  have r1 : 4294967295 % d < d := Int.emod_lt_of_pos _ (by omega)
  generalize 4294967295 / d = k at *
  generalize 4294967295 % d = r at *
  have e2 := Int.mul_ediv_add_emod x d
  have s0 : 0 ≤ x % d := Int.emod_nonneg _ (by omega)
  have s1 : x % d < d := Int.emod_lt_of_pos _ (by omega)
  have q0 : 0 ≤ x / d := Int.ediv_nonneg hx (by omega)
  -- x * e < 2 ^ 32 for e = d - 1 - r
  have hxe : x * (d - 1 - r) < 4294967296 := by
    rcases h with h | h
    · have a : x * (d - 1 - r) ≤ 131071 * 32767 := Int.mul_le_mul (by omega) (by omega) (by omega) (by omega)
      omega
    · have a : x * d ≤ 4294967296 := by
        have := Int.mul_ediv_self_le (x := 4294967296) (k := d) (by omega)
        have b : x * d ≤ 4294967296 / d * d := Int.mul_le_mul_of_nonneg_right h (by omega)
        rw [Int.mul_comm (4294967296 / d) d] at b
        omega
      rcases Int.lt_or_le 0 x with c | c
      · have : x * (d - 1 - r) < x * d := Int.mul_lt_mul_of_pos_left (by omega) c
        omega
      · obtain rfl : x = 0 := by omega
        omega
  generalize hq : x / d = q at *
  generalize hs : x % d = s at *
  have hMd : (k + 1) * d = 4294967296 + (d - 1 - r) := by
    rw [Int.add_mul, Int.one_mul, Int.mul_comm k d]; omega
  have hxM : x * (k + 1) * d = x * 4294967296 + x * (d - 1 - r) := by
    rw [Int.mul_assoc, hMd, Int.mul_add]
  have hxe0 : 0 ≤ x * (d - 1 - r) := Int.mul_nonneg hx (by omega)
  generalize x * (d - 1 - r) = t at *
  -- q * 2^32 ≤ x * (k+1) < (q+1) * 2^32
  have lo : q * 4294967296 ≤ x * (k + 1) := by
    apply Int.le_of_mul_le_mul_right (a := d) _ (by omega)
    rw [hxM]
    have : q * 4294967296 * d = d * q * 4294967296 := by rw [Int.mul_comm d q, Int.mul_assoc, Int.mul_assoc, Int.mul_comm d 4294967296]
    rw [this]
    generalize d * q = dq at *
    omega
  have hi : x * (k + 1) < (q + 1) * 4294967296 := by
    apply Int.lt_of_mul_lt_mul_right (a := d) _ (by omega)
    rw [hxM]
    have : (q + 1) * 4294967296 * d = (d * q + d) * 4294967296 := by
      rw [Int.mul_assoc, Int.mul_comm 4294967296 d, ← Int.mul_assoc, Int.add_mul, Int.one_mul, Int.mul_comm q d]
    rw [this]
    generalize d * q = dq at *
    omega
  generalize x * (k + 1) = z at *
  omega

theorem exact_skip (d x : Int) (w : World) (b0 : 0 ≤ d) (b1 : d ≤ 4294967295) (c0 : 0 ≤ x) (c1 : x ≤ 4294967295) (h : d < 2 ∨ 32768 < d) :
    Calls Try.prog 4 #[.int .u32 d, .int .u32 x] w fun e w' => e = .returned (.bool true) ∧ Grown w w' := by
  rcases h with h | h
  · go_enter Try.func4, Try.ntmps4
    go_wp2
    go_ret
    exact ⟨rfl, Grown.refl _⟩
  · go_enter Try.func4, Try.ntmps4
    go_wp2
    go_ret
    exact ⟨rfl, Grown.refl _⟩

theorem exact_skip2 (d x : Int) (w : World) (b0 : 2 ≤ d) (b1 : d ≤ 32768) (c0 : 0 ≤ x) (c1 : x ≤ 4294967295) (h : 131072 ≤ x) (h2 : 4294967296 / d < x) :
    Calls Try.prog 4 #[.int .u32 d, .int .u32 x] w fun e w' => e = .returned (.bool true) ∧ Grown w w' := by
  go_enter Try.func4, Try.ntmps4
  go_wp2
  go_ret
  exact ⟨rfl, Grown.refl _⟩

theorem exact_yes (d x : Int) (w : World) (b0 : 2 ≤ d) (b1 : d ≤ 32768) (c0 : 0 ≤ x) (c1 : x ≤ 4294967295) (h : x < 131072 ∨ 131072 ≤ x ∧ x ≤ 4294967296 / d) :
    Calls Try.prog 4 #[.int .u32 d, .int .u32 x] w fun e w' => e = .returned (.bool true) ∧ Grown w w' := by
  have hq : (quotV x (magicV d) == x / d) = true := by rw [exact_plain d x b0 b1 c0 (by omega)]; simp
  have hm0 : 0 ≤ magicV d := by
    unfold magicV; rw [if_neg (by omega)]
    have := Int.ediv_nonneg (a := 4294967295) (b := d) (by omega) (by omega)
    omega
  have hm1 : magicV d ≤ 4294967295 := by
    unfold magicV; rw [if_neg (by omega)]
    have : 4294967295 / d < 2147483648 := Int.ediv_lt_of_lt_mul (by omega) (by omega)
    omega
  rcases h with h | ⟨h, h2⟩
  · go_enter Try.func4, Try.ntmps4
    go_wp2
    go_quiet ((first | (go_at_call 11; exact Calls.quiet_of_same ((magic_any _ _ (by omega) (by omega)).mono fun _ _ h => ⟨h.1, h.2.symm⟩)) | (go_at_call 13; exact Calls.quiet_of_same ((quot_any _ _ _ (by omega) (by omega) hm0 hm1).mono fun _ _ h => ⟨h.1, h.2.symm⟩)) | (go_at_call 15; exact Calls.quiet_of_same ((awake_any _).mono fun _ _ h => ⟨h.1, h.2.symm⟩))))
    go_wp2
    go_ret
    exact ⟨rfl, grown_drewN _ _⟩
  · go_enter Try.func4, Try.ntmps4
    go_wp2
    go_quiet ((first | (go_at_call 11; exact Calls.quiet_of_same ((magic_any _ _ (by omega) (by omega)).mono fun _ _ h => ⟨h.1, h.2.symm⟩)) | (go_at_call 13; exact Calls.quiet_of_same ((quot_any _ _ _ (by omega) (by omega) hm0 hm1).mono fun _ _ h => ⟨h.1, h.2.symm⟩)) | (go_at_call 15; exact Calls.quiet_of_same ((awake_any _).mono fun _ _ h => ⟨h.1, h.2.symm⟩))))
    go_wp2
    go_ret
    exact ⟨rfl, grown_drewN _ _⟩

theorem walk_NumExact (d x : Int) (w0 : (Lit.int .u32 d).wf = true) (w1 : (Lit.int .u32 x).wf = true) (w : World) :
    Calls Try.prog 4 #[.int .u32 d, .int .u32 x] w fun e w' => e = .returned (.bool true) ∧ Grown w w' := by
  obtain ⟨b0, b1⟩ := u32_of w0
  obtain ⟨c0, c1⟩ := u32_of w1
  by_cases h : d < 2 ∨ 32768 < d
  · exact exact_skip d x w b0 b1 c0 c1 h
  · by_cases h2 : 131072 ≤ x ∧ 4294967296 / d < x
    · exact exact_skip2 d x w (by omega) (by omega) c0 c1 h2.1 h2.2
    · exact exact_yes d x w (by omega) (by omega) c0 c1 (by omega)

end Go.Proofs.Ytkicfdoeojiolaa
