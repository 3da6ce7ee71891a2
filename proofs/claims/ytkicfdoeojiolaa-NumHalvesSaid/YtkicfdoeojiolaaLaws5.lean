/- The walk of the law NumHalves. -/
import Derived.Test.YtkicfdoeojiolaaLaws2
namespace Go.Proofs.Ytkicfdoeojiolaa
open Go.RowKit
set_option linter.unusedVariables false

theorem halves_zero (w : World) : Calls Try.prog 7 #[.int .u64 0] w fun e w' => e = .returned (.bool true) ∧ Grown w w' := by
  have e1 : ((Lib.bitLen (0 : Int).toNat : Int) - 1) = -1 := rfl
  have e2 : powB 0 = false := rfl
  go_enter Try.func7, Try.ntmps7
  go_wp2_with (first | (go_at_call 20; refine (log_any _ _ (by omega) (by omega)).mono ?_; rintro e w' ⟨rfl, rfl⟩; rw [e1]) | (go_at_call 18; refine (pow_any _ _ (by omega) (by omega)).mono ?_; rintro e w' ⟨rfl, rfl⟩) | (go_at_call 15; refine (awake_any _).mono ?_; rintro e w' ⟨rfl, rfl⟩))
  go_ret
  exact ⟨rfl, Grown.refl _⟩

theorem log_k (n : Int) (K : Nat) (w : World) (h0 : 1 ≤ n) (h1 : n ≤ 18446744073709551615) (hK : Lib.bitLen n.toNat = K + 1) :
    Calls Try.prog 20 #[.int .u64 n] w fun e w' => e = .returned (.int .i64 (K : Int)) ∧ w = w' :=
  (log_any n w (by omega) h1).mono fun _ _ h => ⟨by rw [h.1, hK]; congr 2; omega, h.2⟩

theorem two_cast (K : Nat) : ((2 : Int) ^ K) = ((2 ^ K : Nat) : Int) := by rw [Int.natCast_pow]; rfl

theorem two_range (K : Nat) (k1 : K ≤ 63) : 1 ≤ (2 : Int) ^ K ∧ (2 : Int) ^ K ≤ 9223372036854775808 := by
  rw [two_cast]
  have a := Nat.two_pow_pos K
  have b : 2 ^ K ≤ 2 ^ 63 := Nat.pow_le_pow_right (by omega) k1
  omega

theorem halves_some (n : Int) (K : Nat) (w : World) (h0 : 1 ≤ n) (h1 : n ≤ 18446744073709551615) (hK : Hid (Lib.bitLen n.toNat = K + 1)) (k1 : K ≤ 63) :
    Calls Try.prog 7 #[.int .u64 n] w fun e w' => e = .returned (.bool true) ∧ Grown w w' := by
  have hb : (n == 0) = false := by simp; omega
  have hn := bitLen_bounds n.toNat (by omega) (by omega)
  rw [hK.out, Nat.add_sub_cancel] at hn
  obtain ⟨-, hn1, hn2⟩ := hn
  have hs : (n / 2 ^ K != 1) = false := by
    have e : n / 2 ^ K = 1 := by
      rw [two_cast]
      have e2 : n = (n.toNat : Int) := by omega
      rw [e2, ← Int.natCast_ediv]
      have : n.toNat / 2 ^ K = 1 := by
        apply Nat.div_eq_of_lt_le
        · omega
        · rw [Nat.pow_succ] at hn2; omega
      rw [this]; rfl
    rw [e]; rfl
  obtain ⟨r0, r1⟩ := two_range K k1
  have hw : IntKind.u64.wrap ((2 : Int) ^ K) = 2 ^ K := IntWalk.u64_in _ ⟨by omega, by omega⟩
  have hL : Hid (Lib.bitLen ((2 : Int) ^ K).toNat = K + 1) := Lib.hid (by
    rw [two_cast, Int.toNat_natCast]; exact bitLen_two K (by omega))
  have hp : powB ((2 : Int) ^ K) = true := by
    unfold powB; rw [two_cast, Int.toNat_natCast]; exact isPow_two K
  have hpn : powB n = (n == 2 ^ K) := by
    unfold powB
    rw [Bool.eq_iff_iff]
    constructor
    · intro h
      obtain ⟨j, hj⟩ := isPow_is _ h
      have hjk : j = K := by
        rw [hj] at hn1 hn2
        have a := (Nat.pow_le_pow_iff_right (a := 2) (by omega)).1 hn1
        have b := (Nat.pow_lt_pow_iff_right (a := 2) (by omega)).1 hn2
        omega
      subst hjk
      rw [two_cast, ← hj, beq_iff_eq]; omega
    · intro h
      have : n = 2 ^ K := by simpa using h
      rw [this, two_cast, Int.toNat_natCast]; exact isPow_two K
  clear hn1 hn2
  go_enter Try.func7, Try.ntmps7
  go_wp2_with (go_at_call 20; refine (log_k _ _ _ h0 h1 hK.out).mono ?_; rintro e w' ⟨rfl, rfl⟩)
  go_quiet ((first | (go_at_call 18; exact Calls.quiet_of_same ((pow_any _ _ (by omega) (by omega)).mono fun _ _ h => ⟨h.1, h.2.symm⟩)) | (go_at_call 20; exact Calls.quiet_of_same ((log_k _ K _ (by omega) (by omega) hL.out).mono fun _ _ h => ⟨h.1, h.2.symm⟩)) | (go_at_call 15; exact Calls.quiet_of_same ((awake_any _).mono fun _ _ h => ⟨h.1, h.2.symm⟩))))
  go_wp2
  go_ret
  exact ⟨rfl, grown_drewN _ _⟩

theorem walk_NumHalves (n : Int) (w0 : (Lit.int .u64 n).wf = true) (w : World) :
    Calls Try.prog 7 #[.int .u64 n] w fun e w' => e = .returned (.bool true) ∧ Grown w w' := by
  obtain ⟨b0, b1⟩ := u64_of w0
  by_cases h : n = 0
  · subst h; exact halves_zero w
  · have hn := bitLen_bounds n.toNat (by omega) (by omega)
    have h64 := Lib.bitLen_le n.toNat 64 (by omega) (by omega)
    exact halves_some n (Lib.bitLen n.toNat - 1) w (by omega) b1 (Lib.hid (by omega)) (by omega)

end Go.Proofs.Ytkicfdoeojiolaa
