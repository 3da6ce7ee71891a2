/- The contracts of the functions of package num and of its reference: each function is walked once. -/
import Derived.Test.YtkicfdoeojiolaaRows
import Derived.Test.YtkicfdoeojiolaaShelf
import Derived.Test.YtkicfdoeojiolaaPlain
import Derived.WalkKit
import Derived.WalkSpells
import Derived.WalkLawsBesides
import Derived.ProofKit
import Derived.OpenShut
import Derived.Handy
import Derived.Lib.Hide
namespace Go.Proofs.Ytkicfdoeojiolaa
open Go.RowKit
set_option linter.unusedVariables false

theorem u64_of {a : Int} (h : (Lit.int .u64 a).wf = true) : 0 ≤ a ∧ a ≤ 18446744073709551615 := by
  simp [Lit.wf, IntKind.min, IntKind.max, IntKind.signed, IntKind.bits] at h; omega
theorem u32_of {a : Int} (h : (Lit.int .u32 a).wf = true) : 0 ≤ a ∧ a ≤ 4294967295 := by
  simp [Lit.wf, IntKind.min, IntKind.max, IntKind.signed, IntKind.bits] at h; omega

def downV (n a : Int) : Int := if a = 0 then 0 else n - n % a
def okB (a : Int) : Bool := !(a == 0)
def upV (n a : Int) : Int := if a = 0 then 0 else if n % a = 0 then n else if 18446744073709551615 < n - n % a + a then 0 else n - n % a + a
def upB (n a : Int) : Bool := if a = 0 then false else if n % a = 0 then true else if 18446744073709551615 < n - n % a + a then false else true
def ceilV (n d : Int) : Int := if d = 0 then 0 else if n % d = 0 then n / d else n / d + 1
def magicV (d : Int) : Int := if d < 2 then 0 else 4294967295 / d + 1
def quotV (x m : Int) : Int := x * m / 4294967296

theorem add64_small (x y : Int) (hx : 0 ≤ x) (hy : 0 ≤ y) (h : x + y ≤ 18446744073709551615) (w : World) : (callFunc 26 #[.int .u64 x, .int .u64 y, .int .u64 0]).run Try.prog w = .ok (.value (.tuple #[.int .u64 (x + y), .int .u64 0])) w := by
  rw [run_callFunc_extern Try.func26 (by kernel_rfl) (by kernel_rfl) (by kernel_rfl) (e := add64Entry) (by kernel_rfl), run_add64 x y 0 hx hy (by omega) (by omega)]
  rw [show (x + y + 0) % 18446744073709551616 = x + y by omega, show (x + y + 0) / 18446744073709551616 = 0 by omega]
  rfl

theorem add64_great (x y : Int) (hx : 0 ≤ x) (hy : 0 ≤ y) (h : 18446744073709551615 < x + y) (h2 : x + y < 36893488147419103232) (w : World) : (callFunc 26 #[.int .u64 x, .int .u64 y, .int .u64 0]).run Try.prog w = .ok (.value (.tuple #[.int .u64 (x + y - 18446744073709551616), .int .u64 1])) w := by
  rw [run_callFunc_extern Try.func26 (by kernel_rfl) (by kernel_rfl) (by kernel_rfl) (e := add64Entry) (by kernel_rfl), run_add64 x y 0 hx hy (by omega) (by omega)]
  rw [show (x + y + 0) % 18446744073709551616 = x + y - 18446744073709551616 by omega, show (x + y + 0) / 18446744073709551616 = 1 by omega]
  rfl

theorem magic_any (d : Int) (w : World) (h0 : 0 ≤ d) (h1 : d ≤ 4294967295) : Calls Try.prog 11 #[.int .u32 d] w fun e w' => e = .returned (.int .u32 (magicV d)) ∧ w = w' := by
  by_cases h : d < 2
  · have HT := Lib.hid (show magicV d = 0 by unfold magicV; rw [if_pos h])
    go_enter Try.func11, Try.ntmps11
    go_wp2
    go_ret
    exact ⟨by rw [HT.out]; rfl, rfl⟩
  · have HT := Lib.hid (show magicV d = 4294967295 / d + 1 by unfold magicV; rw [if_neg h])
    have hq : 4294967295 / d ≤ 2147483647 := by
      have : 4294967295 / d < 2147483648 := Int.ediv_lt_of_lt_mul (by omega) (by omega)
      omega
    have hq0 : 0 ≤ 4294967295 / d := Int.ediv_nonneg (by omega) (by omega)
    go_enter Try.func11, Try.ntmps11
    go_wp2
    go_ret
    exact ⟨by rw [HT.out]; rfl, rfl⟩

theorem rmagic_any (d : Int) (w : World) (h0 : 0 ≤ d) (h1 : d ≤ 4294967295) : Calls Try.prog 12 #[.int .u32 d] w fun e w' => e = .returned (.int .u32 (magicV d)) ∧ w = w' := by
  by_cases h : d < 2
  · have HT := Lib.hid (show magicV d = 0 by unfold magicV; rw [if_pos h])
    go_enter Try.func12, Try.ntmps12
    go_wp2
    go_ret
    exact ⟨by rw [HT.out]; rfl, rfl⟩
  · have HT := Lib.hid (show magicV d = 4294967295 / d + 1 by unfold magicV; rw [if_neg h])
    have hq : 4294967295 / d ≤ 2147483647 := by
      have : 4294967295 / d < 2147483648 := Int.ediv_lt_of_lt_mul (by omega) (by omega)
      omega
    have hq0 : 0 ≤ 4294967295 / d := Int.ediv_nonneg (by omega) (by omega)
    go_enter Try.func12, Try.ntmps12
    go_wp2
    go_ret
    exact ⟨by rw [HT.out]; rfl, rfl⟩

theorem mul_range {x m : Int} (h0 : 0 ≤ x) (h1 : x ≤ 4294967295) (g0 : 0 ≤ m) (g1 : m ≤ 4294967295) : 0 ≤ x * m ∧ x * m ≤ 18446744065119617025 := by
  refine ⟨Int.mul_nonneg h0 g0, ?_⟩
  have := Int.mul_le_mul h1 g1 g0 (by omega : (0 : Int) ≤ 4294967295)
  omega

theorem quot_any (x m : Int) (w : World) (h0 : 0 ≤ x) (h1 : x ≤ 4294967295) (g0 : 0 ≤ m) (g1 : m ≤ 4294967295) : Calls Try.prog 13 #[.int .u32 x, .int .u32 m] w fun e w' => e = .returned (.int .u32 (quotV x m)) ∧ w = w' := by
  obtain ⟨r0, r1⟩ := mul_range h0 h1 g0 g1
  go_enter Try.func13, Try.ntmps13
  go_wp2
  go_ret
  exact ⟨rfl, rfl⟩

theorem rquot_any (x m : Int) (w : World) (h0 : 0 ≤ x) (h1 : x ≤ 4294967295) (g0 : 0 ≤ m) (g1 : m ≤ 4294967295) : Calls Try.prog 14 #[.int .u32 x, .int .u32 m] w fun e w' => e = .returned (.int .u32 (quotV x m)) ∧ w = w' := by
  obtain ⟨r0, r1⟩ := mul_range h0 h1 g0 g1
  go_enter Try.func14, Try.ntmps14
  go_wp2
  go_ret
  exact ⟨rfl, rfl⟩

theorem log_any (n : Int) (w : World) (h0 : 0 ≤ n) (h1 : n ≤ 18446744073709551615) : Calls Try.prog 20 #[.int .u64 n] w fun e w' => e = .returned (.int .i64 ((Lib.bitLen n.toNat : Int) - 1)) ∧ w = w' := by
  have hb : Lib.bitLen n.toNat ≤ 64 := Lib.bitLen_le _ 64 (by omega) (by omega)
  go_enter Try.func20, Try.ntmps20
  go_wp2_with (go_at_call 27; refine (Try.bits_Len64 _ _ h0 h1).mono ?_; rintro e w' ⟨rfl, rfl⟩)
  go_ret
  exact ⟨rfl, rfl⟩

theorem pow_any (n : Int) (w : World) (h0 : 0 ≤ n) (h1 : n ≤ 18446744073709551615) : Calls Try.prog 18 #[.int .u64 n] w fun e w' => e = .returned (.bool (powB n)) ∧ w = w' := by
  by_cases h : n = 0
  · subst h
    go_enter Try.func18, Try.ntmps18
    go_wp2
    go_ret
    exact ⟨rfl, rfl⟩
  · have hb : (n != 0) = true := by simpa using h
    have HP := Lib.hid (pow_bits n (by omega) h1)
    go_enter Try.func18, Try.ntmps18
    go_wp2
    go_ret
    exact ⟨by rw [← HP.out]; rfl, rfl⟩

theorem rpow_any (n : Int) (w : World) (h0 : 0 ≤ n) (h1 : n ≤ 18446744073709551615) : Calls Try.prog 19 #[.int .u64 n] w fun e w' => e = .returned (.bool (powB n)) ∧ w = w' := by
  go_enter Try.func19, Try.ntmps19
  go_wp2
  go_loop [0] (fun t => ∃ m : Nat, m ≤ 18446744073709551615 ∧ t = .int .u64 m ∧ Hid (isPow m = powB n)) (fun t => (intOf t).toNat)
  case atStart => exact ⟨n.toNat, by omega, by rw [Int.toNat_of_nonneg h0], Lib.hid rfl⟩
  case round =>
    obtain ⟨m, hm, rfl, hp⟩ := hrel
    by_cases hc : 1 < m
    · by_cases he : m % 2 = 0
      · have hb : (((m : Int) % 2) == 0) = true := by simp; omega
        go_wp2
        go_round
        case rel => exact ⟨m / 2, by omega, by go_num, Lib.hid (by rw [isPow_half m hc he]; exact hp.out)⟩
        case measure => simp [intOf]; omega
      · have hb : (((m : Int) % 2) == 0) = false := by simp; omega
        go_wp2
        go_ret
        exact ⟨by show Ending.returned (Value.bool ((m : Int) == 1)) = _; rw [← hp.out, isPow_odd m (by omega), show ((m : Int) == 1) = (m == 1) by rw [Bool.eq_iff_iff]; simp; omega], rfl⟩
    · go_wp2
      go_ret
      refine ⟨?_, rfl⟩
      rw [← hp.out]
      have : m = 0 ∨ m = 1 := by omega
      rcases this with rfl | rfl <;> rfl

theorem rlog_any (n : Int) (w : World) (h0 : 0 ≤ n) (h1 : n ≤ 18446744073709551615) : Calls Try.prog 21 #[.int .u64 n] w fun e w' => e = .returned (.int .i64 ((Lib.bitLen n.toNat : Int) - 1)) ∧ w = w' := by
  go_enter Try.func21, Try.ntmps21
  go_wp2
  go_loop [0, 3] (fun t k => ∃ m j : Nat, m ≤ 18446744073709551615 ∧ j ≤ 64 ∧ t = .int .u64 m ∧ k = .int .i64 ((j : Int) - 1) ∧ Hid (j + Lib.bitLen m = Lib.bitLen n.toNat)) (fun t k => (intOf t).toNat)
  case atStart => exact ⟨n.toNat, 0, by omega, by omega, by rw [Int.toNat_of_nonneg h0], rfl, Lib.hid (by omega)⟩
  case round =>
    obtain ⟨m, j, hm, hj, rfl, rfl, hp⟩ := hrel
    by_cases hc : 0 < m
    · have hj2 : j + 1 ≤ 64 := by
        have a := hp.out
        have b := Lib.bitLen_le n.toNat 64 (by omega) (by omega)
        have c := (bitLen_bounds m (by omega) (by omega)).1
        omega
      go_wp2
      go_round
      case rel => exact ⟨m / 2, j + 1, by omega, hj2, by go_num, by go_num, Lib.hid (by have a := hp.out; rw [Lib.bitLen_half m (by omega) (by omega)] at a; omega)⟩
      case measure => simp [intOf]; omega
    · obtain rfl : m = 0 := by omega
      go_wp2
      go_ret
      exact ⟨by rw [← hp.out]; rfl, rfl⟩

theorem down_any (n a : Int) (w : World) (h0 : 0 ≤ n) (h1 : n ≤ 18446744073709551615) (g0 : 0 ≤ a) (g1 : a ≤ 18446744073709551615) :
    Calls Try.prog 16 #[.int .u64 n, .int .u64 a] w fun e w' => e = .returned (.tuple #[.int .u64 (downV n a), .bool (okB a)]) ∧ w = w' := by
  by_cases h : a = 0
  · subst h
    go_enter Try.func16, Try.ntmps16
    go_wp2
    go_ret2
    exact ⟨rfl, rfl⟩
  · have HT := Lib.hid (show downV n a = n - n % a by unfold downV; rw [if_neg h])
    have HB := Lib.hid (show okB a = true by unfold okB; simpa using h)
    have hb : (a == 0) = false := by simpa using h
    have m0 : 0 ≤ n % a := Int.emod_nonneg _ h
    have m1 : n % a ≤ n := mod_le h0 (by omega)
    go_enter Try.func16, Try.ntmps16
    go_wp2
    go_ret2
    exact ⟨by rw [HT.out, HB.out]; rfl, rfl⟩

theorem rdown_any (n a : Int) (w : World) (h0 : 0 ≤ n) (h1 : n ≤ 18446744073709551615) (g0 : 0 ≤ a) (g1 : a ≤ 18446744073709551615) :
    Calls Try.prog 23 #[.int .u64 n, .int .u64 a] w fun e w' => e = .returned (.tuple #[.int .u64 (downV n a), .bool (okB a)]) ∧ w = w' := by
  by_cases h : a = 0
  · subst h
    go_enter Try.func23, Try.ntmps23
    go_wp2
    go_ret2
    exact ⟨rfl, rfl⟩
  · have HT := Lib.hid (show downV n a = n - n % a by unfold downV; rw [if_neg h])
    have HB := Lib.hid (show okB a = true by unfold okB; simpa using h)
    have hb : (a == 0) = false := by simpa using h
    have m0 : 0 ≤ n % a := Int.emod_nonneg _ h
    have m1 : n % a ≤ n := mod_le h0 (by omega)
    go_enter Try.func23, Try.ntmps23
    go_wp2
    go_ret2
    exact ⟨by rw [HT.out, HB.out]; rfl, rfl⟩

theorem ceil_any (n a : Int) (w : World) (h0 : 0 ≤ n) (h1 : n ≤ 18446744073709551615) (g0 : 0 ≤ a) (g1 : a ≤ 18446744073709551615) :
    Calls Try.prog 24 #[.int .u64 n, .int .u64 a] w fun e w' => e = .returned (.tuple #[.int .u64 (ceilV n a), .bool (okB a)]) ∧ w = w' := by
  by_cases h : a = 0
  · subst h
    go_enter Try.func24, Try.ntmps24
    go_wp2
    go_ret2
    exact ⟨rfl, rfl⟩
  · have HB := Lib.hid (show okB a = true by unfold okB; simpa using h)
    have hb : (a == 0) = false := by simpa using h
    have q0 : 0 ≤ n / a := Int.ediv_nonneg h0 g0
    by_cases hm : n % a = 0
    · have HT := Lib.hid (show ceilV n a = n / a by unfold ceilV; rw [if_neg h, if_pos hm])
      have hmb : (n % a == 0) = true := by simpa using hm
      clear hm
      go_enter Try.func24, Try.ntmps24
      go_wp2
      go_ret2
      exact ⟨by rw [HT.out, HB.out]; rfl, rfl⟩
    · have HT := Lib.hid (show ceilV n a = n / a + 1 by unfold ceilV; rw [if_neg h, if_neg hm])
      have hmb : (n % a == 0) = false := by simpa using hm
      have q1 : n / a ≤ 9223372036854775807 := by
        have h2 : 2 ≤ a := by
          rcases Int.lt_or_le a 2 with h3 | h3
          · exfalso; apply hm; obtain rfl : a = 1 := by omega
            omega
          · exact h3
        have : n / a < 9223372036854775808 := Int.ediv_lt_of_lt_mul (by omega) (by omega)
        omega
      clear hm
      go_enter Try.func24, Try.ntmps24
      go_wp2
      go_ret2
      exact ⟨by rw [HT.out, HB.out]; rfl, rfl⟩

theorem rceil_any (n a : Int) (w : World) (h0 : 0 ≤ n) (h1 : n ≤ 18446744073709551615) (g0 : 0 ≤ a) (g1 : a ≤ 18446744073709551615) :
    Calls Try.prog 25 #[.int .u64 n, .int .u64 a] w fun e w' => e = .returned (.tuple #[.int .u64 (ceilV n a), .bool (okB a)]) ∧ w = w' := by
  by_cases h : a = 0
  · subst h
    go_enter Try.func25, Try.ntmps25
    go_wp2
    go_ret2
    exact ⟨rfl, rfl⟩
  · have HB := Lib.hid (show okB a = true by unfold okB; simpa using h)
    have hb : (a == 0) = false := by simpa using h
    have q0 : 0 ≤ n / a := Int.ediv_nonneg h0 g0
    by_cases hm : n % a = 0
    · have HT := Lib.hid (show ceilV n a = n / a by unfold ceilV; rw [if_neg h, if_pos hm])
      have hmb : (n % a == 0) = true := by simpa using hm
      clear hm
      go_enter Try.func25, Try.ntmps25
      go_wp2
      go_ret2
      exact ⟨by rw [HT.out, HB.out]; rfl, rfl⟩
    · have HT := Lib.hid (show ceilV n a = n / a + 1 by unfold ceilV; rw [if_neg h, if_neg hm])
      have hmb : (n % a == 0) = false := by simpa using hm
      have q1 : n / a ≤ 9223372036854775807 := by
        have h2 : 2 ≤ a := by
          rcases Int.lt_or_le a 2 with h3 | h3
          · exfalso; apply hm; obtain rfl : a = 1 := by omega
            omega
          · exact h3
        have : n / a < 9223372036854775808 := Int.ediv_lt_of_lt_mul (by omega) (by omega)
        omega
      clear hm
      go_enter Try.func25, Try.ntmps25
      go_wp2
      go_ret2
      exact ⟨by rw [HT.out, HB.out]; rfl, rfl⟩

theorem up_any (n a : Int) (w : World) (h0 : 0 ≤ n) (h1 : n ≤ 18446744073709551615) (g0 : 0 ≤ a) (g1 : a ≤ 18446744073709551615) :
    Calls Try.prog 17 #[.int .u64 n, .int .u64 a] w fun e w' => e = .returned (.tuple #[.int .u64 (upV n a), .bool (upB n a)]) ∧ w = w' := by
  by_cases h : a = 0
  · subst h
    have hk : okB 0 = false := rfl
    go_enter Try.func17, Try.ntmps17
    go_wp2_with (go_at_call 16; refine (down_any _ _ _ h0 h1 g0 g1).mono ?_; rintro e w' ⟨rfl, rfl⟩)
    go_ret2
    exact ⟨rfl, rfl⟩
  have hk : okB a = true := by unfold okB; simpa using h
  have hb : (a == 0) = false := by simpa using h
  have m0 : 0 ≤ n % a := Int.emod_nonneg _ h
  have m1 : n % a ≤ n := mod_le h0 (by omega)
  have m2 : n % a < a := Int.emod_lt_of_pos n (by omega)
  have HD := Lib.hid (show downV n a = n - n % a by unfold downV; rw [if_neg h])
  by_cases hm : n % a = 0
  · have HT := Lib.hid (show upV n a = n by unfold upV; rw [if_neg h, if_pos hm])
    have HB := Lib.hid (show upB n a = true by unfold upB; rw [if_neg h, if_pos hm])
    have hmb : (n % a == 0) = true := by simpa using hm
    have hd : downV n a = n := by rw [HD.out]; omega
    clear hm
    go_enter Try.func17, Try.ntmps17
    go_wp2_with (go_at_call 16; refine (down_any _ _ _ h0 h1 g0 g1).mono ?_; rintro e w' ⟨rfl, rfl⟩)
    go_ret2
    exact ⟨by rw [HT.out, HB.out]; rfl, rfl⟩
  · have hmb : (n % a == 0) = false := by simpa using hm
    have hd : downV n a = n - n % a := HD.out
    have hne : (n - n % a == n) = false := by simp; omega
    by_cases hc : 18446744073709551615 < n - n % a + a
    · have HT := Lib.hid (show upV n a = 0 by unfold upV; rw [if_neg h, if_neg hm, if_pos hc])
      have HB := Lib.hid (show upB n a = false by unfold upB; rw [if_neg h, if_neg hm, if_pos hc])
      have ha := fun w => add64_great (n - n % a) a (by omega) g0 hc (by omega) w
      clear hm
      go_enter Try.func17, Try.ntmps17
      go_wp2_with (go_at_call 16; refine (down_any _ _ _ h0 h1 g0 g1).mono ?_; rintro e w' ⟨rfl, rfl⟩)
      go_ret2
      exact ⟨by rw [HT.out, HB.out]; rfl, rfl⟩
    · have HT := Lib.hid (show upV n a = n - n % a + a by unfold upV; rw [if_neg h, if_neg hm, if_neg hc])
      have HB := Lib.hid (show upB n a = true by unfold upB; rw [if_neg h, if_neg hm, if_neg hc])
      have ha := fun w => add64_small (n - n % a) a (by omega) g0 (by omega) w
      clear hm
      go_enter Try.func17, Try.ntmps17
      go_wp2_with (go_at_call 16; refine (down_any _ _ _ h0 h1 g0 g1).mono ?_; rintro e w' ⟨rfl, rfl⟩)
      go_ret2
      exact ⟨by rw [HT.out, HB.out]; rfl, rfl⟩

theorem rup_any (n a : Int) (w : World) (h0 : 0 ≤ n) (h1 : n ≤ 18446744073709551615) (g0 : 0 ≤ a) (g1 : a ≤ 18446744073709551615) :
    Calls Try.prog 22 #[.int .u64 n, .int .u64 a] w fun e w' => e = .returned (.tuple #[.int .u64 (upV n a), .bool (upB n a)]) ∧ w = w' := by
  by_cases h : a = 0
  · subst h
    have hk : okB 0 = false := rfl
    go_enter Try.func22, Try.ntmps22
    go_wp2_with (fail)
    go_ret2
    exact ⟨rfl, rfl⟩
  have hk : okB a = true := by unfold okB; simpa using h
  have hb : (a == 0) = false := by simpa using h
  have m0 : 0 ≤ n % a := Int.emod_nonneg _ h
  have m1 : n % a ≤ n := mod_le h0 (by omega)
  have m2 : n % a < a := Int.emod_lt_of_pos n (by omega)
  have HD := Lib.hid (show downV n a = n - n % a by unfold downV; rw [if_neg h])
  by_cases hm : n % a = 0
  · have HT := Lib.hid (show upV n a = n by unfold upV; rw [if_neg h, if_pos hm])
    have HB := Lib.hid (show upB n a = true by unfold upB; rw [if_neg h, if_pos hm])
    have hmb : (n % a == 0) = true := by simpa using hm
    have hd : downV n a = n := by rw [HD.out]; omega
    clear hm
    go_enter Try.func22, Try.ntmps22
    go_wp2_with (fail)
    go_ret2
    exact ⟨by rw [HT.out, HB.out]; rfl, rfl⟩
  · have hmb : (n % a == 0) = false := by simpa using hm
    have hd : downV n a = n - n % a := HD.out
    have hne : (n - n % a == n) = false := by simp; omega
    by_cases hc : 18446744073709551615 < n - n % a + a
    · have HT := Lib.hid (show upV n a = 0 by unfold upV; rw [if_neg h, if_neg hm, if_pos hc])
      have HB := Lib.hid (show upB n a = false by unfold upB; rw [if_neg h, if_neg hm, if_pos hc])
      clear hm
      go_enter Try.func22, Try.ntmps22
      go_wp2_with (fail)
      go_ret2
      exact ⟨by rw [HT.out, HB.out]; rfl, rfl⟩
    · have HT := Lib.hid (show upV n a = n + (a - n % a) by unfold upV; rw [if_neg h, if_neg hm, if_neg hc]; omega)
      have HB := Lib.hid (show upB n a = true by unfold upB; rw [if_neg h, if_neg hm, if_neg hc])
      clear hm
      go_enter Try.func22, Try.ntmps22
      go_wp2_with (fail)
      go_ret2
      exact ⟨by rw [HT.out, HB.out]; rfl, rfl⟩

end Go.Proofs.Ytkicfdoeojiolaa
