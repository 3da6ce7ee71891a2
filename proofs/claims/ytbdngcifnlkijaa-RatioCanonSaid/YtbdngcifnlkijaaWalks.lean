/- The contracts of the functions of package ratio and of its reference: each function is walked once. -/
import Derived.Test.YtbdngcifnlkijaaRows
import Derived.Test.YtbdngcifnlkijaaVal
import Derived.WalkKit
import Derived.WalkSpells
import Derived.WalkLawsBesides
import Derived.ProofKit
import Derived.OpenShut
import Derived.Handy
import Derived.Lib.Hide
namespace Go.Proofs.Ytbdngcifnlkijaa
open Go.RowKit

@[go_sem] theorem frombits (x : Int) (w : World) : (callFunc 30 #[.int .u64 x]).run Try.prog w = .ok (.value (.float .f64 x.toNat)) w := by
  rw [run_callFunc_extern Try.func30 (by kernel_rfl) (by kernel_rfl) (by kernel_rfl) (e := Extern.MathFloatBits.float64frombits) (by kernel_rfl)]
  rfl

@[go_sem] theorem tobits (b : Nat) (w : World) : (callFunc 35 #[.float .f64 b]).run Try.prog w = .ok (.value (.int .u64 b)) w := by
  rw [run_callFunc_extern Try.func35 (by kernel_rfl) (by kernel_rfl) (by kernel_rfl) (e := Extern.MathFloatBits.float64bits) (by kernel_rfl)]
  rfl

theorem pattern_yes (b : Nat) (w : World) (h : selfEq b = true) :
    Calls Try.prog 28 #[.float .f64 b] w fun e w' => e = .returned (.int .u64 b) ∧ w = w' := by
  unfold selfEq at h
  have h' : (FloatKind.f64.format.order b b != some .eq) = false := by simpa using h
  clear h
  go_enter Try.func28, Try.ntmps28
  go_wp2
  go_ret
  exact ⟨rfl, rfl⟩

theorem pattern_no (b : Nat) (w : World) (h : selfEq b = false) :
    Calls Try.prog 28 #[.float .f64 b] w fun e w' => e = .returned (.int .u64 canonV) ∧ w = w' := by
  unfold selfEq at h
  have h' : (FloatKind.f64.format.order b b != some .eq) = true := by simpa using h
  clear h
  go_enter Try.func28, Try.ntmps28
  go_wp2
  go_ret
  exact ⟨rfl, rfl⟩

theorem pattern_any (b : Nat) (w : World) :
    Calls Try.prog 28 #[.float .f64 b] w fun e w' => e = .returned (.int .u64 (patV b)) ∧ w = w' := by
  unfold patV
  by_cases h : selfEq b = true
  · rw [if_pos h]; exact pattern_yes b w h
  · rw [if_neg h]; exact pattern_no b w (by simpa using h)

/-- the reference's. -/
theorem rpattern_yes (b : Nat) (w : World) (h : selfEq b = true) :
    Calls Try.prog 29 #[.float .f64 b] w fun e w' => e = .returned (.int .u64 b) ∧ w = w' := by
  unfold selfEq at h
  have h' : (FloatKind.f64.format.order b b != some .eq) = false := by simpa using h
  clear h
  go_enter Try.func29, Try.ntmps29
  go_wp2
  go_ret
  exact ⟨rfl, rfl⟩

theorem rpattern_no (b : Nat) (w : World) (h : selfEq b = false) :
    Calls Try.prog 29 #[.float .f64 b] w fun e w' => e = .returned (.int .u64 canonV) ∧ w = w' := by
  unfold selfEq at h
  have h' : (FloatKind.f64.format.order b b != some .eq) = true := by simpa using h
  clear h
  go_enter Try.func29, Try.ntmps29
  go_wp2
  go_ret
  exact ⟨rfl, rfl⟩

theorem rpattern_any (b : Nat) (w : World) :
    Calls Try.prog 29 #[.float .f64 b] w fun e w' => e = .returned (.int .u64 (patV b)) ∧ w = w' := by
  unfold patV
  by_cases h : selfEq b = true
  · rw [if_pos h]; exact rpattern_yes b w h
  · rw [if_neg h]; exact rpattern_no b w (by simpa using h)

theorem of_any (a b : Int) (w : World) :
    Calls Try.prog 14 #[.int .u64 a, .int .u64 b] w fun e w' => e = .returned (.int .u64 (ofV a b)) ∧ Grown w w' := by
  go_enter Try.func14, Try.ntmps14
  go_wp2_with (go_at_call 28; refine (pattern_any _ _).mono ?_; rintro e w' ⟨rfl, rfl⟩)
  go_ret
  exact ⟨by rw [patV_res]; rfl, grown_fWorld (Grown.refl _) _ _ _⟩

theorem rof_any (a b : Int) (w : World) :
    Calls Try.prog 15 #[.int .u64 a, .int .u64 b] w fun e w' => e = .returned (.int .u64 (ofV a b)) ∧ Grown w w' := by
  go_enter Try.func15, Try.ntmps15
  go_wp2_with (go_at_call 29; refine (rpattern_any _ _).mono ?_; rintro e w' ⟨rfl, rfl⟩)
  go_ret
  exact ⟨by rw [patV_res]; rfl, grown_fWorld (Grown.refl _) _ _ _⟩

theorem times_none (n r : Int) (w : World) (h : floatBits .mul .f64 (floatOfInt .f64 n) r.toNat = none) :
    Calls Try.prog 16 #[.int .u64 n, .int .u64 r] w fun e w' => e = .returned (.int .u64 (timesV n r)) ∧ Grown w w' := by
  have HT := Lib.hid (timesV_none h)
  have hn : ∀ w c, FloatKind.f64.format.order (fRes .mul (floatOfInt .f64 n) r.toNat w) c = none := fun w c => order_res_none h w c
  clear h
  go_enter Try.func16, Try.ntmps16
  go_wp2
  go_ret
  exact ⟨by rw [HT.out]; rfl, grown_fWorld (Grown.refl _) _ _ _⟩

theorem times_most (n r : Int) (w : World) (p : Nat) (h : floatBits .mul .f64 (floatOfInt .f64 n) r.toNat = some p) (h1 : geB p p64 = true) :
    Calls Try.prog 16 #[.int .u64 n, .int .u64 r] w fun e w' => e = .returned (.int .u64 (timesV n r)) ∧ Grown w w' := by
  have HT := Lib.hid (timesV_most h h1)
  have h0 : geB p p0 = true := ge_trans h1
  unfold geB p0 at h0
  unfold geB p64 at h1
  have hr : ∀ w, fRes .mul (floatOfInt .f64 n) r.toNat w = p := fun w => fRes_some h w
  have hw : ∀ w, fWorld .mul (floatOfInt .f64 n) r.toNat w = w := fun w => fWorld_some h w
  clear h
  go_enter Try.func16, Try.ntmps16
  go_wp2
  go_ret
  exact ⟨by rw [HT.out]; rfl, Grown.refl _⟩

theorem times_some (n r : Int) (w : World) (p : Nat) (k : Nat) (h : floatBits .mul .f64 (floatOfInt .f64 n) r.toNat = some p) (h1 : geB p p64 = false) (h2 : geB p p0 = true) (h3 : floatToIntVal .f64 p .u64 = some (k : Int)) :
    Calls Try.prog 16 #[.int .u64 n, .int .u64 r] w fun e w' => e = .returned (.int .u64 (timesV n r)) ∧ Grown w w' := by
  have HT := Lib.hid (timesV_some h h1 h2 h3)
  have hc : ∀ w, (convert 34 22 (.float .f64 p)).run Try.prog w = .ok (.int .u64 k) w := fun w => run_convert_float_int w 34 22 .f64 .u64 p k (by rw [Try.underlying34]; rfl) Try.underlying22 h3
  clear h3
  unfold geB p64 at h1
  unfold geB p0 at h2
  have hr : ∀ w, fRes .mul (floatOfInt .f64 n) r.toNat w = p := fun w => fRes_some h w
  have hw : ∀ w, fWorld .mul (floatOfInt .f64 n) r.toNat w = w := fun w => fWorld_some h w
  clear h
  go_enter Try.func16, Try.ntmps16
  go_wp2
  go_ret
  exact ⟨by rw [HT.out]; rfl, Grown.refl _⟩

theorem times_zero (n r : Int) (w : World) (p : Nat) (h : floatBits .mul .f64 (floatOfInt .f64 n) r.toNat = some p) (h1 : geB p p64 = false) (h2 : geB p p0 = false) :
    Calls Try.prog 16 #[.int .u64 n, .int .u64 r] w fun e w' => e = .returned (.int .u64 (timesV n r)) ∧ Grown w w' := by
  have HT := Lib.hid (timesV_zero h h1 h2)
  unfold geB p64 at h1
  unfold geB p0 at h2
  have hr : ∀ w, fRes .mul (floatOfInt .f64 n) r.toNat w = p := fun w => fRes_some h w
  have hw : ∀ w, fWorld .mul (floatOfInt .f64 n) r.toNat w = w := fun w => fWorld_some h w
  clear h
  go_enter Try.func16, Try.ntmps16
  go_wp2
  go_ret
  exact ⟨by rw [HT.out]; rfl, Grown.refl _⟩

theorem times_any (n r : Int) (w : World) :
    Calls Try.prog 16 #[.int .u64 n, .int .u64 r] w fun e w' => e = .returned (.int .u64 (timesV n r)) ∧ Grown w w' := by
  cases h : floatBits .mul .f64 (floatOfInt .f64 n) r.toNat with
  | none => exact times_none n r w h
  | some p =>
    cases h1 : geB p p64 with
    | true => exact times_most n r w p h h1
    | false =>
      cases h2 : geB p p0 with
      | true =>
        obtain ⟨k, h3, -⟩ := whole h2 h1
        exact times_some n r w p k h h1 h2 h3
      | false => exact times_zero n r w p h h1 h2

theorem rtimes_none (n r : Int) (w : World) (h : floatBits .mul .f64 (floatOfInt .f64 n) r.toNat = none) :
    Calls Try.prog 17 #[.int .u64 n, .int .u64 r] w fun e w' => e = .returned (.int .u64 (timesV n r)) ∧ Grown w w' := by
  have HT := Lib.hid (timesV_none h)
  have hn : ∀ w c, FloatKind.f64.format.order (fRes .mul (floatOfInt .f64 n) r.toNat w) c = none := fun w c => order_res_none h w c
  clear h
  go_enter Try.func17, Try.ntmps17
  go_wp2
  go_ret
  exact ⟨by rw [HT.out]; rfl, grown_fWorld (Grown.refl _) _ _ _⟩

theorem rtimes_most (n r : Int) (w : World) (p : Nat) (h : floatBits .mul .f64 (floatOfInt .f64 n) r.toNat = some p) (h1 : geB p p64 = true) :
    Calls Try.prog 17 #[.int .u64 n, .int .u64 r] w fun e w' => e = .returned (.int .u64 (timesV n r)) ∧ Grown w w' := by
  have HT := Lib.hid (timesV_most h h1)
  have h0 : geB p p0 = true := ge_trans h1
  unfold geB p0 at h0
  unfold geB p64 at h1
  have hr : ∀ w, fRes .mul (floatOfInt .f64 n) r.toNat w = p := fun w => fRes_some h w
  have hw : ∀ w, fWorld .mul (floatOfInt .f64 n) r.toNat w = w := fun w => fWorld_some h w
  clear h
  go_enter Try.func17, Try.ntmps17
  go_wp2
  go_ret
  exact ⟨by rw [HT.out]; rfl, Grown.refl _⟩

theorem rtimes_some (n r : Int) (w : World) (p : Nat) (k : Nat) (h : floatBits .mul .f64 (floatOfInt .f64 n) r.toNat = some p) (h1 : geB p p64 = false) (h2 : geB p p0 = true) (h3 : floatToIntVal .f64 p .u64 = some (k : Int)) :
    Calls Try.prog 17 #[.int .u64 n, .int .u64 r] w fun e w' => e = .returned (.int .u64 (timesV n r)) ∧ Grown w w' := by
  have HT := Lib.hid (timesV_some h h1 h2 h3)
  have hc : ∀ w, (convert 34 22 (.float .f64 p)).run Try.prog w = .ok (.int .u64 k) w := fun w => run_convert_float_int w 34 22 .f64 .u64 p k (by rw [Try.underlying34]; rfl) Try.underlying22 h3
  clear h3
  unfold geB p64 at h1
  unfold geB p0 at h2
  have hr : ∀ w, fRes .mul (floatOfInt .f64 n) r.toNat w = p := fun w => fRes_some h w
  have hw : ∀ w, fWorld .mul (floatOfInt .f64 n) r.toNat w = w := fun w => fWorld_some h w
  clear h
  go_enter Try.func17, Try.ntmps17
  go_wp2
  go_ret
  exact ⟨by rw [HT.out]; rfl, Grown.refl _⟩

theorem rtimes_zero (n r : Int) (w : World) (p : Nat) (h : floatBits .mul .f64 (floatOfInt .f64 n) r.toNat = some p) (h1 : geB p p64 = false) (h2 : geB p p0 = false) :
    Calls Try.prog 17 #[.int .u64 n, .int .u64 r] w fun e w' => e = .returned (.int .u64 (timesV n r)) ∧ Grown w w' := by
  have HT := Lib.hid (timesV_zero h h1 h2)
  unfold geB p64 at h1
  unfold geB p0 at h2
  have hr : ∀ w, fRes .mul (floatOfInt .f64 n) r.toNat w = p := fun w => fRes_some h w
  have hw : ∀ w, fWorld .mul (floatOfInt .f64 n) r.toNat w = w := fun w => fWorld_some h w
  clear h
  go_enter Try.func17, Try.ntmps17
  go_wp2
  go_ret
  exact ⟨by rw [HT.out]; rfl, Grown.refl _⟩

theorem rtimes_any (n r : Int) (w : World) :
    Calls Try.prog 17 #[.int .u64 n, .int .u64 r] w fun e w' => e = .returned (.int .u64 (timesV n r)) ∧ Grown w w' := by
  cases h : floatBits .mul .f64 (floatOfInt .f64 n) r.toNat with
  | none => exact rtimes_none n r w h
  | some p =>
    cases h1 : geB p p64 with
    | true => exact rtimes_most n r w p h h1
    | false =>
      cases h2 : geB p p0 with
      | true =>
        obtain ⟨k, h3, -⟩ := whole h2 h1
        exact rtimes_some n r w p k h h1 h2 h3
      | false => exact rtimes_zero n r w p h h1 h2

theorem awake_any (w : World) : Calls Try.prog 18 #[] w fun e w' => e = .returned (.bool true) ∧ Grown w w' := by
  have h1 : ofV 1 2 = 4602678819172646912 := by decide +kernel
  have h2 : timesV 10 4602678819172646912 = 5 := by decide +kernel
  have h3 : ofV 0 0 = 9221120237041090561 := by decide +kernel
  go_enter Try.func18, Try.ntmps18
  go_wp2_with (first | (go_at_call 14; refine (of_any _ _ _).mono ?_; rintro e w1 ⟨rfl, hg1⟩) | (go_at_call 16; refine (times_any _ _ _).mono ?_; rintro e w1 ⟨rfl, hg2⟩))
  go_ret
  exact ⟨rfl, by repeat (first | exact Grown.refl _ | assumption | apply grown_fWorld | (refine grown_trans ?_ (by assumption)))⟩

theorem double_any (a : Int) (w : World) : Calls Try.prog 31 #[.int .u64 a] w fun e w' => e = .returned (.float .f64 a.toNat) ∧ w = w' := by
  go_enter Try.func31, Try.ntmps31
  go_wp2
  go_ret
  exact ⟨rfl, rfl⟩

theorem mix_any (a b z : Int) (w : World) :
    Calls Try.prog 20 #[.int .u64 a, .int .u64 b, .int .u64 z] w fun e w' => e = .returned (.int .u64 (mixV a b z)) ∧ Grown w w' := by
  go_enter Try.func20, Try.ntmps20
  go_wp2_with (go_at_call 28; refine (pattern_any _ _).mono ?_; rintro e w' ⟨rfl, rfl⟩)
  go_ret
  exact ⟨by rw [mix_is]; rfl, by repeat (first | exact Grown.refl _ | assumption | apply grown_fWorld | (refine grown_trans ?_ (by assumption)))⟩

theorem rmix_any (a b z : Int) (w : World) :
    Calls Try.prog 21 #[.int .u64 a, .int .u64 b, .int .u64 z] w fun e w' => e = .returned (.int .u64 (mixV a b z)) ∧ Grown w w' := by
  go_enter Try.func21, Try.ntmps21
  go_wp2_with (first | (go_at_call 29; refine (rpattern_any _ _).mono ?_; rintro e w' ⟨rfl, rfl⟩) | (go_at_call 31; refine (double_any _ _).mono ?_; rintro e w' ⟨rfl, rfl⟩))
  go_ret
  exact ⟨by rw [mix_is]; rfl, by repeat (first | exact Grown.refl _ | assumption | apply grown_fWorld | (refine grown_trans ?_ (by assumption)))⟩

theorem add64_small (x y : Int) (hx : 0 ≤ x) (hy : 0 ≤ y) (h : x + y ≤ 18446744073709551615) (w : World) : (callFunc 32 #[.int .u64 x, .int .u64 y, .int .u64 0]).run Try.prog w = .ok (.value (.tuple #[.int .u64 (x + y), .int .u64 0])) w := by
  rw [run_callFunc_extern Try.func32 (by kernel_rfl) (by kernel_rfl) (by kernel_rfl) (e := add64Entry) (by kernel_rfl), run_add64 x y 0 hx hy (by omega) (by omega)]
  rw [show (x + y + 0) % 18446744073709551616 = x + y by omega, show (x + y + 0) / 18446744073709551616 = 0 by omega]
  rfl

theorem add64_great (x y : Int) (hx : 0 ≤ x) (hy : 0 ≤ y) (h : 18446744073709551615 < x + y) (h2 : x + y < 36893488147419103232) (w : World) : (callFunc 32 #[.int .u64 x, .int .u64 y, .int .u64 0]).run Try.prog w = .ok (.value (.tuple #[.int .u64 (x + y - 18446744073709551616), .int .u64 1])) w := by
  rw [run_callFunc_extern Try.func32 (by kernel_rfl) (by kernel_rfl) (by kernel_rfl) (e := add64Entry) (by kernel_rfl), run_add64 x y 0 hx hy (by omega) (by omega)]
  rw [show (x + y + 0) % 18446744073709551616 = x + y - 18446744073709551616 by omega, show (x + y + 0) / 18446744073709551616 = 1 by omega]
  rfl

end Go.Proofs.Ytbdngcifnlkijaa
