/- The contracts of Order, of package ratio and of its reference, and of nan. -/
import Derived.Test.YtbdngcifnlkijaaWalks2
import Derived.Test.YtbdngcifnlkijaaOrder
namespace Go.Proofs.Ytbdngcifnlkijaa
open Go.RowKit
set_option linter.unusedVariables false

theorem order_nanL {a : Nat} (h : selfEq a = false) (c : Nat) : FloatKind.f64.format.order a c = none := order_nan_left (isNaN_of h)
theorem order_nanR {a : Nat} (h : selfEq a = false) (c : Nat) : FloatKind.f64.format.order c a = none := order_nan_right (isNaN_of h)
theorem order_yes {a : Nat} (h : selfEq a = true) : FloatKind.f64.format.order a a = some .eq := by
  unfold selfEq at h; simpa using h

theorem rank_any (a : Int) (w : World) (h0 : 0 ≤ a) (h1 : a ≤ 18446744073709551615) :
    Calls Try.prog 34 #[.int .u64 a] w fun e w' => e = .returned (.int .u64 (rankV a)) ∧ w = w' := by
  cases h : selfEq a.toNat with
  | false =>
    have HT := Lib.hid (rank_nan h)
    have hn := order_nanL h
    clear h
    go_enter Try.func34, Try.ntmps34
    go_wp2
    go_ret
    exact ⟨by rw [HT.out]; rfl, rfl⟩
  | true =>
    have hn := order_yes h
    by_cases c : 9223372036854775808 ≤ a
    · have HT := Lib.hid (show rankV a = bits .xor .u64 IntKind.u64.max a by rw [rank_of h, if_pos c, not_u64 a h0 h1])
      have hs : (a / 9223372036854775808 == 1) = true := by simp; omega
      have hg : IntKind.u64.signed = false := rfl
      clear h
      go_enter Try.func34, Try.ntmps34
      go_wp2
      go_ret
      exact ⟨by rw [HT.out]; rfl, rfl⟩
    · have HT := Lib.hid (show rankV a = bits .or .u64 a 9223372036854775808 by rw [rank_of h, if_neg c, or_top a h0 (by omega)])
      have hs : (a / 9223372036854775808 == 1) = false := by simp; omega
      clear h
      go_enter Try.func34, Try.ntmps34
      go_wp2
      go_ret
      exact ⟨by rw [HT.out]; rfl, rfl⟩

theorem compare_any (x y : Int) (w : World) : Calls Try.prog 33 #[.int .u64 x, .int .u64 y] w fun e w' => e = .returned (.int .i64 (cmpI x y)) ∧ w = w' := by
  rcases Int.lt_trichotomy x y with h | h | h
  · have HT := Lib.hid (show cmpI x y = -1 by unfold cmpI; rw [if_pos h])
    go_enter Try.func33, Try.ntmps33
    go_wp2
    go_ret
    exact ⟨by rw [HT.out]; rfl, rfl⟩
  · subst h
    have HT := Lib.hid (show cmpI x x = 0 by unfold cmpI; rw [if_neg (by omega), if_neg (by omega)])
    go_enter Try.func33, Try.ntmps33
    go_wp2
    go_ret
    exact ⟨by rw [HT.out]; rfl, rfl⟩
  · have HT := Lib.hid (show cmpI x y = 1 by unfold cmpI; rw [if_neg (by omega), if_pos h])
    go_enter Try.func33, Try.ntmps33
    go_wp2
    go_ret
    exact ⟨by rw [HT.out]; rfl, rfl⟩

theorem order_any (a b : Int) (w : World) (a0 : 0 ≤ a) (a1 : a ≤ 18446744073709551615) (b0 : 0 ≤ b) (b1 : b ≤ 18446744073709551615) :
    Calls Try.prog 26 #[.int .u64 a, .int .u64 b] w fun e w' => e = .returned (.int .i64 (ordV a b)) ∧ w = w' := by
  go_enter Try.func26, Try.ntmps26
  go_wp2_with (first | (go_at_call 34; refine (rank_any _ _ (by assumption) (by assumption)).mono ?_; rintro e w' ⟨rfl, rfl⟩) | (go_at_call 33; refine (compare_any _ _ _).mono ?_; rintro e w' ⟨rfl, rfl⟩))
  go_ret
  exact ⟨rfl, rfl⟩

theorem rorder_nan_both (a b : Int) (w : World) (a0 : 0 ≤ a) (a1 : a ≤ 18446744073709551615) (b0 : 0 ≤ b) (b1 : b ≤ 18446744073709551615) (ha : selfEq a.toNat = false) (hb : selfEq b.toNat = false) :
    Calls Try.prog 27 #[.int .u64 a, .int .u64 b] w fun e w' => e = .returned (.int .i64 (ordV a b)) ∧ w = w' := by
  have HT := Lib.hid (ord_nan_both ha hb)
  have n1 := order_nanL ha
  have n2 := order_nanL hb
  clear ha hb
  go_enter Try.func27, Try.ntmps27
  go_wp2_with (go_at_call 31; refine (double_any _ _).mono ?_; rintro e w' ⟨rfl, rfl⟩)
  go_ret
  exact ⟨by rw [HT.out]; rfl, rfl⟩

theorem rorder_nan_left (a b : Int) (w : World) (a0 : 0 ≤ a) (a1 : a ≤ 18446744073709551615) (b0 : 0 ≤ b) (b1 : b ≤ 18446744073709551615) (ha : selfEq a.toNat = false) (hb : selfEq b.toNat = true) :
    Calls Try.prog 27 #[.int .u64 a, .int .u64 b] w fun e w' => e = .returned (.int .i64 (ordV a b)) ∧ w = w' := by
  have HT := Lib.hid (ord_nan_left b0 b1 ha hb)
  have n1 := order_nanL ha
  have n2 := order_yes hb
  clear ha hb
  go_enter Try.func27, Try.ntmps27
  go_wp2_with (go_at_call 31; refine (double_any _ _).mono ?_; rintro e w' ⟨rfl, rfl⟩)
  go_ret
  exact ⟨by rw [HT.out]; rfl, rfl⟩

theorem rorder_nan_right (a b : Int) (w : World) (a0 : 0 ≤ a) (a1 : a ≤ 18446744073709551615) (b0 : 0 ≤ b) (b1 : b ≤ 18446744073709551615) (ha : selfEq a.toNat = true) (hb : selfEq b.toNat = false) :
    Calls Try.prog 27 #[.int .u64 a, .int .u64 b] w fun e w' => e = .returned (.int .i64 (ordV a b)) ∧ w = w' := by
  have HT := Lib.hid (ord_nan_right a0 a1 ha hb)
  have n1 := order_yes ha
  have n2 := order_nanL hb
  clear ha hb
  go_enter Try.func27, Try.ntmps27
  go_wp2_with (go_at_call 31; refine (double_any _ _).mono ?_; rintro e w' ⟨rfl, rfl⟩)
  go_ret
  exact ⟨by rw [HT.out]; rfl, rfl⟩

theorem rorder_lt (a b : Int) (w : World) (a0 : 0 ≤ a) (a1 : a ≤ 18446744073709551615) (b0 : 0 ≤ b) (b1 : b ≤ 18446744073709551615) (ha : selfEq a.toNat = true) (hb : selfEq b.toNat = true) (h : FloatKind.f64.format.order a.toNat b.toNat = some .lt) :
    Calls Try.prog 27 #[.int .u64 a, .int .u64 b] w fun e w' => e = .returned (.int .i64 (ordV a b)) ∧ w = w' := by
  have HT := Lib.hid (ord_lt a0 a1 b0 b1 ha hb h)
  have n1 := order_yes ha
  have n2 := order_yes hb
  clear ha hb
  go_enter Try.func27, Try.ntmps27
  go_wp2_with (go_at_call 31; refine (double_any _ _).mono ?_; rintro e w' ⟨rfl, rfl⟩)
  go_ret
  exact ⟨by rw [HT.out]; rfl, rfl⟩

theorem rorder_gt (a b : Int) (w : World) (a0 : 0 ≤ a) (a1 : a ≤ 18446744073709551615) (b0 : 0 ≤ b) (b1 : b ≤ 18446744073709551615) (ha : selfEq a.toNat = true) (hb : selfEq b.toNat = true) (h : FloatKind.f64.format.order a.toNat b.toNat = some .gt) :
    Calls Try.prog 27 #[.int .u64 a, .int .u64 b] w fun e w' => e = .returned (.int .i64 (ordV a b)) ∧ w = w' := by
  have HT := Lib.hid (ord_gt a0 a1 b0 b1 ha hb h)
  have n1 := order_yes ha
  have n2 := order_yes hb
  clear ha hb
  go_enter Try.func27, Try.ntmps27
  go_wp2_with (go_at_call 31; refine (double_any _ _).mono ?_; rintro e w' ⟨rfl, rfl⟩)
  go_ret
  exact ⟨by rw [HT.out]; rfl, rfl⟩

theorem rorder_eq (a b : Int) (w : World) (a0 : 0 ≤ a) (a1 : a ≤ 18446744073709551615) (b0 : 0 ≤ b) (b1 : b ≤ 18446744073709551615) (ha : selfEq a.toNat = true) (hb : selfEq b.toNat = true) (h : FloatKind.f64.format.order a.toNat b.toNat = some .eq) :
    Calls Try.prog 27 #[.int .u64 a, .int .u64 b] w fun e w' => e = .returned (.int .i64 (ordV a b)) ∧ w = w' := by
  have HO := ord_eq a0 a1 b0 b1 ha hb h
  have n1 := order_yes ha
  have n2 := order_yes hb
  clear ha hb
  rcases Int.lt_trichotomy a b with c | c | c
  · have HT := Lib.hid (show ordV a b = 1 by rw [HO, if_neg (by omega), if_neg (by omega)])
    have hne : (a == b) = false := by simp; omega
    clear HO
    go_enter Try.func27, Try.ntmps27
    go_wp2_with (go_at_call 31; refine (double_any _ _).mono ?_; rintro e w' ⟨rfl, rfl⟩)
    go_ret
    exact ⟨by rw [HT.out]; rfl, rfl⟩
  · subst c
    have HT := Lib.hid (show ordV a a = 0 by rw [HO, if_pos rfl])
    clear HO h
    go_enter Try.func27, Try.ntmps27
    go_wp2_with (go_at_call 31; refine (double_any _ _).mono ?_; rintro e w' ⟨rfl, rfl⟩)
    go_ret
    exact ⟨by rw [HT.out]; rfl, rfl⟩
  · have HT := Lib.hid (show ordV a b = -1 by rw [HO, if_neg (by omega), if_pos (by omega)])
    have hne : (a == b) = false := by simp; omega
    clear HO
    go_enter Try.func27, Try.ntmps27
    go_wp2_with (go_at_call 31; refine (double_any _ _).mono ?_; rintro e w' ⟨rfl, rfl⟩)
    go_ret
    exact ⟨by rw [HT.out]; rfl, rfl⟩

theorem rorder_any (a b : Int) (w : World) (a0 : 0 ≤ a) (a1 : a ≤ 18446744073709551615) (b0 : 0 ≤ b) (b1 : b ≤ 18446744073709551615) : Calls Try.prog 27 #[.int .u64 a, .int .u64 b] w fun e w' => e = .returned (.int .i64 (ordV a b)) ∧ w = w' := by
  cases ha : selfEq a.toNat <;> cases hb : selfEq b.toNat
  · exact rorder_nan_both a b w a0 a1 b0 b1 ha hb
  · exact rorder_nan_left a b w a0 a1 b0 b1 ha hb
  · exact rorder_nan_right a b w a0 a1 b0 b1 ha hb
  · rcases order_three ha hb with h | h | h
    · exact rorder_lt a b w a0 a1 b0 b1 ha hb h
    · exact rorder_gt a b w a0 a1 b0 b1 ha hb h
    · exact rorder_eq a b w a0 a1 b0 b1 ha hb h

theorem nan_any (a : Int) (w : World) (h0 : 0 ≤ a) (h1 : a ≤ 18446744073709551615) :
    Calls Try.prog 19 #[.int .u64 a] w fun e w' => e = .returned (.bool (!selfEq a.toNat)) ∧ w = w' := by
  have hb := mask_top a h0 h1
  cases h : selfEq a.toNat with
  | false =>
    have h2 : 9218868437227405312 < a % 9223372036854775808 := by
      rw [selfEq_iff] at h; have := of_decide_eq_false h; omega
    clear h
    go_enter Try.func19, Try.ntmps19
    go_wp2
    go_ret
    exact ⟨rfl, rfl⟩
  | true =>
    have h2 : decide (9218868437227405312 < a % 9223372036854775808) = false := by
      have := selfEq_le h; apply decide_eq_false; omega
    clear h
    go_enter Try.func19, Try.ntmps19
    go_wp2
    go_ret
    exact ⟨rfl, rfl⟩

end Go.Proofs.Ytbdngcifnlkijaa
