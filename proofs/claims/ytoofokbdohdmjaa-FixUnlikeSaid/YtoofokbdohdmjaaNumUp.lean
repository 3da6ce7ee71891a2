/- The contracts of num.Down and num.Up. -/
import Derived.Test.YtoofokbdohdmjaaRows
import Derived.Test.YtoofokbdohdmjaaNumPlain
import Derived.WalkKit
import Derived.WalkSpells
import Derived.WalkLawsBesides
import Derived.ProofKit
import Derived.OpenShut
import Derived.Handy
import Derived.Lib.Hide
namespace Go.Proofs.Ytoofokbdohdmjaa
open Go.RowKit
set_option linter.unusedVariables false

theorem add64_small (x y : Int) (hx : 0 ≤ x) (hy : 0 ≤ y) (h : x + y ≤ 18446744073709551615) (w : World) : (callFunc 30 #[.int .u64 x, .int .u64 y, .int .u64 0]).run Try.prog w = .ok (.value (.tuple #[.int .u64 (x + y), .int .u64 0])) w := by
  rw [run_callFunc_extern Try.func30 (by kernel_rfl) (by kernel_rfl) (by kernel_rfl) (e := add64Entry) (by kernel_rfl), run_add64 x y 0 hx hy (by omega) (by omega)]
  rw [show (x + y + 0) % 18446744073709551616 = x + y by omega, show (x + y + 0) / 18446744073709551616 = 0 by omega]
  rfl

theorem add64_great (x y : Int) (hx : 0 ≤ x) (hy : 0 ≤ y) (h : 18446744073709551615 < x + y) (h2 : x + y < 36893488147419103232) (w : World) : (callFunc 30 #[.int .u64 x, .int .u64 y, .int .u64 0]).run Try.prog w = .ok (.value (.tuple #[.int .u64 (x + y - 18446744073709551616), .int .u64 1])) w := by
  rw [run_callFunc_extern Try.func30 (by kernel_rfl) (by kernel_rfl) (by kernel_rfl) (e := add64Entry) (by kernel_rfl), run_add64 x y 0 hx hy (by omega) (by omega)]
  rw [show (x + y + 0) % 18446744073709551616 = x + y - 18446744073709551616 by omega, show (x + y + 0) / 18446744073709551616 = 1 by omega]
  rfl

theorem down_any (n a : Int) (w : World) (h0 : 0 ≤ n) (h1 : n ≤ 18446744073709551615) (g0 : 0 ≤ a) (g1 : a ≤ 18446744073709551615) :
    Calls Try.prog 29 #[.int .u64 n, .int .u64 a] w fun e w' => e = .returned (.tuple #[.int .u64 (downV n a), .bool (okB a)]) ∧ w = w' := by
  by_cases h : a = 0
  · subst h
    go_enter Try.func29, Try.ntmps29
    go_wp2
    go_ret2
    exact ⟨rfl, rfl⟩
  · have HT := Lib.hid (show downV n a = n - n % a by unfold downV; rw [if_neg h])
    have HB := Lib.hid (show okB a = true by unfold okB; simpa using h)
    have hb : (a == 0) = false := by simpa using h
    have m0 : 0 ≤ n % a := Int.emod_nonneg _ h
    have m1 : n % a ≤ n := mod_le h0 (by omega)
    go_enter Try.func29, Try.ntmps29
    go_wp2
    go_ret2
    exact ⟨by rw [HT.out, HB.out]; rfl, rfl⟩

theorem up_any (n a : Int) (w : World) (h0 : 0 ≤ n) (h1 : n ≤ 18446744073709551615) (g0 : 0 ≤ a) (g1 : a ≤ 18446744073709551615) :
    Calls Try.prog 28 #[.int .u64 n, .int .u64 a] w fun e w' => e = .returned (.tuple #[.int .u64 (upV n a), .bool (upB n a)]) ∧ w = w' := by
  by_cases h : a = 0
  · subst h
    have hk : okB 0 = false := rfl
    go_enter Try.func28, Try.ntmps28
    go_wp2_with (go_at_call 29; refine (down_any _ _ _ h0 h1 g0 g1).mono ?_; rintro e w' ⟨rfl, rfl⟩)
    go_ret2
    exact ⟨rfl, rfl⟩
  have hk : okB a = true := by unfold okB; simpa using h
  have hb : (a == 0) = false := by simpa using h
  have m0 : 0 ≤ n % a := Int.emod_nonneg _ h
  have m1 : n % a ≤ n := mod_le h0 (by omega)
  have m2 : n % a < a := Int.emod_lt_of_pos n (by omega)
  have HD := Lib.hid (show downV n a = n - n % a by unfold downV; rw [if_neg h])
  by_cases hm : n % a = 0
  · have HT := Lib.hid (show upV n a = n by unfold upV; rw [if_neg h, if_pos hm])
    have HB := Lib.hid (show upB n a = true by unfold upB; rw [if_neg h, if_pos hm])
    have hmb : (n % a == 0) = true := by simpa using hm
    have hd : downV n a = n := by rw [HD.out]; omega
    clear hm
    go_enter Try.func28, Try.ntmps28
    go_wp2_with (go_at_call 29; refine (down_any _ _ _ h0 h1 g0 g1).mono ?_; rintro e w' ⟨rfl, rfl⟩)
    go_ret2
    exact ⟨by rw [HT.out, HB.out]; rfl, rfl⟩
  · have hmb : (n % a == 0) = false := by simpa using hm
    have hd : downV n a = n - n % a := HD.out
    have hne : (n - n % a == n) = false := by simp; omega
    by_cases hc : 18446744073709551615 < n - n % a + a
    · have HT := Lib.hid (show upV n a = 0 by unfold upV; rw [if_neg h, if_neg hm, if_pos hc])
      have HB := Lib.hid (show upB n a = false by unfold upB; rw [if_neg h, if_neg hm, if_pos hc])
      have ha := fun w => add64_great (n - n % a) a (by omega) g0 hc (by omega) w
      clear hm
      go_enter Try.func28, Try.ntmps28
      go_wp2_with (go_at_call 29; refine (down_any _ _ _ h0 h1 g0 g1).mono ?_; rintro e w' ⟨rfl, rfl⟩)
      go_ret2
      exact ⟨by rw [HT.out, HB.out]; rfl, rfl⟩
    · have HT := Lib.hid (show upV n a = n - n % a + a by unfold upV; rw [if_neg h, if_neg hm, if_neg hc])
      have HB := Lib.hid (show upB n a = true by unfold upB; rw [if_neg h, if_neg hm, if_neg hc])
      have ha := fun w => add64_small (n - n % a) a (by omega) g0 (by omega) w
      clear hm
      go_enter Try.func28, Try.ntmps28
      go_wp2_with (go_at_call 29; refine (down_any _ _ _ h0 h1 g0 g1).mono ?_; rintro e w' ⟨rfl, rfl⟩)
      go_ret2
      exact ⟨by rw [HT.out, HB.out]; rfl, rfl⟩

end Go.Proofs.Ytoofokbdohdmjaa
