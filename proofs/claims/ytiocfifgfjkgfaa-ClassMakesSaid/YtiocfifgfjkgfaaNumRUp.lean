/- The contract of the reference Up. -/
import Derived.Test.YtiocfifgfjkgfaaRows
import Derived.Test.YtiocfifgfjkgfaaNumPlain
import Derived.WalkKit
import Derived.WalkSpells
import Derived.WalkLawsBesides
import Derived.ProofKit
import Derived.OpenShut
import Derived.Handy
import Derived.Lib.Hide
namespace Go.Proofs.Ytiocfifgfjkgfaa
open Go.RowKit
set_option linter.unusedVariables false

theorem rup_any (n a : Int) (w : World) (h0 : 0 ≤ n) (h1 : n ≤ 18446744073709551615) (g0 : 0 ≤ a) (g1 : a ≤ 18446744073709551615) :
    Calls Try.prog 27 #[.int .u64 n, .int .u64 a] w fun e w' => e = .returned (.tuple #[.int .u64 (upV n a), .bool (upB n a)]) ∧ w = w' := by
  by_cases h : a = 0
  · subst h
    have hk : okB 0 = false := rfl
    go_enter Try.func27, Try.ntmps27
    go_wp2_with (fail)
    go_ret2
    exact ⟨rfl, rfl⟩
  have hk : okB a = true := by unfold okB; simpa using h
  have hb : (a == 0) = false := by simpa using h
  have m0 : 0 ≤ n % a := Int.emod_nonneg _ h
  have m1 : n % a ≤ n := mod_le h0 (by omega)
  have m2 : n % a < a := Int.emod_lt_of_pos n (by omega)
  have HD := Lib.hid (show downV n a = n - n % a by unfold downV; rw [if_neg h])
  by_cases hm : n % a = 0
  · have HT := Lib.hid (show upV n a = n by unfold upV; rw [if_neg h, if_pos hm])
    have HB := Lib.hid (show upB n a = true by unfold upB; rw [if_neg h, if_pos hm])
    have hmb : (n % a == 0) = true := by simpa using hm
    have hd : downV n a = n := by rw [HD.out]; omega
    clear hm
    go_enter Try.func27, Try.ntmps27
    go_wp2_with (fail)
    go_ret2
    exact ⟨by rw [HT.out, HB.out]; rfl, rfl⟩
  · have hmb : (n % a == 0) = false := by simpa using hm
    have hd : downV n a = n - n % a := HD.out
    have hne : (n - n % a == n) = false := by simp; omega
    by_cases hc : 18446744073709551615 < n - n % a + a
    · have HT := Lib.hid (show upV n a = 0 by unfold upV; rw [if_neg h, if_neg hm, if_pos hc])
      have HB := Lib.hid (show upB n a = false by unfold upB; rw [if_neg h, if_neg hm, if_pos hc])
      clear hm
      go_enter Try.func27, Try.ntmps27
      go_wp2_with (fail)
      go_ret2
      exact ⟨by rw [HT.out, HB.out]; rfl, rfl⟩
    · have HT := Lib.hid (show upV n a = n + (a - n % a) by unfold upV; rw [if_neg h, if_neg hm, if_neg hc]; omega)
      have HB := Lib.hid (show upB n a = true by unfold upB; rw [if_neg h, if_neg hm, if_neg hc])
      clear hm
      go_enter Try.func27, Try.ntmps27
      go_wp2_with (fail)
      go_ret2
      exact ⟨by rw [HT.out, HB.out]; rfl, rfl⟩

end Go.Proofs.Ytiocfifgfjkgfaa
