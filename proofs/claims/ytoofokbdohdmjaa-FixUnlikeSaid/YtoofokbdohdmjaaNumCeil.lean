/- The contract of num.Ceil. -/
import Derived.Test.YtoofokbdohdmjaaRows
import Derived.Test.YtoofokbdohdmjaaNumPlain
import Derived.WalkKit
import Derived.WalkSpells
import Derived.WalkLawsBesides
import Derived.ProofKit
import Derived.OpenShut
import Derived.Handy
import Derived.Lib.Hide
namespace Go.Proofs.Ytoofokbdohdmjaa
open Go.RowKit
set_option linter.unusedVariables false

theorem ceil_any (n a : Int) (w : World) (h0 : 0 ≤ n) (h1 : n ≤ 18446744073709551615) (g0 : 0 ≤ a) (g1 : a ≤ 18446744073709551615) :
    Calls Try.prog 25 #[.int .u64 n, .int .u64 a] w fun e w' => e = .returned (.tuple #[.int .u64 (ceilV n a), .bool (okB a)]) ∧ w = w' := by
  by_cases h : a = 0
  · subst h
    go_enter Try.func25, Try.ntmps25
    go_wp2
    go_ret2
    exact ⟨rfl, rfl⟩
  · have HB := Lib.hid (show okB a = true by unfold okB; simpa using h)
    have hb : (a == 0) = false := by simpa using h
    have q0 : 0 ≤ n / a := Int.ediv_nonneg h0 g0
    by_cases hm : n % a = 0
    · have HT := Lib.hid (show ceilV n a = n / a by unfold ceilV; rw [if_neg h, if_pos hm])
      have hmb : (n % a == 0) = true := by simpa using hm
      clear hm
      go_enter Try.func25, Try.ntmps25
      go_wp2
      go_ret2
      exact ⟨by rw [HT.out, HB.out]; rfl, rfl⟩
    · have HT := Lib.hid (show ceilV n a = n / a + 1 by unfold ceilV; rw [if_neg h, if_neg hm])
      have hmb : (n % a == 0) = false := by simpa using hm
      have q1 : n / a ≤ 9223372036854775807 := by
        have h2 : 2 ≤ a := by
          rcases Int.lt_or_le a 2 with h3 | h3
          · exfalso; apply hm; obtain rfl : a = 1 := by omega
            omega
          · exact h3
        have : n / a < 9223372036854775808 := Int.ediv_lt_of_lt_mul (by omega) (by omega)
        omega
      clear hm
      go_enter Try.func25, Try.ntmps25
      go_wp2
      go_ret2
      exact ⟨by rw [HT.out, HB.out]; rfl, rfl⟩

end Go.Proofs.Ytoofokbdohdmjaa
