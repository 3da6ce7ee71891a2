/- The contract of the reference Pow. -/
import Derived.Test.YticaamdghjfifaaDoorRows
import Derived.Test.YticaamdghjfifaaDoorNumPlain
import Derived.WalkKit
import Derived.WalkSpells
import Derived.WalkLawsBesides
import Derived.ProofKit
import Derived.OpenShut
import Derived.Handy
import Derived.Lib.Hide
namespace Go.Proofs.YticaamdghjfifaaDoor
open Go.RowKit
set_option linter.unusedVariables false

theorem rpow_any (n : Int) (w : World) (h0 : 0 ≤ n) (h1 : n ≤ 18446744073709551615) : Calls Tryd.prog 53 #[.int .u64 n] w fun e w' => e = .returned (.bool (powB n)) ∧ w = w' := by
  go_enter Tryd.func53, Tryd.ntmps53
  go_wp2
  go_loop [0] (fun t => ∃ m : Nat, m ≤ 18446744073709551615 ∧ t = .int .u64 m ∧ Hid (isPow m = powB n)) (fun t => (intOf t).toNat)
  case atStart => exact ⟨n.toNat, by omega, by rw [Int.toNat_of_nonneg h0], Lib.hid rfl⟩
  case round =>
    obtain ⟨m, hm, rfl, hp⟩ := hrel
    by_cases hc : 1 < m
    · by_cases he : m % 2 = 0
      · have hb : (((m : Int) % 2) == 0) = true := by simp; omega
        go_wp2
        go_round
        case rel => exact ⟨m / 2, by omega, by go_num, Lib.hid (by rw [isPow_half m hc he]; exact hp.out)⟩
        case measure => simp [intOf]; omega
      · have hb : (((m : Int) % 2) == 0) = false := by simp; omega
        go_wp2
        go_ret
        exact ⟨by show Ending.returned (Value.bool ((m : Int) == 1)) = _; rw [← hp.out, isPow_odd m (by omega), show ((m : Int) == 1) = (m == 1) by rw [Bool.eq_iff_iff]; simp; omega], rfl⟩
    · go_wp2
      go_ret
      refine ⟨?_, rfl⟩
      rw [← hp.out]
      have : m = 0 ∨ m = 1 := by omega
      rcases this with rfl | rfl <;> rfl

end Go.Proofs.YticaamdghjfifaaDoor
