/- The contracts of class.step and class.bytes. -/
import Derived.Test.YticaamdghjfifaaDoorClass
import Derived.Test.YticaamdghjfifaaDoorNumPow
import Derived.Test.YticaamdghjfifaaDoorNumMagic
import Derived.Test.YticaamdghjfifaaDoorBase
import Derived.Test.YticaamdghjfifaaDoorFar
import Derived.Deep.QuietTactic
import Derived.BigQuiet
import Derived.Laws.OwnMore
namespace Go.Proofs.YticaamdghjfifaaDoor
open Go.RowKit
set_option linter.unusedVariables false

theorem step_any (s y : Int) (w : World) (h0 : 0 ≤ s) (h1 : s ≤ 262144) : Calls Tryd.prog 50 #[.int .i64 s, .int .i64 y] w fun r w' => r = .returned (.int .i64 (stepV s y)) ∧ w = w' := by
  cases hp : powB s
  · have HT := Lib.hid (show stepV s y = y by unfold stepV; rw [if_neg (by rw [hp]; decide)])
    have HP := Lib.hid hp
    clear hp
    go_enter Tryd.func50, Tryd.ntmps50
    go_wp2_with (go_at_call 49; refine (pow_any _ _ (by omega) (by omega)).mono ?_; rintro e w1 ⟨rfl, rfl⟩; rw [HP.out])
    go_ret
    exact ⟨by rw [HT.out]; rfl, rfl⟩
  · have HT := Lib.hid (show stepV s y = if 2048 ≤ s then 256 else if 128 ≤ s then s / 8 else if 32 ≤ s then 16 else y by unfold stepV; rw [if_pos hp])
    have HP := Lib.hid hp
    clear hp
    by_cases c1 : 2048 ≤ s
    · have HU := Lib.hid (show stepV s y = 256 by rw [HT.out, if_pos c1])
      clear HT
      go_enter Tryd.func50, Tryd.ntmps50
      go_wp2_with (go_at_call 49; refine (pow_any _ _ (by omega) (by omega)).mono ?_; rintro e w1 ⟨rfl, rfl⟩; rw [HP.out])
      go_ret
      exact ⟨by rw [HU.out]; rfl, rfl⟩
    · by_cases c2 : 128 ≤ s
      · have HU := Lib.hid (show stepV s y = s / 8 by rw [HT.out, if_neg c1, if_pos c2])
        clear HT
        go_enter Tryd.func50, Tryd.ntmps50
        go_wp2_with (go_at_call 49; refine (pow_any _ _ (by omega) (by omega)).mono ?_; rintro e w1 ⟨rfl, rfl⟩; rw [HP.out])
        go_ret
        exact ⟨by rw [HU.out]; rfl, rfl⟩
      · by_cases c3 : 32 ≤ s
        · have HU := Lib.hid (show stepV s y = 16 by rw [HT.out, if_neg c1, if_neg c2, if_pos c3])
          clear HT
          go_enter Tryd.func50, Tryd.ntmps50
          go_wp2_with (go_at_call 49; refine (pow_any _ _ (by omega) (by omega)).mono ?_; rintro e w1 ⟨rfl, rfl⟩; rw [HP.out])
          go_ret
          exact ⟨by rw [HU.out]; rfl, rfl⟩
        · have HU := Lib.hid (show stepV s y = y by rw [HT.out, if_neg c1, if_neg c2, if_neg c3])
          clear HT
          go_enter Tryd.func50, Tryd.ntmps50
          go_wp2_with (go_at_call 49; refine (pow_any _ _ (by omega) (by omega)).mono ?_; rintro e w1 ⟨rfl, rfl⟩; rw [HP.out])
          go_ret
          exact ⟨by rw [HU.out]; rfl, rfl⟩

theorem bytes_any (s p : Int) (w : World) (s1 : 1 ≤ s) (hs : s ≤ 4 * p) (p1 : 1 ≤ p) (p2 : p ≤ 65536) : Calls Tryd.prog 51 #[.int .i64 s, .int .i64 p] w fun r w' => r = .returned (.int .i64 (bytesV s p 32 p)) ∧ w = w' := by
  go_enter Tryd.func51, Tryd.ntmps51
  go_wp2
  go_loop [5] (fun t => ∃ (n : Int) (f j : Nat), f + j = 32 ∧ t = .int .i64 n ∧ 1 ≤ n ∧ n ≤ 65536 * (j + 1) ∧ Hid (n = p * (j + 1)) ∧ Hid (bytesV s p 32 p = bytesV s p f n)) (fun t => (65536 * 40 - intOf t).toNat)
  case atStart => exact ⟨p, 32, 0, rfl, rfl, p1, by omega, Lib.hid (by simp), Lib.hid rfl⟩
  case round =>
    obtain ⟨n, f, j, hf, rfl, n1, n2, hn, hb⟩ := hrel
    by_cases hc : n / 8 < n % s
    · cases f with
      | zero =>
        exfalso
        have h32 : p * 32 ≤ n := by
          rw [hn.out]
          exact Int.mul_le_mul_of_nonneg_left (by omega) (by omega)
        have hm : n % s < s := Int.emod_lt_of_pos n (by omega)
        omega
      | succ f =>
        have HB : Hid (bytesV s p 32 p = bytesV s p f (n + p)) := Lib.hid (by rw [hb.out]; show (if n / 8 < n % s then _ else _) = _; rw [if_pos hc])
        have HN : Hid (n + p = p * (((j + 1 : Nat) : Int) + 1)) := Lib.hid (by rw [hn.out, Int.natCast_add, Int.mul_add, Int.mul_add, Int.mul_add]; simp)
        go_wp2
        go_round
        case rel => exact ⟨n + p, f, j + 1, by omega, rfl, by omega, by omega, HN, HB⟩
        case measure => simp [intOf]; omega
    · have HB : Hid (bytesV s p 32 p = n) := Lib.hid (by
        rw [hb.out]
        cases f with
        | zero => rfl
        | succ f => show (if n / 8 < n % s then _ else _) = _; rw [if_neg hc])
      go_wp2
      go_ret
      exact ⟨by rw [HB.out]; rfl, rfl⟩

end Go.Proofs.YticaamdghjfifaaDoor
