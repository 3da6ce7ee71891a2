/- The walks of the laws of layer 1, out of the contracts. -/
import Derived.Test.YtkicfdoeojiolaaWalks
import Derived.Deep.QuietTactic
import Derived.BigQuiet
namespace Go.Proofs.Ytkicfdoeojiolaa
open Go.RowKit
set_option linter.unusedVariables false

theorem awake_any (w : World) : Calls Try.prog 15 #[] w fun e w' => e = .returned (.bool true) ∧ w = w' := by
  have h1 : upV 5 4 = 8 := by decide +kernel
  have h2 : upB 5 4 = true := by decide +kernel
  have h3 : magicV 48 = 89478486 := by decide +kernel
  have h4 : quotV 100 89478486 = 2 := by decide +kernel
  have h5 : ((Lib.bitLen (9 : Int).toNat : Int) - 1) = 3 := by decide +kernel
  go_enter Try.func15, Try.ntmps15
  go_wp2_with (first | (go_at_call 17; refine (up_any _ _ _ (by omega) (by omega) (by omega) (by omega)).mono ?_; rintro e w' ⟨rfl, rfl⟩) | (go_at_call 11; refine (magic_any _ _ (by omega) (by omega)).mono ?_; rintro e w' ⟨rfl, rfl⟩) | (go_at_call 13; refine (quot_any _ _ _ (by omega) (by omega) (by omega) (by omega)).mono ?_; rintro e w' ⟨rfl, rfl⟩) | (go_at_call 20; refine (log_any _ _ (by omega) (by omega)).mono ?_; rintro e w' ⟨rfl, rfl⟩; rw [h5]))
  go_ret
  exact ⟨rfl, rfl⟩

theorem walk_NumMagic (a0 a1 a2 : Int) (w0 : (Lit.int .u32 a0).wf = true) (w1 : (Lit.int .u32 a1).wf = true) (w2 : (Lit.int .u32 a2).wf = true) (w : World) :
    Calls Try.prog 3 #[.int .u32 a0, .int .u32 a1, .int .u32 a2] w fun e w' => e = .returned (.bool true) ∧ Grown w w' := by
  obtain ⟨b0, b1⟩ := u32_of w0
  obtain ⟨c0, c1⟩ := u32_of w1
  obtain ⟨d0, d1⟩ := u32_of w2
  clear w0 w1 w2
  go_enter Try.func3, Try.ntmps3
  go_wp2_with (first | (go_at_call 11; refine (magic_any _ _ b0 b1).mono ?_; rintro e w' ⟨rfl, rfl⟩) | (go_at_call 12; refine (rmagic_any _ _ b0 b1).mono ?_; rintro e w' ⟨rfl, rfl⟩) | (go_at_call 13; refine (quot_any _ _ _ c0 c1 d0 d1).mono ?_; rintro e w' ⟨rfl, rfl⟩) | (go_at_call 14; refine (rquot_any _ _ _ c0 c1 d0 d1).mono ?_; rintro e w' ⟨rfl, rfl⟩) | (go_at_call 15; refine (awake_any _).mono ?_; rintro e w' ⟨rfl, rfl⟩))
  go_ret
  exact ⟨rfl, Grown.refl _⟩

theorem walk_NumPowers (a0 : Int) (w0 : (Lit.int .u64 a0).wf = true) (w : World) :
    Calls Try.prog 6 #[.int .u64 a0] w fun e w' => e = .returned (.bool true) ∧ Grown w w' := by
  obtain ⟨b0, b1⟩ := u64_of w0
  clear w0
  go_enter Try.func6, Try.ntmps6
  go_wp2_with (first | (go_at_call 18; refine (pow_any _ _ b0 b1).mono ?_; rintro e w' ⟨rfl, rfl⟩) | (go_at_call 19; refine (rpow_any _ _ b0 b1).mono ?_; rintro e w' ⟨rfl, rfl⟩) | (go_at_call 20; refine (log_any _ _ b0 b1).mono ?_; rintro e w' ⟨rfl, rfl⟩) | (go_at_call 21; refine (rlog_any _ _ b0 b1).mono ?_; rintro e w' ⟨rfl, rfl⟩) | (go_at_call 15; refine (awake_any _).mono ?_; rintro e w' ⟨rfl, rfl⟩))
  go_ret
  exact ⟨rfl, Grown.refl _⟩

theorem walk_NumRounds (a0 a1 : Int) (w0 : (Lit.int .u64 a0).wf = true) (w1 : (Lit.int .u64 a1).wf = true) (w : World) :
    Calls Try.prog 8 #[.int .u64 a0, .int .u64 a1] w fun e w' => e = .returned (.bool true) ∧ Grown w w' := by
  obtain ⟨b0, b1⟩ := u64_of w0
  obtain ⟨c0, c1⟩ := u64_of w1
  clear w0 w1
  go_enter Try.func8, Try.ntmps8
  go_wp2_with (first | (go_at_call 17; refine (up_any _ _ _ b0 b1 c0 c1).mono ?_; rintro e w' ⟨rfl, rfl⟩) | (go_at_call 22; refine (rup_any _ _ _ b0 b1 c0 c1).mono ?_; rintro e w' ⟨rfl, rfl⟩) | (go_at_call 16; refine (down_any _ _ _ b0 b1 c0 c1).mono ?_; rintro e w' ⟨rfl, rfl⟩) | (go_at_call 23; refine (rdown_any _ _ _ b0 b1 c0 c1).mono ?_; rintro e w' ⟨rfl, rfl⟩) | (go_at_call 24; refine (ceil_any _ _ _ b0 b1 c0 c1).mono ?_; rintro e w' ⟨rfl, rfl⟩) | (go_at_call 25; refine (rceil_any _ _ _ b0 b1 c0 c1).mono ?_; rintro e w' ⟨rfl, rfl⟩) | (go_at_call 15; refine (awake_any _).mono ?_; rintro e w' ⟨rfl, rfl⟩))
  go_ret
  exact ⟨rfl, Grown.refl _⟩

end Go.Proofs.Ytkicfdoeojiolaa
