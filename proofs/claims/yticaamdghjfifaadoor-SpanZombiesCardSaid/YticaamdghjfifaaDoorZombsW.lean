/- The walk of SpanZombies, in range. -/
import Derived.Test.YticaamdghjfifaaDoorZombs
namespace Go.Proofs.YticaamdghjfifaaDoor
open Go.RowKit
set_option linter.unusedVariables false

theorem zo_info {W w : World} {g p c k : Nat} {M : Nat → Bool} (h : ZoS W w g p c k M) :
    Calls Tryd.prog 16 #[.pointer (some ⟨g, 0, none⟩)] w fun r w' => r = .returned (.agg #[.int .u64 (p * 8192 : Nat), .int .i64 (pgN c), .int .i64 1, .int .i64 c, .bool false, .int .i64 (szN c), .int .i64 (slN c), .int .i64 k, .bool false, .bool false]) ∧ Ext w w' :=
  aw_info h

set_option maxRecDepth 20000 in
set_option maxHeartbeats 4000000 in
theorem zombs_in (c n a : Nat) (W : World) (ht : TzAt W) (hc0 : 1 ≤ c) (hc : c ≤ 67) (hn : n < slN c) (ha : n ≤ a) (has : a < slN c) (h5 : n ≤ 500) : Calls Tryd.prog 4 #[.int .i64 c, .int .i64 n, .int .i64 a] W fun r w' => r = .returned (.bool true) ∧ Ext W w' := by
  have HT := Lib.hid ht
  clear ht
  have hsl := (tabN_fit c (by omega)).2.2.1
  have hpg := (tabN_fit c (by omega)).2.1
  have hf7 : ∀ (q0 q1 q2 q3 q4 q5 : Int) (w : World), (Instr.field 43 (.agg #[.int .u64 q0, .int .i64 q1, .int .i64 1, .int .i64 q2, .bool false, .int .i64 q3, .int .i64 q4, .int .i64 q5, .bool false, .bool false]) 7).run Tryd.prog w = .ok (.int .i64 q5) w := fun _ _ _ _ _ _ _ => by kernel_rfl
  have HR := Lib.hid (tabN_all c (by omega))
  go_enter Tryd.func4, Tryd.ntmps4
  go_wp2_with (first
    | (go_at_call 9; refine (table_any _).mono ?_; rintro r w1 ⟨v, rfl, ho, hx⟩; obtain ⟨gt, cap, rfl, hBg, hcap, hcm, hT⟩ := tab_open ho; obtain ⟨t0, t1, t2, t3⟩ := hT.row c (by omega); rw [HR.out.2.1] at t1; rw [HR.out.2.2.1] at t2; clear t0 t3 ho HR; have HX1 := Lib.hid hx; clear hx)
    | (go_at_call 11; refine (zo_new 9 c _ hc0 hc (by omega)).mono ?_; rintro r w2 ⟨g, rfl, h⟩; have H0 := Lib.hid h; clear h))
  go_loopw [10] (fun i wr => ∃ k : Nat, k ≤ n ∧ i = .int .i64 k ∧ Hid (ZoS w1 wr g 9 c k noB)) (fun i _ => n - (intOf i).toNat)
  case atStart => exact ⟨0, by omega, rfl, H0⟩
  case round =>
    obtain ⟨k, hk, rfl, hR⟩ := hrel
    clear H0
    have HT1 := Lib.hid (HT.out.later HX1.out)
    by_cases hkn : k < n
    · go_wp2_with (first | (go_at_call 12; refine (zo_next hR.out HT1.out (by omega)).mono ?_; rintro r w3 ⟨rfl, h⟩; have H1 := Lib.hid h; clear h))
      go_roundw
      case rel => exact ⟨k + 1, by omega, by go_num, H1⟩
      case measure => simp [intOf]; omega
    · obtain rfl : k = n := by omega
      go_wp2_with (first
        | (go_at_call 14; refine (zo_mark hR.out a has).mono ?_; rintro r w3 ⟨rfl, h⟩; have H1 := Lib.hid h; clear h hR)
        | (go_at_call 15; refine (zo_sweep H1.out ha).mono ?_; rintro r w4 ⟨rfl, rfl⟩)
        | (go_at_call 17; refine (zo_marked H1.out has).mono ?_; rintro r w4 ⟨rfl, rfl⟩)
        | (go_at_call 16; refine (zo_info H1.out).mono ?_; rintro r w5 ⟨rfl, hx⟩; have H2 := Lib.hid (AwS.later H1.out hx); clear hx)
        | (go_at_call 12; refine (zo_next H2.out HT1.out hn).mono ?_; rintro r w6 ⟨rfl, h⟩; have H3 := Lib.hid h; clear h)
        | (go_at_call 13; refine (zo_used H3.out k (by omega) hn).mono ?_; rintro r w7 ⟨rfl, rfl⟩)
        | (go_at_call 10; refine (awake_any _ (HT1.out.later H3.out.ext)).mono ?_; rintro r w8 ⟨rfl, hx⟩; have HX := Lib.hid ((HX1.out.trans H3.out.ext).trans hx); clear hx))
      go_ret
      exact ⟨rfl, HX.out⟩

end Go.Proofs.YticaamdghjfifaaDoor
