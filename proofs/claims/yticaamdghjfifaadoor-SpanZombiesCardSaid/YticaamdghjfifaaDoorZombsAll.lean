/- The walk of SpanZombies, of whatever numbers. -/
import Derived.Test.YticaamdghjfifaaDoorZombsW
namespace Go.Proofs.YticaamdghjfifaaDoor
open Go.RowKit
set_option linter.unusedVariables false

set_option maxRecDepth 20000 in
set_option maxHeartbeats 4000000 in
theorem zombs_class (c n a : Int) (W : World) (ht : TzAt W) (h : c < 1 ∨ 68 ≤ c) : Calls Tryd.prog 4 #[.int .i64 c, .int .i64 n, .int .i64 a] W fun r w' => r = .returned (.bool true) ∧ Ext W w' := by
  have HT := Lib.hid ht
  clear ht
  by_cases h1 : c < 1
  · have k1 : decide (c < 1) = true := decide_eq_true h1
    go_enter Tryd.func4, Tryd.ntmps4
    go_wp2_with (first
      | (go_at_call 9; refine (table_any _).mono ?_; rintro r w1 ⟨v, rfl, ho, hx⟩; obtain ⟨gt, cap, rfl, hBg, hcap, hcm, hT⟩ := tab_open ho; clear ho; have HX1 := Lib.hid hx; clear hx)
      | (go_at_call 10; refine (awake_any _ (HT.out.later HX1.out)).mono ?_; rintro r w8 ⟨rfl, hx⟩; have HX := Lib.hid (HX1.out.trans hx); clear hx))
    go_ret
    exact ⟨rfl, HX.out⟩
  · have k1 : decide (c < 1) = false := decide_eq_false h1
    have k2 : decide (c < 68) = false := decide_eq_false (by omega)
    go_enter Tryd.func4, Tryd.ntmps4
    go_wp2_with (first
      | (go_at_call 9; refine (table_any _).mono ?_; rintro r w1 ⟨v, rfl, ho, hx⟩; obtain ⟨gt, cap, rfl, hBg, hcap, hcm, hT⟩ := tab_open ho; clear ho; have HX1 := Lib.hid hx; clear hx)
      | (go_at_call 10; refine (awake_any _ (HT.out.later HX1.out)).mono ?_; rintro r w8 ⟨rfl, hx⟩; have HX := Lib.hid (HX1.out.trans hx); clear hx))
    go_ret
    exact ⟨rfl, HX.out⟩

set_option maxRecDepth 20000 in
set_option maxHeartbeats 8000000 in
theorem zombs_out (c : Nat) (n a : Int) (W : World) (ht : TzAt W) (hc0 : 1 ≤ c) (hc : c ≤ 67) (h : ¬ (0 ≤ n ∧ n < slN c ∧ n ≤ a ∧ a < slN c ∧ n ≤ 500)) : Calls Tryd.prog 4 #[.int .i64 c, .int .i64 n, .int .i64 a] W fun r w' => r = .returned (.bool true) ∧ Ext W w' := by
  have HT := Lib.hid ht
  clear ht
  have hsl := (tabN_fit c (by omega)).2.2.1
  have HR := Lib.hid (tabN_all c (by omega))
  by_cases h0 : n < 0
  · have k0 : decide (n < 0) = true := decide_eq_true h0
    clear h
    go_enter Tryd.func4, Tryd.ntmps4
    go_wp2_with (first
      | (go_at_call 9; refine (table_any _).mono ?_; rintro r w1 ⟨v, rfl, ho, hx⟩; obtain ⟨gt, cap, rfl, hBg, hcap, hcm, hT⟩ := tab_open ho; obtain ⟨t0, t1, t2, t3⟩ := hT.row c (by omega); rw [HR.out.2.2.1] at t2; clear t0 t1 t3 ho HR; have HX1 := Lib.hid hx; clear hx)
      | (go_at_call 10; refine (awake_any _ (HT.out.later HX1.out)).mono ?_; rintro r w8 ⟨rfl, hx⟩; have HX := Lib.hid (HX1.out.trans hx); clear hx))
    go_ret
    exact ⟨rfl, HX.out⟩
  have k0 : decide (n < 0) = false := decide_eq_false h0
  by_cases h1 : (slN c : Int) ≤ n
  · have k1 : decide ((slN c : Int) ≤ n) = true := decide_eq_true h1
    clear h
    go_enter Tryd.func4, Tryd.ntmps4
    go_wp2_with (first
      | (go_at_call 9; refine (table_any _).mono ?_; rintro r w1 ⟨v, rfl, ho, hx⟩; obtain ⟨gt, cap, rfl, hBg, hcap, hcm, hT⟩ := tab_open ho; obtain ⟨t0, t1, t2, t3⟩ := hT.row c (by omega); rw [HR.out.2.2.1] at t2; clear t0 t1 t3 ho HR; have HX1 := Lib.hid hx; clear hx)
      | (go_at_call 10; refine (awake_any _ (HT.out.later HX1.out)).mono ?_; rintro r w8 ⟨rfl, hx⟩; have HX := Lib.hid (HX1.out.trans hx); clear hx))
    go_ret
    exact ⟨rfl, HX.out⟩
  have k1 : decide ((slN c : Int) ≤ n) = false := decide_eq_false h1
  by_cases h2 : a < n
  · have k2 : decide (a < n) = true := decide_eq_true h2
    clear h
    go_enter Tryd.func4, Tryd.ntmps4
    go_wp2_with (first
      | (go_at_call 9; refine (table_any _).mono ?_; rintro r w1 ⟨v, rfl, ho, hx⟩; obtain ⟨gt, cap, rfl, hBg, hcap, hcm, hT⟩ := tab_open ho; obtain ⟨t0, t1, t2, t3⟩ := hT.row c (by omega); rw [HR.out.2.2.1] at t2; clear t0 t1 t3 ho HR; have HX1 := Lib.hid hx; clear hx)
      | (go_at_call 10; refine (awake_any _ (HT.out.later HX1.out)).mono ?_; rintro r w8 ⟨rfl, hx⟩; have HX := Lib.hid (HX1.out.trans hx); clear hx))
    go_ret
    exact ⟨rfl, HX.out⟩
  have k2 : decide (a < n) = false := decide_eq_false h2
  by_cases h3 : (slN c : Int) ≤ a
  · have k3 : decide ((slN c : Int) ≤ a) = true := decide_eq_true h3
    clear h
    go_enter Tryd.func4, Tryd.ntmps4
    go_wp2_with (first
      | (go_at_call 9; refine (table_any _).mono ?_; rintro r w1 ⟨v, rfl, ho, hx⟩; obtain ⟨gt, cap, rfl, hBg, hcap, hcm, hT⟩ := tab_open ho; obtain ⟨t0, t1, t2, t3⟩ := hT.row c (by omega); rw [HR.out.2.2.1] at t2; clear t0 t1 t3 ho HR; have HX1 := Lib.hid hx; clear hx)
      | (go_at_call 10; refine (awake_any _ (HT.out.later HX1.out)).mono ?_; rintro r w8 ⟨rfl, hx⟩; have HX := Lib.hid (HX1.out.trans hx); clear hx))
    go_ret
    exact ⟨rfl, HX.out⟩
  have k3 : decide ((slN c : Int) ≤ a) = false := decide_eq_false h3
  have k9 : decide (500 < n) = true := decide_eq_true (by omega)
  clear h
  go_enter Tryd.func4, Tryd.ntmps4
  go_wp2_with (first
    | (go_at_call 9; refine (table_any _).mono ?_; rintro r w1 ⟨v, rfl, ho, hx⟩; obtain ⟨gt, cap, rfl, hBg, hcap, hcm, hT⟩ := tab_open ho; obtain ⟨t0, t1, t2, t3⟩ := hT.row c (by omega); rw [HR.out.2.2.1] at t2; clear t0 t1 t3 ho HR; have HX1 := Lib.hid hx; clear hx)
    | (go_at_call 10; refine (awake_any _ (HT.out.later HX1.out)).mono ?_; rintro r w8 ⟨rfl, hx⟩; have HX := Lib.hid (HX1.out.trans hx); clear hx))
  go_ret
  exact ⟨rfl, HX.out⟩

end Go.Proofs.YticaamdghjfifaaDoor
