/- The walk of SpanSlots, joined. -/
import Derived.Test.YticaamdghjfifaaDoorSlots
namespace Go.Proofs.YticaamdghjfifaaDoor
open Go.RowKit
set_option linter.unusedVariables false

set_option maxRecDepth 20000 in
set_option maxHeartbeats 4000000 in
theorem slots_out (c p a : Int) (W : World) (ht : TzAt W) (h : c < 1 ∨ 68 ≤ c ∨ 17179869184 < p) : Calls Tryd.prog 5 #[.int .i64 c, .int .u64 p, .int .u64 a] W fun r w' => r = .returned (.bool true) ∧ Ext W w' := by
  have HT := Lib.hid ht
  clear ht
  by_cases h1 : c < 1
  · have k1 : decide (c < 1) = true := decide_eq_true h1
    clear h
    go_enter Tryd.func5, Tryd.ntmps5
    go_wp2_with (first
      | (go_at_call 9; refine (table_any _).mono ?_; rintro r w1 ⟨v, rfl, ho, hx⟩; obtain ⟨gt, cap, rfl, hBg, hcap, hcm, hT⟩ := tab_open ho; clear ho; have HX1 := Lib.hid hx; clear hx)
      | (go_at_call 10; refine (awake_any _ (HT.out.later HX1.out)).mono ?_; rintro r w8 ⟨rfl, hx⟩; have HX := Lib.hid (HX1.out.trans hx); clear hx))
    go_ret
    exact ⟨rfl, HX.out⟩
  have k1 : decide (c < 1) = false := decide_eq_false h1
  by_cases h2 : 68 ≤ c
  · have k2 : decide (68 ≤ c) = true := decide_eq_true h2
    clear h
    go_enter Tryd.func5, Tryd.ntmps5
    go_wp2_with (first
      | (go_at_call 9; refine (table_any _).mono ?_; rintro r w1 ⟨v, rfl, ho, hx⟩; obtain ⟨gt, cap, rfl, hBg, hcap, hcm, hT⟩ := tab_open ho; clear ho; have HX1 := Lib.hid hx; clear hx)
      | (go_at_call 10; refine (awake_any _ (HT.out.later HX1.out)).mono ?_; rintro r w8 ⟨rfl, hx⟩; have HX := Lib.hid (HX1.out.trans hx); clear hx))
    go_ret
    exact ⟨rfl, HX.out⟩
  have k2 : decide (68 ≤ c) = false := decide_eq_false h2
  have k3 : decide (17179869184 < p) = true := decide_eq_true (by omega)
  clear h
  go_enter Tryd.func5, Tryd.ntmps5
  go_wp2_with (first
    | (go_at_call 9; refine (table_any _).mono ?_; rintro r w1 ⟨v, rfl, ho, hx⟩; obtain ⟨gt, cap, rfl, hBg, hcap, hcm, hT⟩ := tab_open ho; clear ho; have HX1 := Lib.hid hx; clear hx)
    | (go_at_call 10; refine (awake_any _ (HT.out.later HX1.out)).mono ?_; rintro r w8 ⟨rfl, hx⟩; have HX := Lib.hid (HX1.out.trans hx); clear hx))
  go_ret
  exact ⟨rfl, HX.out⟩

theorem sl_u64 {a : Int} (h : (Lit.int .u64 a).wf = true) : 0 ≤ a ∧ a ≤ 18446744073709551615 := by
  simp [Lit.wf, IntKind.min, IntKind.max, IntKind.signed, IntKind.bits] at h; omega

theorem walk_SpanSlots (c : Int) (w0 : (Lit.int .i64 c).wf = true) (p : Int) (w1 : (Lit.int .u64 p).wf = true) (a : Int) (w2 : (Lit.int .u64 a).wf = true) (W : World) (ht : TzAt W) : Calls Tryd.prog 5 #[.int .i64 c, .int .u64 p, .int .u64 a] W fun r w' => r = .returned (.bool true) ∧ Ext W w' := by
  have hp := sl_u64 w1
  have ha := sl_u64 w2
  by_cases h : c < 1 ∨ 68 ≤ c ∨ 17179869184 < p
  · exact slots_out c p a W ht h
  · obtain ⟨k, rfl⟩ : ∃ k : Nat, c = k := ⟨c.toNat, by omega⟩
    obtain ⟨m, rfl⟩ : ∃ m : Nat, p = m := ⟨p.toNat, by omega⟩
    obtain ⟨q, rfl⟩ : ∃ q : Nat, a = q := ⟨a.toNat, by omega⟩
    exact slots_in k m q W ht (by omega) (by omega) (by omega) (by omega)

end Go.Proofs.YticaamdghjfifaaDoor
