/- The walk of SpanCycle, joined. -/
import Derived.Test.YticaamdghjfifaaDoorCycW
namespace Go.Proofs.YticaamdghjfifaaDoor
open Go.RowKit
set_option linter.unusedVariables false

set_option maxRecDepth 20000 in
set_option maxHeartbeats 4000000 in
theorem cycle_out (c : Int) (p : Option Addr) (n pc : Nat) (W : World) (ht : TzAt W) (hn : n ≤ 9223372036854775807) (h : c < 10 ∨ 68 ≤ c ∨ 20 < n) : Calls Tryd.prog 3 #[.int .i64 c, .slice p n pc] W fun r w' => r = .returned (.bool true) ∧ Ext W w' := by
  have HT := Lib.hid ht
  clear ht
  by_cases h1 : c < 10
  · have k1 : decide (c < 10) = true := decide_eq_true h1
    clear h
    go_enter Tryd.func3, Tryd.ntmps3
    go_wp2_with (first
      | (go_at_call 9; refine (table_any _).mono ?_; rintro r w1 ⟨v, rfl, ho, hx⟩; obtain ⟨gt, cap, rfl, hBg, hcap, hcm, hT⟩ := tab_open ho; clear ho; have HX1 := Lib.hid hx; clear hx)
      | (go_at_call 10; refine (awake_any _ (HT.out.later HX1.out)).mono ?_; rintro r w8 ⟨rfl, hx⟩; have HX := Lib.hid (HX1.out.trans hx); clear hx))
    go_ret
    exact ⟨rfl, HX.out⟩

  have k1 : decide (c < 10) = false := decide_eq_false h1
  by_cases h2 : 68 ≤ c
  · have k2 : decide (68 ≤ c) = true := decide_eq_true h2
    clear h
    go_enter Tryd.func3, Tryd.ntmps3
    go_wp2_with (first
      | (go_at_call 9; refine (table_any _).mono ?_; rintro r w1 ⟨v, rfl, ho, hx⟩; obtain ⟨gt, cap, rfl, hBg, hcap, hcm, hT⟩ := tab_open ho; clear ho; have HX1 := Lib.hid hx; clear hx)
      | (go_at_call 10; refine (awake_any _ (HT.out.later HX1.out)).mono ?_; rintro r w8 ⟨rfl, hx⟩; have HX := Lib.hid (HX1.out.trans hx); clear hx))
    go_ret
    exact ⟨rfl, HX.out⟩

  have k2 : decide (68 ≤ c) = false := decide_eq_false h2
  have k3 : 20 < n := by omega
  clear h
  go_enter Tryd.func3, Tryd.ntmps3
  go_wp2_with (first
    | (go_at_call 9; refine (table_any _).mono ?_; rintro r w1 ⟨v, rfl, ho, hx⟩; obtain ⟨gt, cap, rfl, hBg, hcap, hcm, hT⟩ := tab_open ho; clear ho; have HX1 := Lib.hid hx; clear hx)
    | (go_at_call 10; refine (awake_any _ (HT.out.later HX1.out)).mono ?_; rintro r w8 ⟨rfl, hx⟩; have HX := Lib.hid (HX1.out.trans hx); clear hx))
  go_ret
  exact ⟨rfl, HX.out⟩

theorem walk_SpanCycle (c : Int) (w0 : (Lit.int .i64 c).wf = true) (v : Value) (l : Rw) {W : World} (hz : RwIn W v l) (ht : TzAt W) : Calls Tryd.prog 3 #[.int .i64 c, v] W fun r w' => r = .returned (.bool true) ∧ Ext W w' := by
  by_cases h : c < 10 ∨ 68 ≤ c ∨ 20 < l.len
  · obtain ⟨hm, p, cap, rfl, -⟩ := hz
    unfold maxLen at hm
    exact cycle_out c p l.len cap W ht (by omega) h
  · obtain ⟨k, rfl⟩ : ∃ k : Nat, c = k := ⟨c.toNat, by omega⟩
    exact cycle_in k v l W ht (by omega) (by omega) (by omega) hz

end Go.Proofs.YticaamdghjfifaaDoor
