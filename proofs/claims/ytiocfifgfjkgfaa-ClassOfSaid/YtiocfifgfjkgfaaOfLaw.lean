/- The walk of the law ClassOf. -/
import Derived.Test.YtiocfifgfjkgfaaRefOf
import Derived.Test.YtiocfifgfjkgfaaPowers
namespace Go.Proofs.Ytiocfifgfjkgfaa
open Go.RowKit
set_option linter.unusedVariables false

/-- what Of answers. -/
def ofT (s : Int) : Value := if s < 0 ∨ 32768 < s then .tuple #[.int .i64 0, .int .i64 1] else .tuple #[.int .i64 ((ofV s : Int) + 1), .int .i64 0]
def roundT (n : Int) : Value := if 1099511627776 < n then .tuple #[.int .u64 0, .int .i64 2] else .tuple #[.int .u64 (rV n), .int .i64 0]

theorem of_all (s : Int) (w : World) : Calls Try.prog 14 #[.int .i64 s] w fun r w' => r = .returned (ofT s) ∧ Ext w w' := by
  unfold ofT
  by_cases h : s < 0 ∨ 32768 < s
  · rw [if_pos h]; exact of_no s w h
  · rw [if_neg h]; exact of_yes s w (by omega) (by omega)
theorem rof_all (s : Int) (w : World) : Calls Try.prog 15 #[.int .i64 s] w fun r w' => r = .returned (ofT s) ∧ Ext w w' := by
  unfold ofT
  by_cases h : s < 0 ∨ 32768 < s
  · rw [if_pos h]; exact rof_no s w h
  · rw [if_neg h]; exact rof_yes s w (by omega) (by omega)
theorem round_all (n : Int) (w : World) (h0 : 0 ≤ n) (h1 : n ≤ 18446744073709551615) : Calls Try.prog 16 #[.int .u64 n] w fun r w' => r = .returned (roundT n) ∧ Ext w w' := by
  unfold roundT
  by_cases h : 1099511627776 < n
  · rw [if_pos h]; exact (round_long n w h h1).mono fun _ _ ⟨a, b⟩ => ⟨a, b ▸ Ext.refl _⟩
  · rw [if_neg h]; exact round_any n w h0 (by omega)
theorem rround_all (n : Int) (w : World) (h0 : 0 ≤ n) (h1 : n ≤ 18446744073709551615) : Calls Try.prog 17 #[.int .u64 n] w fun r w' => r = .returned (roundT n) ∧ Ext w w' := by
  unfold roundT
  by_cases h : 1099511627776 < n
  · rw [if_pos h]; exact rround_long n w h h1
  · rw [if_neg h]
    unfold rV
    by_cases c : n ≤ 32768
    · rw [if_pos c]; exact rround_small n w h0 c
    · rw [if_neg c]; exact rround_big n w (by omega) (by omega)

theorem ofT_form (s : Int) : ∃ a e : Int, ofT s = .tuple #[.int .i64 a, .int .i64 e] := by
  unfold ofT; split
  · exact ⟨_, _, rfl⟩
  · exact ⟨_, _, rfl⟩
theorem roundT_form (n : Int) : ∃ a e : Int, roundT n = .tuple #[.int .u64 a, .int .i64 e] := by
  unfold roundT; split
  · exact ⟨_, _, rfl⟩
  · exact ⟨_, _, rfl⟩

set_option maxHeartbeats 1000000 in
theorem walk_ClassOf (s : Int) (ws : (Lit.int .i64 s).wf = true) (n : Int) (wn : (Lit.int .u64 n).wf = true) (W : World) : Calls Try.prog 4 #[.int .i64 s, .int .u64 n] W fun r w' => r = .returned (.bool true) ∧ Ext W w' := by
  obtain ⟨n0, n1⟩ := u64_of wn
  obtain ⟨a, e, h1⟩ := ofT_form s
  obtain ⟨b, f, h2⟩ := roundT_form n
  have H1 := Lib.hid h1
  have H2 := Lib.hid h2
  clear h1 h2
  go_enter Try.func4, Try.ntmps4
  go_wp2_with fail
  refine (of_all s _).mono ?_
  rintro r w1 ⟨rfl, hx1⟩
  rw [H1.out]
  go_wp2_with fail
  refine (rof_all s _).mono ?_
  rintro r w2 ⟨rfl, hx2⟩
  rw [H1.out]
  go_wp2_with fail
  refine (round_all n _ n0 n1).mono ?_
  rintro r w3 ⟨rfl, hx3⟩
  rw [H2.out]
  go_wp2_with fail
  refine (rround_all n _ n0 n1).mono ?_
  rintro r w4 ⟨rfl, hx4⟩
  rw [H2.out]
  have HX := Lib.hid ((hx1.trans hx2).trans (hx3.trans hx4))
  clear hx1 hx2 hx3 hx4
  go_wp2_with (go_at_call 13; refine (awake_any _).mono ?_; rintro r w6 ⟨rfl, hx6⟩)
  go_ret
  exact ⟨rfl, HX.out.trans hx6⟩

end Go.Proofs.Ytiocfifgfjkgfaa
