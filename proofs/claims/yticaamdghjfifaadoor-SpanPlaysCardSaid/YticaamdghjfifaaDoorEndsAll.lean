/- The walk of SpanEnds, of whatever numbers. -/
import Derived.Test.YticaamdghjfifaaDoorEndsW
namespace Go.Proofs.YticaamdghjfifaaDoor
open Go.RowKit
set_option linter.unusedVariables false

set_option maxHeartbeats 2000000 in
theorem ends_out (n e : Int) (W : World) (h : ¬ (0 ≤ n ∧ n ≤ 8 ∧ 8 ≤ e ∧ e ≤ 8192)) : Calls Tryd.prog 7 #[.int .i64 n, .int .i64 e] W fun r w' => r = .returned (.bool true) ∧ Ext W w' := by
  by_cases h1 : n < 0
  · have k1 : decide (n < 0) = true := decide_eq_true h1
    clear h
    go_enter Tryd.func7, Tryd.ntmps7
    go_wp2
    go_ret
    exact ⟨rfl, Ext.refl _⟩
  · have k1 : decide (n < 0) = false := decide_eq_false h1
    by_cases h2 : 8 < n
    · have k2 : decide (8 < n) = true := decide_eq_true h2
      clear h
      go_enter Tryd.func7, Tryd.ntmps7
      go_wp2
      go_ret
      exact ⟨rfl, Ext.refl _⟩
    · have k2 : decide (8 < n) = false := decide_eq_false h2
      by_cases h3 : e < 8
      · have k3 : decide (e < 8) = true := decide_eq_true h3
        clear h
        go_enter Tryd.func7, Tryd.ntmps7
        go_wp2
        go_ret
        exact ⟨rfl, Ext.refl _⟩
      · have k3 : decide (e < 8) = false := decide_eq_false h3
        have h4 : 8192 < e := by omega
        have k4 : decide (8192 < e) = true := decide_eq_true h4
        clear h
        go_enter Tryd.func7, Tryd.ntmps7
        go_wp2
        go_ret
        exact ⟨rfl, Ext.refl _⟩

theorem walk_SpanEnds (n : Int) (w1 : (Lit.int .i64 n).wf = true) (e : Int) (w2 : (Lit.int .i64 e).wf = true) (W : World) (ht : TzAt W) : Calls Tryd.prog 7 #[.int .i64 n, .int .i64 e] W fun r w' => r = .returned (.bool true) ∧ Ext W w' := by
  by_cases h : 0 ≤ n ∧ n ≤ 8 ∧ 8 ≤ e ∧ e ≤ 8192
  · obtain ⟨m, rfl⟩ : ∃ m : Nat, n = m := ⟨n.toNat, by omega⟩
    obtain ⟨k, rfl⟩ : ∃ k : Nat, e = k := ⟨e.toNat, by omega⟩
    exact ends_in m k W ht (by omega) (by omega) (by omega)
  · exact ends_out n e W h

end Go.Proofs.YticaamdghjfifaaDoor
