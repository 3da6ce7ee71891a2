/- The contract of kept. -/
import Derived.Test.YtbfnadfbanhgcaaOwn
import Derived.Test.YtbfnadfbanhgcaaOther
import Derived.Deep.QuietTactic
import Derived.BigQuiet
import Derived.RegionTactic
namespace Go.Proofs.Ytbfnadfbanhgcaa
open Go.RowKit
set_option linter.unusedVariables false


set_option maxHeartbeats 1000000 in
theorem kept_nil (W : World) (vg : Value) (w : World) (h : OwnAt W w vg []) : Calls Try.prog 15 #[vg, .slice none 0 0] w fun r w' => r = .returned (.bool true) ∧ Ext w w' := by
  obtain ⟨g, cap, rfl, h2, h3, h4, h5, h6⟩ := h
  have c0 : w.cell? ⟨g, 0, none⟩ = some (.int .i64 171) := (h6 0 (by simp)).1
  have hc : 1 ≤ cap := by have := h2; simp at this; omega
  unfold maxLen at h3
  simp only [List.length_nil]
  clear h6 h2
  go_enter Try.func15, Try.ntmps15
  go_wp2
  refine wp_loop_rounds 1 ?_
  rw [rounds_succ]
  go_wp2
  go_ret
  exact ⟨rfl, Ext.refl _⟩

set_option maxHeartbeats 1000000 in
theorem kept_row (g cap b off cap2 : Nat) (l : List Sm) (w : World) (h2 : l.length < cap) (h3 : cap ≤ maxLen) (h5 : g < w.heap.size) (h6 : Hid (SumsAt w g 0 (l ++ [⟨171, 0, 0⟩]))) (h7 : Hid (SumsAt w b off l)) :
    Calls Try.prog 15 #[.slice (some ⟨g, 0, none⟩) l.length cap, .slice (some ⟨b, off, none⟩) l.length cap2] w fun r w' => r = .returned (.bool true) ∧ Ext w w' := by
  have cm : w.cell? ⟨g, l.length * 3, none⟩ = some (.int .i64 171) := by
    have := (h6.out l.length (by simp)).1
    simpa using this
  have h3' : cap ≤ 9223372036854775807 := by unfold maxLen at h3; omega
  clear h3
  go_enter Try.func15, Try.ntmps15
  go_wp2
  go_loopw [5] (fun i wr => ∃ (k : Nat), k ≤ l.length ∧ i = .int .i64 k ∧ ∃ n, wr = w.drewN n) (fun i _ => l.length - (intOf i).toNat)
  case atStart => exact ⟨0, Nat.zero_le _, rfl, 0, rfl⟩
  case round =>
    obtain ⟨k, hk, rfl, n, rfl⟩ := hrel
    by_cases hlt : k < l.length
    · obtain ⟨a1, a2, a3⟩ := h6.out k (by simp; omega)
      obtain ⟨b1, b2, b3⟩ := h7.out k hlt
      rw [List.getElem_append_left hlt, Nat.zero_add] at a1 a2 a3
      go_wp2
      go_quiet (fail)
      go_wp2
      go_roundw
      case rel => exact ⟨k + 1, hlt, by go_num, _, rfl⟩
      case measure => simp [intOf]; omega
    · obtain rfl : k = l.length := by omega
      go_wp2
      go_ret
      exact ⟨rfl, (Ext.refl _).drewN _⟩

theorem kept_any (W : World) (vg vl : Value) (l : List Sm) (w : World) (h : OwnAt W w vg l) (hl : SlAt w vl l) : Calls Try.prog 15 #[vg, vl] w fun r w' => r = .returned (.bool true) ∧ Ext w w' := by
  rcases hl with ⟨rfl, rfl⟩ | ⟨b, off, cap2, rfl, hb, hc⟩
  · exact kept_nil W vg w h
  · obtain ⟨g, cap, rfl, h2, h3, h4, h5, h6⟩ := h
    exact kept_row g cap b off cap2 l w h2 h3 h5 (Lib.hid h6) (Lib.hid hc)

end Go.Proofs.Ytbfnadfbanhgcaa
