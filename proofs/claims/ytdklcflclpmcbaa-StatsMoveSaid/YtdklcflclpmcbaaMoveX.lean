/- The law StatsMove: its lists out of bounds, and all of it together. -/
import Derived.Test.YtdklcflclpmcbaaMoveW
namespace Go.Proofs.Ytdklcflclpmcbaa
open Go.RowKit
set_option linter.unusedVariables false

set_option maxHeartbeats 1000000 in
theorem move_out (x : Int) (p : Option Addr) (len cap : Nat) (i j : Int) (w : World) (hm : len ≤ 9223372036854775807) (h : x < 1 ∨ 64 < x ∨ 200 < len) :
    Calls Try.prog 6 #[.int .i64 x, .slice p len cap, .int .i64 i, .int .i64 j] w fun r w' => r = .returned (.bool true) ∧ Ext w w' := by
  by_cases h1 : x < 1
  · have k1 : decide (x < 1) = true := decide_eq_true h1
    clear h
    go_enter Try.func6, Try.ntmps6
    go_wp2
    go_ret
    exact ⟨rfl, Ext.refl _⟩
  by_cases h2 : 64 < x
  · have k1 : decide (x < 1) = false := decide_eq_false (by omega)
    have k2 : decide (64 < x) = true := decide_eq_true h2
    clear h
    go_enter Try.func6, Try.ntmps6
    go_wp2
    go_ret
    exact ⟨rfl, Ext.refl _⟩
  have h3 : 200 < len := by omega
  have k1 : decide (x < 1) = false := decide_eq_false (by omega)
  have k2 : decide (64 < x) = false := decide_eq_false (by omega)
  have k3 : decide (200 < (len : Int)) = true := decide_eq_true (by omega)
  clear h
  go_enter Try.func6, Try.ntmps6
  go_wp2
  go_ret
  exact ⟨rfl, Ext.refl _⟩

theorem walk_StatsMove {W : World} (x : Int) (wx : (Lit.int .i64 x).wf = true) (v : Value) (zs : List Int) (hl : (∀ n ∈ zs, (Lit.int .u64 n).wf = true) ∧ zs.length ≤ maxLen ∧
      ((v = .slice none 0 0 ∧ zs = []) ∨ ∃ b off cap, v = .slice (some ⟨b, off, none⟩) zs.length cap ∧ b < W.heap.size ∧ ∀ i (hi : i < zs.length), W.cell? ⟨b, off + i, none⟩ = some (.int .u64 zs[i])))
    (i : Int) (wi : (Lit.int .i64 i).wf = true) (j : Int) (wj : (Lit.int .i64 j).wf = true) :
    Calls Try.prog 6 #[.int .i64 x, v, .int .i64 i, .int .i64 j] W fun r w' => r = .returned (.bool true) ∧ Ext W w' := by
  obtain ⟨-, hm, hv⟩ := hl
  unfold maxLen at hm
  rcases hv with ⟨rfl, rfl⟩ | ⟨b, off, cap, rfl, hb, hc⟩
  · by_cases h : x < 1 ∨ 64 < x
    · exact move_out x none 0 0 i j W (by omega) (by omega)
    · have := move_row x.toNat none 0 [] i j W (by omega) (by omega) (by simp) (Lib.hid (.inl rfl))
      rwa [show ((x.toNat : Nat) : Int) = x by omega] at this
  · by_cases h : x < 1 ∨ 64 < x ∨ 200 < zs.length
    · exact move_out x _ _ cap i j W (by omega) h
    · have := move_row x.toNat (some ⟨b, off, none⟩) cap zs i j W (by omega) (by omega) (by omega) (Lib.hid (.inr ⟨b, off, rfl, hb, hc⟩))
      rwa [show ((x.toNat : Nat) : Int) = x by omega] at this

end Go.Proofs.Ytdklcflclpmcbaa
