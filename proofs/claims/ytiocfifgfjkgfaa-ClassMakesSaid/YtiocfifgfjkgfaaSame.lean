/- The contract of same, for lists that are alike. -/
import Derived.Test.YtiocfifgfjkgfaaWaste
namespace Go.Proofs.Ytiocfifgfjkgfaa
open Go.RowKit
set_option linter.unusedVariables false

/-- a value that is a list of classes in this world: nil, or a block of its own. -/
def IsList (w : World) (v : Value) (l : List Cl) : Prop := (l = [] ∧ v = .slice none 0 0) ∨ ∃ g cap, v = .slice (some ⟨g, 0, none⟩) l.length cap ∧ ListAt w g l

set_option maxHeartbeats 1000000 in
theorem same_two (g g' cap cap' : Nat) (l : List Cl) (w : World) (hl : l.length ≤ 2002) (h : ListAt w g l) (h' : ListAt w g' l) :
    Calls Try.prog 11 #[.slice (some ⟨g, 0, none⟩) l.length cap, .slice (some ⟨g', 0, none⟩) l.length cap'] w fun r w' => r = .returned (.bool true) ∧ ∃ n, w' = w.drewN n := by
  have H := Lib.hid h
  have H' := Lib.hid h'
  clear h h'
  go_enter Try.func11, Try.ntmps11
  go_wp2_with fail
  go_loopw [5] (fun a wr => ∃ j n : Nat, j ≤ l.length ∧ a = .int .i64 j ∧ wr = w.drewN n) (fun a _ => (l.length - intOf a).toNat)
  case atStart => exact ⟨0, 0, Nat.zero_le _, rfl, rfl⟩
  case round =>
    obtain ⟨j, n, hj, rfl, rfl⟩ := hrel
    by_cases hlt : j < l.length
    · obtain ⟨e0, e1, e2, e3⟩ := H.out.four j hlt
      obtain ⟨f0, f1, f2, f3⟩ := H'.out.four j hlt
      generalize l.getD j zeroC = c at *
      obtain ⟨ca, cb, cc, cd⟩ := c
      dsimp only at *
      go_wp2_with fail
      go_quiet (fail)
      go_wp2
      go_roundw
      case rel => exact ⟨j + 1, _, hlt, by go_num, by first | rfl | rw [World.drewN_drewN]⟩
      case measure => simp [intOf]; omega
    · obtain rfl : j = l.length := by omega
      go_wp2
      go_ret
      exact ⟨rfl, n, rfl⟩

end Go.Proofs.Ytiocfifgfjkgfaa
