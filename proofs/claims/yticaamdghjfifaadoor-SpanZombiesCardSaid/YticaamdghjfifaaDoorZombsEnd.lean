/- The walk of SpanZombies, joined. -/
import Derived.Test.YticaamdghjfifaaDoorZombsAll
namespace Go.Proofs.YticaamdghjfifaaDoor
open Go.RowKit
set_option linter.unusedVariables false

theorem walk_SpanZombies (c : Int) (w0 : (Lit.int .i64 c).wf = true) (n : Int) (w1 : (Lit.int .i64 n).wf = true) (a : Int) (w2 : (Lit.int .i64 a).wf = true) (W : World) (ht : TzAt W) : Calls Tryd.prog 4 #[.int .i64 c, .int .i64 n, .int .i64 a] W fun r w' => r = .returned (.bool true) ∧ Ext W w' := by
  by_cases h : c < 1 ∨ 68 ≤ c
  · exact zombs_class c n a W ht h
  · obtain ⟨k, rfl⟩ : ∃ k : Nat, c = k := ⟨c.toNat, by omega⟩
    by_cases h2 : 0 ≤ n ∧ n < slN k ∧ n ≤ a ∧ a < slN k ∧ n ≤ 500
    · obtain ⟨m, rfl⟩ : ∃ m : Nat, n = m := ⟨n.toNat, by omega⟩
      obtain ⟨q, rfl⟩ : ∃ q : Nat, a = q := ⟨a.toNat, by omega⟩
      exact zombs_in k m q W ht (by omega) (by omega) (by omega) (by omega) (by omega) (by omega)
    · exact zombs_out k n a W ht (by omega) (by omega) h2

end Go.Proofs.YticaamdghjfifaaDoor
