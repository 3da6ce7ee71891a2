/- The contract of num.Quot. -/
import Derived.Test.YticaamdghjfifaaDoorRows
import Derived.Test.YticaamdghjfifaaDoorNumPlain
import Derived.WalkKit
import Derived.WalkSpells
import Derived.WalkLawsBesides
import Derived.ProofKit
import Derived.OpenShut
import Derived.Handy
import Derived.Lib.Hide
namespace Go.Proofs.YticaamdghjfifaaDoor
open Go.RowKit
set_option linter.unusedVariables false

theorem mul_range {x m : Int} (h0 : 0 ≤ x) (h1 : x ≤ 4294967295) (g0 : 0 ≤ m) (g1 : m ≤ 4294967295) : 0 ≤ x * m ∧ x * m ≤ 18446744065119617025 := by
  refine ⟨Int.mul_nonneg h0 g0, ?_⟩
  have := Int.mul_le_mul h1 g1 g0 (by omega : (0 : Int) ≤ 4294967295)
  omega

theorem quot_any (x m : Int) (w : World) (h0 : 0 ≤ x) (h1 : x ≤ 4294967295) (g0 : 0 ≤ m) (g1 : m ≤ 4294967295) : Calls Tryd.prog 34 #[.int .u32 x, .int .u32 m] w fun e w' => e = .returned (.int .u32 (quotV x m)) ∧ w = w' := by
  obtain ⟨r0, r1⟩ := mul_range h0 h1 g0 g1
  go_enter Tryd.func34, Tryd.ntmps34
  go_wp2
  go_ret
  exact ⟨rfl, rfl⟩

end Go.Proofs.YticaamdghjfifaaDoor
