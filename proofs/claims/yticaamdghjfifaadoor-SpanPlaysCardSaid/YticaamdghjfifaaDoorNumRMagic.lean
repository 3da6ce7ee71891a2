/- The contract of the reference Magic. -/
import Derived.Test.YticaamdghjfifaaDoorRows
import Derived.Test.YticaamdghjfifaaDoorNumPlain
import Derived.WalkKit
import Derived.WalkSpells
import Derived.WalkLawsBesides
import Derived.ProofKit
import Derived.OpenShut
import Derived.Handy
import Derived.Lib.Hide
namespace Go.Proofs.YticaamdghjfifaaDoor
open Go.RowKit
set_option linter.unusedVariables false

theorem rmagic_any (d : Int) (w : World) (h0 : 0 ≤ d) (h1 : d ≤ 4294967295) : Calls Tryd.prog 54 #[.int .u32 d] w fun e w' => e = .returned (.int .u32 (magicV d)) ∧ w = w' := by
  by_cases h : d < 2
  · have HT := Lib.hid (show magicV d = 0 by unfold magicV; rw [if_pos h])
    go_enter Tryd.func54, Tryd.ntmps54
    go_wp2
    go_ret
    exact ⟨by rw [HT.out]; rfl, rfl⟩
  · have HT := Lib.hid (show magicV d = 4294967295 / d + 1 by unfold magicV; rw [if_neg h])
    have hq : 4294967295 / d ≤ 2147483647 := by
      have : 4294967295 / d < 2147483648 := Int.ediv_lt_of_lt_mul (by omega) (by omega)
      omega
    have hq0 : 0 ≤ 4294967295 / d := Int.ediv_nonneg (by omega) (by omega)
    go_enter Tryd.func54, Tryd.ntmps54
    go_wp2
    go_ret
    exact ⟨by rw [HT.out]; rfl, rfl⟩

end Go.Proofs.YticaamdghjfifaaDoor
