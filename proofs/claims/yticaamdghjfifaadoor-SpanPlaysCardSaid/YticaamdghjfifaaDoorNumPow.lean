/- The contract of num.Pow. -/
import Derived.Test.YticaamdghjfifaaDoorRows
import Derived.Test.YticaamdghjfifaaDoorNumPlain
import Derived.WalkKit
import Derived.WalkSpells
import Derived.WalkLawsBesides
import Derived.ProofKit
import Derived.OpenShut
import Derived.Handy
import Derived.Lib.Hide
namespace Go.Proofs.YticaamdghjfifaaDoor
open Go.RowKit
set_option linter.unusedVariables false

theorem pow_any (n : Int) (w : World) (h0 : 0 ≤ n) (h1 : n ≤ 18446744073709551615) : Calls Tryd.prog 49 #[.int .u64 n] w fun e w' => e = .returned (.bool (powB n)) ∧ w = w' := by
  by_cases h : n = 0
  · subst h
    go_enter Tryd.func49, Tryd.ntmps49
    go_wp2
    go_ret
    exact ⟨rfl, rfl⟩
  · have hb : (n != 0) = true := by simpa using h
    have HP := Lib.hid (pow_bits n (by omega) h1)
    go_enter Tryd.func49, Tryd.ntmps49
    go_wp2
    go_ret
    exact ⟨by rw [← HP.out]; rfl, rfl⟩

end Go.Proofs.YticaamdghjfifaaDoor
