/- The table of classes in memory (common/XTabW without what class.Of asks). -/
import Derived.Test.YticaamdghjfifaaDoorMake
import Derived.Test.YticaamdghjfifaaDoorTable
import Derived.Test.YticaamdghjfifaaDoorLater
namespace Go.Proofs.YticaamdghjfifaaDoor
open Go.RowKit
set_option linter.unusedVariables false

/-- what a call of Table leaves. -/
def TabPost (W : World) (r : Ending) (w : World) : Prop := ∃ v, r = .returned v ∧ w.ownsRow W.heap.size 33 4 v 68 (cls tabC) ∧ Ext W w

theorem table_any (w : World) : Calls Tryd.prog 9 #[] w (TabPost w) := by
  have hok : makeOk 8192 32768 = true := by decide +kernel
  have hp : Hid (powB 8192 = true) := Lib.hid (by decide +kernel)
  have hm : Hid (powB 32768 = true) := Lib.hid (by decide +kernel)
  have HT := Lib.hid table_is
  go_enter Tryd.func9, Tryd.ntmps9
  go_wp2_with fail
  refine (make_yes 8192 32768 _ hok (by omega) (by omega) (by omega) (by omega) hp hm).mono ?_
  rintro r w1 ⟨v, rfl, ho, hx⟩
  rw [HT.out, tab_len] at ho
  have HO := Lib.hid ho
  have HX := Lib.hid hx
  clear ho hx
  go_wp2_with fail
  go_ret
  exact ⟨v, rfl, HO.out, HX.out⟩

/-- a table in memory, opened. -/
structure TabAt (w : World) (g : Nat) : Prop where
  lt : g < w.heap.size
  all : ∀ j, j < 272 → w.cell? ⟨g, j, none⟩ = (cls tabC)[j]?

theorem TabAt.ext {w w' : World} {g : Nat} (h : TabAt w g) (hx : Ext w w') : TabAt w' g :=
  ⟨Nat.lt_of_lt_of_le h.lt hx.size, fun i hi => (hx.cell _ _ h.lt).trans (h.all i hi)⟩

theorem TabAt.a {w : World} {g : Nat} (h : TabAt w g) (i : Nat) (hi : i < 68) : w.cell? ⟨g, i * 4, none⟩ = some (.int .i64 (sz i)) := by
  have hi' : i < tabC.length := by rw [tab_len]; exact hi
  rw [h.all (i * 4) (by omega), (cls_at tabC i hi').1]
  simp [sz, List.getD, hi']

theorem tab_open {w : World} {B : Nat} {v : Value} (h : w.ownsRow B 33 4 v 68 (cls tabC)) : ∃ g cap, v = .slice (some ⟨g, 0, none⟩) 68 cap ∧ B ≤ g ∧ 68 ≤ cap ∧ cap ≤ maxLen ∧ TabAt w g := by
  obtain ⟨g, cap, rfl, hb, hg, hc, hm⟩ := own_form (n := 67) h
  exact ⟨g, cap, rfl, hb, hc, hm, hg, fun j hj => h.cellAt j (by omega)⟩


theorem TabAt.row {w : World} {g : Nat} (h : TabAt w g) (i : Nat) (hi : i < 68) : w.cell? ⟨g, i * 4, none⟩ = some (.int .i64 (tabC.getD i zeroC).a) ∧ w.cell? ⟨g, i * 4 + 1, none⟩ = some (.int .i64 (tabC.getD i zeroC).b) ∧ w.cell? ⟨g, i * 4 + 2, none⟩ = some (.int .i64 (tabC.getD i zeroC).c) ∧ w.cell? ⟨g, i * 4 + 3, none⟩ = some (.int .u32 (tabC.getD i zeroC).d) := by
  have hi' : i < tabC.length := by rw [tab_len]; exact hi
  obtain ⟨c1, c2, c3, c4⟩ := cls_at tabC i hi'
  rw [h.all (i * 4) (by omega), h.all (i * 4 + 1) (by omega), h.all (i * 4 + 2) (by omega), h.all (i * 4 + 3) (by omega), c1, c2, c3, c4]
  simp [List.getD, hi']

end Go.Proofs.YticaamdghjfifaaDoor
