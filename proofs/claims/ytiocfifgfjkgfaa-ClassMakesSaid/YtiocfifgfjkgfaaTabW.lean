/- The contracts of class.Table, sort.Search over its closure, class.Of, class.Round. -/
import Derived.Test.YtiocfifgfjkgfaaMake
import Derived.Test.YtiocfifgfjkgfaaTable
import Derived.Test.YtiocfifgfjkgfaaLater
import Derived.Test.YtiocfifgfjkgfaaNumUp
namespace Go.Proofs.Ytiocfifgfjkgfaa
open Go.RowKit
set_option linter.unusedVariables false

set_option maxRecDepth 100000 in
set_option maxHeartbeats 1000000 in
theorem make_no1 (p m : Int) (w : World) (h : p < 1024 ∨ 65536 < p) : Calls Try.prog 10 #[.int .i64 p, .int .i64 m] w fun r w' => r = .returned (.tuple #[.slice none 0 0, .int .i64 1]) ∧ w = w' := by
  rcases h with h | h
  · go_enter Try.func10, Try.ntmps10
    go_wp2_with fail
    go_ret2
    exact ⟨rfl, rfl⟩
  · go_enter Try.func10, Try.ntmps10
    go_wp2_with fail
    go_ret2
    exact ⟨rfl, rfl⟩

set_option maxRecDepth 100000 in
set_option maxHeartbeats 1000000 in
theorem make_no2 (p m : Int) (w : World) (h1 : 1024 ≤ p) (h2 : p ≤ 65536) (hp : Hid (powB p = false)) : Calls Try.prog 10 #[.int .i64 p, .int .i64 m] w fun r w' => r = .returned (.tuple #[.slice none 0 0, .int .i64 1]) ∧ w = w' := by
  go_enter Try.func10, Try.ntmps10
  go_wp2_with fail
  refine (pow_any p _ (by omega) (by omega)).mono ?_
  rintro e w1 ⟨rfl, rfl⟩
  rw [hp.out]
  go_wp2_with fail
  go_ret2
  exact ⟨rfl, rfl⟩

set_option maxRecDepth 100000 in
set_option maxHeartbeats 1000000 in
theorem make_no3 (p m : Int) (w : World) (h1 : 1024 ≤ p) (h2 : p ≤ 65536) (hp : Hid (powB p = true)) (h : m < 64 ∨ 4 * p < m) : Calls Try.prog 10 #[.int .i64 p, .int .i64 m] w fun r w' => r = .returned (.tuple #[.slice none 0 0, .int .i64 1]) ∧ w = w' := by
  rcases h with h | h
  · go_enter Try.func10, Try.ntmps10
    go_wp2_with fail
    refine (pow_any p _ (by omega) (by omega)).mono ?_
    rintro e w1 ⟨rfl, rfl⟩
    rw [hp.out]
    go_wp2_with fail
    go_ret2
    exact ⟨rfl, rfl⟩
  · go_enter Try.func10, Try.ntmps10
    go_wp2_with fail
    refine (pow_any p _ (by omega) (by omega)).mono ?_
    rintro e w1 ⟨rfl, rfl⟩
    rw [hp.out]
    go_wp2_with fail
    go_ret2
    exact ⟨rfl, rfl⟩

set_option maxRecDepth 100000 in
set_option maxHeartbeats 1000000 in
theorem make_no4 (p m : Int) (w : World) (h1 : 1024 ≤ p) (h2 : p ≤ 65536) (hp : Hid (powB p = true)) (h3 : 64 ≤ m) (h4 : m ≤ 4 * p) (hm : Hid (powB m = false)) : Calls Try.prog 10 #[.int .i64 p, .int .i64 m] w fun r w' => r = .returned (.tuple #[.slice none 0 0, .int .i64 1]) ∧ w = w' := by
  go_enter Try.func10, Try.ntmps10
  go_wp2_with fail
  refine (pow_any p _ (by omega) (by omega)).mono ?_
  rintro e w1 ⟨rfl, rfl⟩
  rw [hp.out]
  go_wp2_with fail
  refine (pow_any m _ (by omega) (by omega)).mono ?_
  rintro e w1 ⟨rfl, rfl⟩
  rw [hm.out]
  go_wp2_with fail
  go_ret2
  exact ⟨rfl, rfl⟩

theorem make_no (p m : Int) (w : World) (h : makeOk p m = false) : Calls Try.prog 10 #[.int .i64 p, .int .i64 m] w fun r w' => r = .returned (.tuple #[.slice none 0 0, .int .i64 1]) ∧ w = w' := by
  by_cases c1 : p < 1024 ∨ 65536 < p
  · exact make_no1 p m w c1
  · cases hp : powB p
    · exact make_no2 p m w (by omega) (by omega) (Lib.hid hp)
    · by_cases c2 : m < 64 ∨ 4 * p < m
      · exact make_no3 p m w (by omega) (by omega) (Lib.hid hp) c2
      · cases hm : powB m
        · exact make_no4 p m w (by omega) (by omega) (Lib.hid hp) (by omega) (by omega) (Lib.hid hm)
        · exfalso
          unfold makeOk at h
          rw [hp, hm, decide_eq_true ⟨by omega, by omega⟩, decide_eq_true ⟨by omega, by omega⟩] at h
          cases h

/-- what a call of Table leaves. -/
def TabPost (W : World) (r : Ending) (w : World) : Prop := ∃ v, r = .returned v ∧ w.ownsRow W.heap.size 30 4 v 68 (cls tabC) ∧ Ext W w

theorem table_any (w : World) : Calls Try.prog 12 #[] w (TabPost w) := by
  have hok : makeOk 8192 32768 = true := by decide +kernel
  have hp : Hid (powB 8192 = true) := Lib.hid (by decide +kernel)
  have hm : Hid (powB 32768 = true) := Lib.hid (by decide +kernel)
  have HT := Lib.hid table_is
  go_enter Try.func12, Try.ntmps12
  go_wp2_with fail
  refine (make_yes 8192 32768 _ hok (by omega) (by omega) (by omega) (by omega) hp hm).mono ?_
  rintro r w1 ⟨v, rfl, ho, hx⟩
  rw [HT.out, tab_len] at ho
  have HO := Lib.hid ho
  have HX := Lib.hid hx
  clear ho hx
  go_wp2_with fail
  go_ret
  exact ⟨v, rfl, HO.out, HX.out⟩

/-- a table in memory, opened. -/
structure TabAt (w : World) (g : Nat) : Prop where
  lt : g < w.heap.size
  all : ∀ j, j < 272 → w.cell? ⟨g, j, none⟩ = (cls tabC)[j]?

theorem TabAt.ext {w w' : World} {g : Nat} (h : TabAt w g) (hx : Ext w w') : TabAt w' g :=
  ⟨Nat.lt_of_lt_of_le h.lt hx.size, fun i hi => (hx.cell _ _ h.lt).trans (h.all i hi)⟩

theorem TabAt.a {w : World} {g : Nat} (h : TabAt w g) (i : Nat) (hi : i < 68) : w.cell? ⟨g, i * 4, none⟩ = some (.int .i64 (sz i)) := by
  have hi' : i < tabC.length := by rw [tab_len]; exact hi
  rw [h.all (i * 4) (by omega), (cls_at tabC i hi').1]
  simp [sz, List.getD, hi']

theorem tab_open {w : World} {B : Nat} {v : Value} (h : w.ownsRow B 30 4 v 68 (cls tabC)) : ∃ g cap, v = .slice (some ⟨g, 0, none⟩) 68 cap ∧ B ≤ g ∧ 68 ≤ cap ∧ cap ≤ maxLen ∧ TabAt w g := by
  obtain ⟨g, cap, rfl, hb, hg, hc, hm⟩ := own_form (n := 67) h
  exact ⟨g, cap, rfl, hb, hc, hm, hg, fun j hj => h.cellAt j (by omega)⟩

theorem size_test (a b : Int) : Ending.returned (Value.bool (decide (b ≤ a))) = Ending.returned (.bool (decide (b ≤ a))) := rfl

/-- the closure that Of hands to Search. -/
theorem closure_any (g cap L S : Nat) (s : Int) (h : Nat) (w : World) (ht : TabAt w g) (hL : w.cell? ⟨L, 0, none⟩ = some (.slice (some ⟨g, 0, none⟩) 68 cap)) (hS : w.cell? ⟨S, 0, none⟩ = some (.int .i64 s)) (hh : h < 67) :
    Calls Try.prog 25 #[.int .i64 h, .pointer (some ⟨L, 0, none⟩), .pointer (some ⟨S, 0, none⟩)] w fun r w' => r = .returned (.bool (decide (s ≤ sz (h + 1)))) ∧ ∃ n, w' = w.drewN n := by
  have hc := ht.a (h + 1) (by omega)
  have hi : (h : Int) + 1 < 68 := by omega
  clear ht
  generalize sz (h + 1) = z at *
  go_enter Try.func25, Try.ntmps25
  go_wp2
  go_quiet (fail)
  go_wp2
  go_ret
  exact ⟨rfl, _, rfl⟩

end Go.Proofs.Ytiocfifgfjkgfaa
