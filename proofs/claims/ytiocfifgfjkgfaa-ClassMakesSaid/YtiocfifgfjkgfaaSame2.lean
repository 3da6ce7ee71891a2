/- Make, the reference's Make and same, for good and bad arguments alike. -/
import Derived.Test.YtiocfifgfjkgfaaFill
import Derived.Test.YtiocfifgfjkgfaaRefOf
namespace Go.Proofs.Ytiocfifgfjkgfaa
open Go.RowKit
set_option linter.unusedVariables false

/-- what Make answers. -/
def listL (p m : Int) : List Cl := if makeOk p m = true then makeL p m else []
def errL (p m : Int) : Int := if makeOk p m = true then 0 else 1

theorem ok_parts {p m : Int} (h : makeOk p m = true) : 1024 ≤ p ∧ p ≤ 65536 ∧ 64 ≤ m ∧ m ≤ 4 * p ∧ powB p = true ∧ powB m = true := by
  unfold makeOk at h
  simp only [Bool.and_eq_true, decide_eq_true_eq] at h
  obtain ⟨⟨⟨⟨p1, p2⟩, hp⟩, m1, m2⟩, hm⟩ := h
  exact ⟨p1, p2, m1, m2, hp, hm⟩

theorem listL_len (p m : Int) : (listL p m).length ≤ 2002 := by
  unfold listL
  split
  · rename_i h; exact (wasteL_of (waste_of h)).len
  · simp

theorem make_all (p m : Int) (w : World) : Calls Try.prog 10 #[.int .i64 p, .int .i64 m] w fun r w' => ∃ v, r = .returned (.tuple #[v, .int .i64 (errL p m)]) ∧ (listL p m = [] → v = .slice none 0 0) ∧ w'.ownsRow w.heap.size 30 4 v (listL p m).length (cls (listL p m)) ∧ Ext w w' := by
  unfold errL listL
  cases h : makeOk p m
  · exact (make_no p m w h).mono fun _ _ ⟨a, b⟩ => ⟨_, a, fun _ => rfl, by simpa [cls] using World.ownsRow_nil _ _ _ _, b ▸ Ext.refl _⟩
  · obtain ⟨p1, p2, m1, m2, hp, hm⟩ := ok_parts h
    refine (make_yes p m w h p1 p2 m1 m2 (Lib.hid hp) (Lib.hid hm)).mono fun _ _ ⟨v, a, b, c⟩ => ⟨v, by simpa using a, fun h0 => ?_, by simpa using b, c⟩
    simp [makeL] at h0

theorem rmake_all (p m : Int) (w : World) : Calls Try.prog 9 #[.int .i64 p, .int .i64 m] w fun r w' => ∃ v, r = .returned (.tuple #[v, .int .i64 (errL p m)]) ∧ w'.ownsRow w.heap.size 30 4 v (listL p m).length (cls (listL p m)) ∧ Ext w w' := by
  unfold errL listL
  cases h : makeOk p m
  · exact (rmake_no p m w h).mono fun _ _ ⟨a, b⟩ => ⟨_, a, by simpa [cls] using World.ownsRow_nil _ _ _ _, b ▸ Ext.refl _⟩
  · obtain ⟨p1, p2, m1, m2, hp, hm⟩ := ok_parts h
    simpa using rmake_yes p m w h p1 p2 m1 m2 (Lib.hid hp) (Lib.hid hm)

theorem own_open {w : World} {B : Nat} {v : Value} {l : List Cl} (h : w.ownsRow B 30 4 v l.length (cls l)) : ∃ p cap, v = .slice p l.length cap ∧ (l = [] ∨ ∃ g, p = some ⟨g, 0, none⟩ ∧ B ≤ g ∧ ListAt w g l) := by
  have h' := h
  rcases h.2 with ⟨rfl, h0⟩ | ⟨g, cap, cur, rfl, hb, hg, hnc, hcm, -⟩
  · have : l = [] := List.length_eq_zero_iff.1 h0
    subst this
    exact ⟨none, 0, rfl, .inl rfl⟩
  · exact ⟨_, cap, rfl, .inr ⟨g, rfl, hb, (Array.getElem?_eq_some_iff.1 hg).1, fun j hj => h'.cellAt j (by omega)⟩⟩

set_option maxHeartbeats 1000000 in
theorem same_any (v v' : Value) (B B' : Nat) (l : List Cl) (w : World) (hl : l.length ≤ 2002) (h : w.ownsRow B 30 4 v l.length (cls l)) (h' : w.ownsRow B' 30 4 v' l.length (cls l)) :
    Calls Try.prog 11 #[v, v'] w fun r w' => r = .returned (.bool true) ∧ ∃ n, w' = w.drewN n := by
  obtain ⟨p, cap, rfl, hp⟩ := own_open h
  obtain ⟨p', cap', rfl, hp'⟩ := own_open h'
  rcases hp with rfl | ⟨g, rfl, -, ha⟩
  · clear h h' hp'
    go_enter Try.func11, Try.ntmps11
    go_wp2
    refine wp_loop_rounds 1 ?_
    rw [rounds_succ]
    go_wp2
    go_ret
    exact ⟨rfl, 0, rfl⟩
  · rcases hp' with rfl | ⟨g', rfl, -, ha'⟩
    · clear h h' ha
      go_enter Try.func11, Try.ntmps11
      go_wp2
      refine wp_loop_rounds 1 ?_
      rw [rounds_succ]
      go_wp2
      go_ret
      exact ⟨rfl, 0, rfl⟩
    · exact same_two g g' cap cap' l w hl ha ha'

end Go.Proofs.Ytiocfifgfjkgfaa
