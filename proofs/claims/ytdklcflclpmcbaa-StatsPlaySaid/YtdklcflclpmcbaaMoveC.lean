/- The contracts of P where there is none, and of Move. -/
import Derived.Test.YtdklcflclpmcbaaSumLaw
import Derived.Test.YtdklcflclpmcbaaHead
namespace Go.Proofs.Ytdklcflclpmcbaa
open Go.RowKit
set_option linter.unusedVariables false

theorem p_no (B B' n : Nat) (i : Int) (L C : List Int) (w : World) (h : Tab w B B' n L C) (hb : i < 0 ∨ (n : Int) ≤ i) :
    Calls Try.prog 14 #[.pointer (some ⟨B, 0, none⟩), .int .i64 i] w fun r w' => r = .returned (.tuple #[.agg #[.int .u64 0, .int .u64 0, .int .u64 0, .int .u64 0], .int .i64 1]) ∧ Ext w w' := by
  have hd := h.hd
  have hB := h.hB
  have hl := fun (c : Array Value) (t : TypeId) => (((Ext.refl w).alloc c t).cell B 0 hB).trans hd
  have HI := Lib.hid hb
  clear h hb
  go_enter Try.func14, Try.ntmps14
  go_wp2_with (go_at_call 18; refine (is_no B B' n _ _ (hl _ _) HI.out).mono ?_; rintro e w1 ⟨rfl, rfl⟩)
  refine bodyPost_ret (v := .tuple #[.agg #[.int .u64 0, .int .u64 0, .int .u64 0, .int .u64 0], .int .i64 1]) (by simp [results, Try.results14, go_sem]) rfl ⟨rfl, ?_⟩
  exact (Ext.refl _).alloc _ _

theorem move_no (B B' n : Nat) (i j : Int) (L C : List Int) (w : World) (h : Tab w B B' n L C) (hb : (i < 0 ∨ (n : Int) ≤ i) ∨ (j < 0 ∨ (n : Int) ≤ j)) :
    Calls Try.prog 11 #[.pointer (some ⟨B, 0, none⟩), .int .i64 i, .int .i64 j] w fun r w' => r = .returned (.int .i64 1) ∧ w = w' := by
  have hd := h.hd
  clear h
  by_cases hi : i < 0 ∨ (n : Int) ≤ i
  · have HI := Lib.hid hi
    clear hb hi
    go_enter Try.func11, Try.ntmps11
    go_wp2_with (go_at_call 18; refine (is_no B B' n _ _ hd HI.out).mono ?_; rintro e w1 ⟨rfl, rfl⟩)
    go_ret
    exact ⟨rfl, rfl⟩
  · have hj : j < 0 ∨ (n : Int) ≤ j := by omega
    have HJ := Lib.hid hj
    have h0 : 0 ≤ i := by omega
    have h1 : i < n := by omega
    clear hb hi hj
    go_enter Try.func11, Try.ntmps11
    go_wp2_with fail
    refine (is_yes B B' n _ _ hd h0 h1).mono ?_
    rintro e w1 ⟨rfl, rfl⟩
    go_wp2_with fail
    refine (is_no B B' n _ _ hd HJ.out).mono ?_
    rintro e w1 ⟨rfl, rfl⟩
    go_wp2_with fail
    go_ret
    exact ⟨rfl, rfl⟩

theorem move_same (B B' n i : Nat) (L C : List Int) (w : World) (h : Tab w B B' n L C) (hi : i < n) :
    Calls Try.prog 11 #[.pointer (some ⟨B, 0, none⟩), .int .i64 i, .int .i64 i] w fun r w' => r = .returned (.int .i64 0) ∧ w = w' := by
  have hd := h.hd
  clear h
  go_enter Try.func11, Try.ntmps11
  go_wp2_with fail
  refine (is_yes B B' n _ _ hd (by omega) (by omega)).mono ?_
  rintro e w1 ⟨rfl, rfl⟩
  go_wp2_with fail
  refine (is_yes B B' n _ _ hd (by omega) (by omega)).mono ?_
  rintro e w1 ⟨rfl, rfl⟩
  go_wp2_with fail
  go_ret
  exact ⟨rfl, rfl⟩

/-- all of the one goes to the other. -/
def moveL (L : List Int) (i j : Nat) : List Int :=
  ((((((((L.set (j * 4) (plus (L.getD (j * 4) 0) (L.getD (i * 4) 0))).set (j * 4 + 1) (plus (L.getD (j * 4 + 1) 0) (L.getD (i * 4 + 1) 0))).set (j * 4 + 2) (plus (L.getD (j * 4 + 2) 0) (L.getD (i * 4 + 2) 0))).set (j * 4 + 3) (plus (L.getD (j * 4 + 3) 0) (L.getD (i * 4 + 3) 0))).set (i * 4) 0).set (i * 4 + 1) 0).set (i * 4 + 2) 0).set (i * 4 + 3) 0)

theorem Tab.added {w : World} {B B' n : Nat} {L C : List Int} (h : Tab w B B' n L C) {j : Nat} (hj : j < n) (x0 x1 x2 x3 y0 y1 y2 y3 : Int) :
    Tab (added w B' (j * 4) x0 x1 x2 x3 y0 y1 y2 y3) B B' n ((((L.set (j * 4) (plus x0 y0)).set (j * 4 + 1) (plus x1 y1)).set (j * 4 + 2) (plus x2 y2)).set (j * 4 + 3) (plus x3 y3)) C :=
  ((((((((h.setP (by omega) _).setP (by omega) _).setP (by omega) _).setP (by omega) _).later ((Ext.refl _).alloc _ _)).drew).drew).drew).drew

theorem added_keeps {w : World} {B B' o : Nat} (x0 x1 x2 x3 y0 y1 y2 y3 : Int) : Keeps B B' w (added w B' o x0 x1 x2 x3 y0 y1 y2 y3) := fun W hx _ g2 => added_ext hx g2

/-- all blocks of before but one keep their cells. -/
def Others (B' : Nat) (w w' : World) : Prop := w.heap.size ≤ w'.heap.size ∧ ∀ b o, b < w.heap.size → b ≠ B' → w'.cell? ⟨b, o, none⟩ = w.cell? ⟨b, o, none⟩

theorem Others.refl (B' : Nat) (w : World) : Others B' w w := ⟨Nat.le_refl _, fun _ _ _ _ => rfl⟩
theorem Others.setCell {B' : Nat} {w w' : World} (h : Others B' w w') (o : Nat) (v : Value) : Others B' w (w'.setCell ⟨B', o, none⟩ v) :=
  ⟨by rw [World.size_setCell]; exact h.1, fun b q hb hne => (set_other (by intro e; injection e with e1; exact hne e1.symm)).trans (h.2 b q hb hne)⟩
theorem Others.alloc {B' : Nat} {w w' : World} (h : Others B' w w') (c : Array Value) (t : TypeId) : Others B' w (w'.alloc (.cells c t)) :=
  ⟨Nat.le_trans h.1 ((Ext.refl w').alloc c t).size, fun b q hb hne => (((Ext.refl w').alloc c t).cell b q (Nat.lt_of_lt_of_le hb h.1)).trans (h.2 b q hb hne)⟩
theorem Others.drew {B' : Nat} {w w' : World} (h : Others B' w w') : Others B' w w'.drew := ⟨h.1, h.2⟩
theorem added_others {B' o : Nat} {w w' : World} (h : Others B' w w') (x0 x1 x2 x3 y0 y1 y2 y3 : Int) : Others B' w (added w' B' o x0 x1 x2 x3 y0 y1 y2 y3) :=
  ((((((((h.setCell _ _).setCell _ _).setCell _ _).setCell _ _).alloc _ _).drew).drew).drew).drew

set_option maxHeartbeats 1000000 in
theorem move_yes (B B' n i j : Nat) (L C : List Int) (w : World) (h : Tab w B B' n L C) (hi : i < n) (hj : j < n) (hne : i ≠ j) :
    Calls Try.prog 11 #[.pointer (some ⟨B, 0, none⟩), .int .i64 i, .int .i64 j] w fun r w' => r = .returned (.int .i64 0) ∧ Tab w' B B' n (moveL L i j) C ∧ Keeps B B' w w' ∧ Others B' w w' := by
  have hd := h.hd
  have hn := h.hn
  have hB' := h.hB'
  have c0 := h.ps (i * 4) (by omega)
  have c1 := h.ps (i * 4 + 1) (by omega)
  have c2 := h.ps (i * 4 + 2) (by omega)
  have c3 := h.ps (i * 4 + 3) (by omega)
  have d0 := h.ps (j * 4) (by omega)
  have d1 := h.ps (j * 4 + 1) (by omega)
  have d2 := h.ps (j * 4 + 2) (by omega)
  have d3 := h.ps (j * 4 + 3) (by omega)
  have g := h.fB'
  have HH := Lib.hid h
  have hij : ((i : Int) == (j : Int)) = false := by simp; omega
  have HM := Lib.hid (show moveL L i j = _ from rfl)
  clear h
  have HP := Lib.hid (HH.out.drew.added hj (L.getD (j * 4) 0) (L.getD (j * 4 + 1) 0) (L.getD (j * 4 + 2) 0) (L.getD (j * 4 + 3) 0) (L.getD (i * 4) 0) (L.getD (i * 4 + 1) 0) (L.getD (i * 4 + 2) 0) (L.getD (i * 4 + 3) 0))
  have HQ : Hid (∀ w2, Tab w2 B B' n ((((L.set (j * 4) (plus (L.getD (j * 4) 0) (L.getD (i * 4) 0))).set (j * 4 + 1) (plus (L.getD (j * 4 + 1) 0) (L.getD (i * 4 + 1) 0))).set (j * 4 + 2) (plus (L.getD (j * 4 + 2) 0) (L.getD (i * 4 + 2) 0))).set (j * 4 + 3) (plus (L.getD (j * 4 + 3) 0) (L.getD (i * 4 + 3) 0))) C → Tab ((((w2.setCell ⟨B', i * 4, none⟩ (.int .u64 0)).setCell ⟨B', i * 4 + 1, none⟩ (.int .u64 0)).setCell ⟨B', i * 4 + 2, none⟩ (.int .u64 0)).setCell ⟨B', i * 4 + 3, none⟩ (.int .u64 0)) B B' n (moveL L i j) C) :=
    Lib.hid (fun w2 ht => (((ht.setP (by omega) 0).setP (by omega) 0).setP (by omega) 0).setP (by omega) 0)
  clear HM
  generalize L.getD (i * 4) 0 = y0 at *
  generalize L.getD (i * 4 + 1) 0 = y1 at *
  generalize L.getD (i * 4 + 2) 0 = y2 at *
  generalize L.getD (i * 4 + 3) 0 = y3 at *
  generalize L.getD (j * 4) 0 = x0 at *
  generalize L.getD (j * 4 + 1) 0 = x1 at *
  generalize L.getD (j * 4 + 2) 0 = x2 at *
  generalize L.getD (j * 4 + 3) 0 = x3 at *
  go_enter Try.func11, Try.ntmps11
  go_wp2_with fail
  refine (is_yes B B' n _ _ hd (by omega) (by omega)).mono ?_
  rintro e w1 ⟨rfl, rfl⟩
  go_wp2_with fail
  refine (is_yes B B' n _ _ hd (by omega) (by omega)).mono ?_
  rintro e w1 ⟨rfl, rfl⟩
  go_wp2_with fail
  refine wp_region_head 15 (by kernel_rfl) (by kernel_rfl) ?_
  simp only [List.take_succ_cons, List.take_zero, List.drop_succ_cons, List.drop_zero]
  repeat (go_big_quiet_step (fail))
  refine wpQuiet_nil ?_
  go_wp2_with fail
  refine (add_any B' (j * 4) x0 x1 x2 x3 y0 y1 y2 y3 _ (by simpa using hB') (by simpa using d0) (by simpa using d1) (by simpa using d2) (by simpa using d3) (by simpa using g)).mono ?_
  rintro e w2 ⟨rfl, hw2⟩
  have hp := HP.out
  have hk : Keeps B B' w w2 := by
    rw [hw2]
    exact fun W hx g1 g2 => added_keeps _ _ _ _ _ _ _ _ W hx.drew g1 g2
  have HO : Hid (Others B' w w2) := Lib.hid (by rw [hw2]; exact added_others (Others.refl _ _).drew _ _ _ _ _ _ _ _)
  rw [← hw2] at hp
  have HK := Lib.hid hk
  have HT := Lib.hid (HQ.out w2 hp)
  have e := hp.hd
  have eg := hp.fB'
  obtain ⟨z0, e0⟩ : ∃ z, w2.cell? ⟨B', i * 4, none⟩ = some (.int .u64 z) := ⟨_, hp.ps (i * 4) (by omega)⟩
  obtain ⟨z1, e1⟩ : ∃ z, w2.cell? ⟨B', i * 4 + 1, none⟩ = some (.int .u64 z) := ⟨_, hp.ps (i * 4 + 1) (by omega)⟩
  obtain ⟨z2, e2⟩ : ∃ z, w2.cell? ⟨B', i * 4 + 2, none⟩ = some (.int .u64 z) := ⟨_, hp.ps (i * 4 + 2) (by omega)⟩
  obtain ⟨z3, e3⟩ : ∃ z, w2.cell? ⟨B', i * 4 + 3, none⟩ = some (.int .u64 z) := ⟨_, hp.ps (i * 4 + 3) (by omega)⟩
  clear hw2 hk hp hd c0 c1 c2 c3 d0 d1 d2 d3 g
  go_wp2
  go_ret
  refine ⟨rfl, HT.out, fun W hx g1 g2 => ?_, (((HO.out.setCell _ _).setCell _ _).setCell _ _).setCell _ _⟩
  exact ((((HK.out W hx g1 g2).setCell g2 _).setCell g2 _).setCell g2 _).setCell g2 _

end Go.Proofs.Ytdklcflclpmcbaa
