/- The contracts of package stats. -/
import Derived.Test.YtdklcflclpmcbaaRows
import Derived.Test.YtdklcflclpmcbaaPlain
import Derived.WalkSpells
import Derived.ProofKit
import Derived.OpenShut
import Derived.Handy
import Derived.RegionTactic
namespace Go.Proofs.Ytdklcflclpmcbaa
open Go.RowKit
set_option linter.unusedVariables false

theorem kind_yes (c : Int) (w : World) (h0 : 0 ≤ c) (h1 : c < 68) : Calls Try.prog 19 #[.int .i64 c] w fun r w' => r = .returned (.bool true) ∧ w = w' := by
  go_enter Try.func19, Try.ntmps19
  go_wp2
  go_ret
  exact ⟨rfl, rfl⟩

theorem kind_no (c : Int) (w : World) (h : c < 0 ∨ 68 ≤ c) : Calls Try.prog 19 #[.int .i64 c] w fun r w' => r = .returned (.bool false) ∧ w = w' := by
  rcases h with h | h
  · go_enter Try.func19, Try.ntmps19
    go_wp2
    go_ret
    exact ⟨rfl, rfl⟩
  · have hb : decide (c < 68) = false := decide_eq_false (by omega)
    by_cases h0 : 0 ≤ c
    · clear h
      go_enter Try.func19, Try.ntmps19
      go_wp2
      go_ret
      exact ⟨rfl, rfl⟩
    · omega

theorem is_yes (B B' n : Nat) (i : Int) (w : World) (hd : w.cell? ⟨B, 0, none⟩ = some (.slice (some ⟨B', 0, none⟩) n n)) (h0 : 0 ≤ i) (h1 : i < n) :
    Calls Try.prog 18 #[.pointer (some ⟨B, 0, none⟩), .int .i64 i] w fun r w' => r = .returned (.bool true) ∧ w = w' := by
  have hb : decide (i < (n : Int)) = true := decide_eq_true h1
  clear h1
  go_enter Try.func18, Try.ntmps18
  go_wp2
  go_ret
  exact ⟨rfl, rfl⟩

theorem is_no (B B' n : Nat) (i : Int) (w : World) (hd : w.cell? ⟨B, 0, none⟩ = some (.slice (some ⟨B', 0, none⟩) n n)) (h : i < 0 ∨ (n : Int) ≤ i) :
    Calls Try.prog 18 #[.pointer (some ⟨B, 0, none⟩), .int .i64 i] w fun r w' => r = .returned (.bool false) ∧ w = w' := by
  rcases h with h | h
  · go_enter Try.func18, Try.ntmps18
    go_wp2
    go_ret
    exact ⟨rfl, rfl⟩
  · by_cases h0 : 0 ≤ i
    · have hb : decide (i < (n : Int)) = false := decide_eq_false (by omega)
      clear h
      go_enter Try.func18, Try.ntmps18
      go_wp2
      go_ret
      exact ⟨rfl, rfl⟩
    · go_enter Try.func18, Try.ntmps18
      go_wp2
      go_ret
      exact ⟨rfl, rfl⟩

set_option maxHeartbeats 1000000 in
theorem malloc_yes (B B' n i c : Nat) (b : Int) (L C : List Int) (w : World) (h : Tab w B B' n L C) (h1 : i < n) (h2 : c < 68) :
    Calls Try.prog 13 #[.pointer (some ⟨B, 0, none⟩), .int .i64 i, .int .i64 c, .int .u64 b] w fun r w' => r = .returned (.int .i64 0) ∧ Tab w' B B' n (mallocL L i b) (mallocC C c) ∧ Keeps B B' w w' := by
  have hd := h.hd
  have hn := h.hn
  have hne := h.hne
  have hne2 := h.hne.symm
  have c0 := h.ps (i * 4) (by omega)
  have c2 := h.ps (i * 4 + 2) (by omega)
  have cc := h.cl (c * 2) (by omega)
  have f := h.fB
  have g := h.fB'
  have HH := Lib.hid h
  clear h
  generalize hx : L.getD (i * 4) 0 = x at *
  generalize hy : L.getD (i * 4 + 2) 0 = y at *
  generalize hz : C.getD (c * 2) 0 = z at *
  have HX := Lib.hid hx
  have HY := Lib.hid hy
  have HZ := Lib.hid hz
  clear hx hy hz
  go_enter Try.func13, Try.ntmps13
  go_wp2_with (first | (go_at_call 18; refine (is_yes B B' n _ _ hd (by omega) (by omega)).mono ?_; rintro e w1 ⟨rfl, rfl⟩) | (go_at_call 19; refine (kind_yes _ _ (by omega) (by omega)).mono ?_; rintro e w1 ⟨rfl, rfl⟩))
  go_region
  all_goals (try go_wp2)
  all_goals go_ret
  all_goals refine ⟨rfl, ?_, ?_⟩
  all_goals first
    | (unfold mallocL mallocC plus; rw [HX.out, HY.out, HZ.out]; exact (((HH.out.setP (by omega) _).setP (by omega) _).setC (by omega) _).drew)
    | (intro W hx g1 g2; exact (((hx.setCell g2 _).setCell g2 _).setCell g1 _).drew)

theorem malloc_no (B B' n : Nat) (i c b : Int) (L C : List Int) (w : World) (h : Tab w B B' n L C) (hb : (i < 0 ∨ (n : Int) ≤ i) ∨ c < 0 ∨ 68 ≤ c) :
    Calls Try.prog 13 #[.pointer (some ⟨B, 0, none⟩), .int .i64 i, .int .i64 c, .int .u64 b] w fun r w' => r = .returned (.int .i64 1) ∧ w = w' := by
  have hd := h.hd
  clear h
  by_cases hi : i < 0 ∨ (n : Int) ≤ i
  · clear hb
    have HI := Lib.hid hi
    clear hi
    go_enter Try.func13, Try.ntmps13
    go_wp2_with (go_at_call 18; refine (is_no B B' n _ _ hd HI.out).mono ?_; rintro e w1 ⟨rfl, rfl⟩)
    go_ret
    exact ⟨rfl, rfl⟩
  · have hc : c < 0 ∨ 68 ≤ c := by omega
    have h0 : 0 ≤ i := by omega
    have h1 : i < n := by omega
    have HC := Lib.hid hc
    clear hb hi hc
    go_enter Try.func13, Try.ntmps13
    go_wp2_with (first | (go_at_call 18; refine (is_yes B B' n _ _ hd h0 h1).mono ?_; rintro e w1 ⟨rfl, rfl⟩) | (go_at_call 19; refine (kind_no _ _ HC.out).mono ?_; rintro e w1 ⟨rfl, rfl⟩))
    go_ret
    exact ⟨rfl, rfl⟩

set_option maxHeartbeats 1000000 in
theorem free_yes (B B' n i c : Nat) (b : Int) (L C : List Int) (w : World) (h : Tab w B B' n L C) (h1 : i < n) (h2 : c < 68) :
    Calls Try.prog 12 #[.pointer (some ⟨B, 0, none⟩), .int .i64 i, .int .i64 c, .int .u64 b] w fun r w' => r = .returned (.int .i64 0) ∧ Tab w' B B' n (freeL L i b) (freeC C c) ∧ Keeps B B' w w' := by
  have hd := h.hd
  have hn := h.hn
  have hne := h.hne
  have hne2 := h.hne.symm
  have c0 := h.ps (i * 4 + 1) (by omega)
  have c2 := h.ps (i * 4 + 3) (by omega)
  have ea : 1 + (c * 2 + 1) = 1 + c * 2 + 1 := by omega
  have cc := h.cl (c * 2 + 1) (by omega)
  rw [ea] at cc
  have EA := Lib.hid ea
  clear ea
  have f := h.fB
  have g := h.fB'
  have HH := Lib.hid h
  clear h
  generalize hx : L.getD (i * 4 + 1) 0 = x at *
  generalize hy : L.getD (i * 4 + 3) 0 = y at *
  generalize hz : C.getD (c * 2 + 1) 0 = z at *
  have HX := Lib.hid hx
  have HY := Lib.hid hy
  have HZ := Lib.hid hz
  clear hx hy hz
  go_enter Try.func12, Try.ntmps12
  go_wp2_with (first | (go_at_call 18; refine (is_yes B B' n _ _ hd (by omega) (by omega)).mono ?_; rintro e w1 ⟨rfl, rfl⟩) | (go_at_call 19; refine (kind_yes _ _ (by omega) (by omega)).mono ?_; rintro e w1 ⟨rfl, rfl⟩))
  go_region
  all_goals (try go_wp2)
  all_goals go_ret
  all_goals refine ⟨rfl, ?_, ?_⟩
  all_goals first
    | (unfold freeL freeC plus; rw [HX.out, HY.out, HZ.out, ← EA.out]; exact (((HH.out.setP (by omega) _).setP (by omega) _).setC (by omega) _).drew)
    | (intro W hx g1 g2; exact (((hx.setCell g2 _).setCell g2 _).setCell g1 _).drew)

theorem free_no (B B' n : Nat) (i c b : Int) (L C : List Int) (w : World) (h : Tab w B B' n L C) (hb : (i < 0 ∨ (n : Int) ≤ i) ∨ c < 0 ∨ 68 ≤ c) :
    Calls Try.prog 12 #[.pointer (some ⟨B, 0, none⟩), .int .i64 i, .int .i64 c, .int .u64 b] w fun r w' => r = .returned (.int .i64 1) ∧ w = w' := by
  have hd := h.hd
  clear h
  by_cases hi : i < 0 ∨ (n : Int) ≤ i
  · clear hb
    have HI := Lib.hid hi
    clear hi
    go_enter Try.func12, Try.ntmps12
    go_wp2_with (go_at_call 18; refine (is_no B B' n _ _ hd HI.out).mono ?_; rintro e w1 ⟨rfl, rfl⟩)
    go_ret
    exact ⟨rfl, rfl⟩
  · have hc : c < 0 ∨ 68 ≤ c := by omega
    have h0 : 0 ≤ i := by omega
    have h1 : i < n := by omega
    have HC := Lib.hid hc
    clear hb hi hc
    go_enter Try.func12, Try.ntmps12
    go_wp2_with (first | (go_at_call 18; refine (is_yes B B' n _ _ hd h0 h1).mono ?_; rintro e w1 ⟨rfl, rfl⟩) | (go_at_call 19; refine (kind_no _ _ HC.out).mono ?_; rintro e w1 ⟨rfl, rfl⟩))
    go_ret
    exact ⟨rfl, rfl⟩

end Go.Proofs.Ytdklcflclpmcbaa
