/- The contracts of the reference's bytes; both, with one answer for all that is asked. -/
import Derived.Test.YtoofokbdohdmjaaRefFix2
import Derived.Test.YtoofokbdohdmjaaApart
namespace Go.Proofs.Ytoofokbdohdmjaa
open Go.RowKit
set_option linter.unusedVariables false

def RBumpAt (w : World) (g : Nat) (b n e : Int) : Prop := Blk w g 49 #[.int .i64 b, .int .i64 n, .int .i64 e]

theorem rnewBump_no (b : Int) (w : World) (h : bumpOk b = false) (hw : (Lit.int .i64 b).wf = true) : Calls Try.prog 16 #[.int .i64 b] w fun r w' => r = .returned (.tuple #[.pointer none, .int .i64 1]) ∧ w = w' := by
  by_cases h1 : 64 ≤ b
  · by_cases h2 : b ≤ 1048576
    · have hp : powB b = false := by unfold bumpOk at h; simpa [h1, h2] using h
      clear h
      go_enter Try.func16, Try.ntmps16
      go_wp2_with (go_at_call 27; refine (rpow_any _ _ (by omega) (by omega)).mono ?_; rintro e w' ⟨rfl, rfl⟩)
      go_ret2
      exact ⟨rfl, rfl⟩
    · clear h
      have h3 : decide (1048576 < b) = true := decide_eq_true (by omega)
      go_enter Try.func16, Try.ntmps16
      go_wp2
      go_ret2
      exact ⟨rfl, rfl⟩
  · clear h
    have h3 : decide (b < 64) = true := decide_eq_true (by omega)
    go_enter Try.func16, Try.ntmps16
    go_wp2
    go_ret2
    exact ⟨rfl, rfl⟩

theorem rnewBump_yes (b : Int) (w : World) (h : bumpOk b = true) : Calls Try.prog 16 #[.int .i64 b] w fun r w' => r = .returned (.tuple #[.pointer (some ⟨w.heap.size, 0, none⟩), .int .i64 0]) ∧ RBumpAt w' w.heap.size b 0 0 ∧ Ext w w' := by
  unfold bumpOk at h
  simp only [Bool.and_eq_true, decide_eq_true_eq] at h
  obtain ⟨⟨h1, h2⟩, hp⟩ := h
  go_enter Try.func16, Try.ntmps16
  go_wp2_with (go_at_call 27; refine (rpow_any _ _ (by omega) (by omega)).mono ?_; rintro e w' ⟨rfl, rfl⟩)
  go_ret2
  exact ⟨rfl, Blk.new _ _ _, (Ext.refl _).alloc _ _⟩

theorem rbtake_arg (g : Nat) (b n e s a : Int) (w : World) (h : RBumpAt w g b n e) (hb : b ≤ 1048576) (ho : askOk b s a = false) : Calls Try.prog 18 #[.pointer (some ⟨g, 0, none⟩), .int .i64 s, .int .i64 a] w fun r w' => r = .returned (.tuple #[.int .i64 0, .int .i64 0, .int .i64 1]) ∧ w = w' := by
  have c0 := h.cell 0
  simp at c0
  clear h
  by_cases h1 : 1 ≤ s
  · by_cases h2 : 1 ≤ a
    · have k1 : decide (s < 1) = false := decide_eq_false (by omega)
      have k2 : decide (a < 1) = false := decide_eq_false (by omega)
      by_cases h3 : a ≤ b
      · have k3 : decide (b < a) = false := decide_eq_false (by omega)
        have hp : powB a = false := by unfold askOk at ho; simpa [h1, h2, h3] using ho
        clear ho
        go_enter Try.func18, Try.ntmps18
        go_wp2_with (go_at_call 27; refine (rpow_any _ _ (by omega) (by omega)).mono ?_; rintro e w' ⟨rfl, rfl⟩)
        go_ret3
        exact ⟨rfl, rfl⟩
      · have k3 : decide (b < a) = true := decide_eq_true (by omega)
        clear ho
        go_enter Try.func18, Try.ntmps18
        go_wp2
        go_ret3
        exact ⟨rfl, rfl⟩
    · have k1 : decide (s < 1) = false := decide_eq_false (by omega)
      have k2 : decide (a < 1) = true := decide_eq_true (by omega)
      clear ho
      go_enter Try.func18, Try.ntmps18
      go_wp2
      go_ret3
      exact ⟨rfl, rfl⟩
  · have k1 : decide (s < 1) = true := decide_eq_true (by omega)
    clear ho
    go_enter Try.func18, Try.ntmps18
    go_wp2
    go_ret3
    exact ⟨rfl, rfl⟩

theorem rbtake_long (g : Nat) (b n e s a : Int) (w : World) (h : RBumpAt w g b n e) (hb : b ≤ 1048576) (ho : askOk b s a = true) (hl : b < s) : Calls Try.prog 18 #[.pointer (some ⟨g, 0, none⟩), .int .i64 s, .int .i64 a] w fun r w' => r = .returned (.tuple #[.int .i64 0, .int .i64 0, .int .i64 2]) ∧ w = w' := by
  have c0 := h.cell 0
  simp at c0
  clear h
  obtain ⟨h1, h2, h3, hp⟩ := ask_parts ho
  clear ho
  have k1 : decide (s < 1) = false := decide_eq_false (by omega)
  have k2 : decide (a < 1) = false := decide_eq_false (by omega)
  have k3 : decide (b < a) = false := decide_eq_false (by omega)
  have k4 : decide (b < s) = true := decide_eq_true (by omega)
  go_enter Try.func18, Try.ntmps18
  go_wp2_with (go_at_call 27; refine (rpow_any _ _ (by omega) (by omega)).mono ?_; rintro e w' ⟨rfl, rfl⟩)
  go_ret3
  exact ⟨rfl, rfl⟩


theorem rbtake_old (g : Nat) (b n e s a : Int) (w : World) (h : RBumpAt w g b n e) (hb : b ≤ 1048576) (he : 0 ≤ e) (he2 : e ≤ b) (hn : 0 ≤ n) (hn2 : n ≤ 1000000) (ho : askOk b s a = true) (hl : s ≤ b) (hf : freshB b n e s a = false) :
    Calls Try.prog 18 #[.pointer (some ⟨g, 0, none⟩), .int .i64 s, .int .i64 a] w fun r w' => r = .returned (.tuple #[.int .i64 (n - 1), .int .i64 (upV e a), .int .i64 0]) ∧ RBumpAt w' g b n (upV e a + s) ∧ Chg (· = g) w w' := by
  have c0 := h.cell 0
  have c1 := h.cell 1
  have c2 := h.cell 2
  simp at c0 c1 c2
  have f := h.frozen
  have HH := Lib.hid h
  clear h
  obtain ⟨h1, h2, h3, hp⟩ := ask_parts ho
  clear ho
  obtain ⟨u1, u2, u3, u4⟩ := up_facts he (by omega) h2 (by omega)
  unfold freshB at hf
  simp only [Bool.or_eq_false_iff, decide_eq_false_iff_not] at hf
  obtain ⟨hf1, hf2⟩ := hf
  have k1 : decide (s < 1) = false := decide_eq_false (by omega)
  have k2 : decide (a < 1) = false := decide_eq_false (by omega)
  have k3 : decide (b < a) = false := decide_eq_false (by omega)
  have k4 : decide (b < s) = false := decide_eq_false (by omega)
  have hq0 : 0 ≤ (e + a - 1) / a := Int.ediv_nonneg (by omega) (by omega)
  have hq1 : (e + a - 1) / a ≤ e + a - 1 := Int.ediv_le_self _ (by omega)
  rw [u4] at u1 u2 hf2
  have HU := Lib.hid u4
  clear u3 u4
  go_enter Try.func18, Try.ntmps18
  go_wp2_with (first | (go_at_call 27; refine (rpow_any _ _ (by omega) (by omega)).mono ?_; rintro e w' ⟨rfl, rfl⟩))
  go_ret3
  refine ⟨by rw [HU.out]; rfl, ?_, (Chg.refl (· = g) w).setCell (p := ⟨g, 2, none⟩) (.inl rfl) _⟩
  have := HH.out.set_ 2 (.int .i64 ((e + a - 1) / a * a + s))
  rw [HU.out]
  simpa [RBumpAt] using this

theorem rbtake_new (g : Nat) (b n e s a : Int) (w : World) (h : RBumpAt w g b n e) (hb : b ≤ 1048576) (he : 0 ≤ e) (he2 : e ≤ b) (hn : 0 ≤ n) (hn2 : n ≤ 1000000) (ho : askOk b s a = true) (hl : s ≤ b) (hf : freshB b n e s a = true) :
    Calls Try.prog 18 #[.pointer (some ⟨g, 0, none⟩), .int .i64 s, .int .i64 a] w fun r w' => r = .returned (.tuple #[.int .i64 n, .int .i64 0, .int .i64 0]) ∧ RBumpAt w' g b (n + 1) s ∧ Chg (· = g) w w' := by
  have c0 := h.cell 0
  have c1 := h.cell 1
  have c2 := h.cell 2
  simp at c0 c1 c2
  have f := h.frozen
  have HH := Lib.hid h
  clear h
  obtain ⟨h1, h2, h3, hp⟩ := ask_parts ho
  clear ho
  obtain ⟨u1, u2, u3, u4⟩ := up_facts he (by omega) h2 (by omega)
  unfold freshB at hf
  simp only [Bool.or_eq_true, decide_eq_true_eq] at hf
  have k1 : decide (s < 1) = false := decide_eq_false (by omega)
  have k2 : decide (a < 1) = false := decide_eq_false (by omega)
  have k3 : decide (b < a) = false := decide_eq_false (by omega)
  have k4 : decide (b < s) = false := decide_eq_false (by omega)
  have hq0 : 0 ≤ (e + a - 1) / a := Int.ediv_nonneg (by omega) (by omega)
  have hq1 : (e + a - 1) / a ≤ e + a - 1 := Int.ediv_le_self _ (by omega)
  rw [u4] at u1 u2 hf
  have HE := Lib.hid (show n + 1 - 1 = n by omega)
  have HS := Lib.hid (show (0 : Int) + s = s by omega)
  clear u3 u4
  have hq : (n == 0) = true ∨ ((n == 0) = false ∧ b < (e + a - 1) / a * a) ∨ ((n == 0) = false ∧ (e + a - 1) / a * a ≤ b ∧ b - (e + a - 1) / a * a < s) := by
    cases q : (n == 0)
    · rw [q] at hf
      have hf' := hf.resolve_left (by simp)
      right
      by_cases h5 : b < (e + a - 1) / a * a
      · exact .inl ⟨rfl, h5⟩
      · exact .inr ⟨rfl, by omega, by omega⟩
    · exact .inl rfl
  clear hf
  rcases hq with hq | ⟨hq, hq2⟩ | ⟨hq, hq2, hq3⟩
  all_goals
    go_enter Try.func18, Try.ntmps18
    go_wp2_with (first | (go_at_call 27; refine (rpow_any _ _ (by omega) (by omega)).mono ?_; rintro e w' ⟨rfl, rfl⟩))
    go_ret3
    refine ⟨by first | rfl | (simp; omega), ?_, ((Chg.refl (· = g) w).setCell (p := ⟨g, 1, none⟩) (.inl rfl) _).setCell (p := ⟨g, 2, none⟩) (.inl rfl) _⟩
    have := (HH.out.set_ 1 (.int .i64 (n + 1))).set_ 2 (.int .i64 s)
    simpa [RBumpAt] using this

/-! ### one answer -/
def bK (b n e s a : Int) : Int := if askOk b s a = false then 0 else if b < s then 0 else if freshB b n e s a = true then n else n - 1
def bAt (b n e s a : Int) : Int := if askOk b s a = false then 0 else if b < s then 0 else if freshB b n e s a = true then 0 else upV e a
def bErr (b n e s a : Int) : Int := if askOk b s a = false then 1 else if b < s then 2 else 0
def bN (b n e s a : Int) : Int := if askOk b s a = false then n else if b < s then n else if freshB b n e s a = true then n + 1 else n
def bEnd (b n e s a : Int) : Int := if askOk b s a = false then e else if b < s then e else if freshB b n e s a = true then s else upV e a + s

theorem b_next {b n e s a : Int} (hb : b ≤ 1048576) (he : 0 ≤ e) (he2 : e ≤ b) (hn : 0 ≤ n) : 0 ≤ bN b n e s a ∧ bN b n e s a ≤ n + 1 ∧ 0 ≤ bEnd b n e s a ∧ bEnd b n e s a ≤ b := by
  unfold bN bEnd
  cases ho : askOk b s a
  · simp only [if_true]; omega
  · obtain ⟨h1, h2, h3, -⟩ := ask_parts ho
    simp only [Bool.true_eq_false, if_false]
    by_cases hs : b < s
    · simp only [hs, if_true]; omega
    · simp only [hs, if_false]
      cases hf : freshB b n e s a
      · simp only [Bool.false_eq_true, if_false]
        obtain ⟨u1, u2, u3, u4⟩ := up_facts he (by omega) h2 (by omega)
        unfold freshB at hf
        simp only [Bool.or_eq_false_iff, decide_eq_false_iff_not] at hf
        omega
      · simp only [if_true]; omega

theorem bumpTake (g : Nat) (b n e s a : Int) (w : World) (h : BumpAt w g b n e) (hb : b ≤ 1048576) (he : 0 ≤ e) (he2 : e ≤ b) (hn : 0 ≤ n) (hn2 : n ≤ 1000000) :
    Calls Try.prog 17 #[.pointer (some ⟨g, 0, none⟩), .int .i64 s, .int .i64 a] w fun r w' => r = .returned (.tuple #[.int .i64 (bK b n e s a), .int .i64 (bAt b n e s a), .int .i64 (bErr b n e s a)]) ∧ BumpAt w' g b (bN b n e s a) (bEnd b n e s a) ∧ Chg (· = g) w w' := by
  unfold bK bAt bErr bN bEnd
  cases ho : askOk b s a
  · exact (take_arg g b n e s a w h hb ho).mono fun _ _ ⟨x, y⟩ => ⟨x, y ▸ h, y ▸ Chg.refl _ _⟩
  · obtain ⟨h1, h2, h3, -⟩ := ask_parts ho
    simp only [Bool.true_eq_false, if_false]
    by_cases hs : b < s
    · simp only [hs, if_true]
      exact (take_long g b n e s a w h hb ho hs).mono fun _ _ ⟨x, y⟩ => ⟨x, y ▸ h, y ▸ Chg.refl _ _⟩
    · simp only [hs, if_false]
      obtain ⟨u1, u2, u3, u4⟩ := up_facts he (by omega) h2 (by omega)
      cases hf : freshB b n e s a
      · exact take_old g b n e s a w h hb he he2 hn hn2 ho (by omega) (by omega) (by omega) hf
      · exact take_new g b n e s a w h hb he he2 hn hn2 ho (by omega) (by omega) (by omega) hf

theorem rbumpTake (g : Nat) (b n e s a : Int) (w : World) (h : RBumpAt w g b n e) (hb : b ≤ 1048576) (he : 0 ≤ e) (he2 : e ≤ b) (hn : 0 ≤ n) (hn2 : n ≤ 1000000) :
    Calls Try.prog 18 #[.pointer (some ⟨g, 0, none⟩), .int .i64 s, .int .i64 a] w fun r w' => r = .returned (.tuple #[.int .i64 (bK b n e s a), .int .i64 (bAt b n e s a), .int .i64 (bErr b n e s a)]) ∧ RBumpAt w' g b (bN b n e s a) (bEnd b n e s a) ∧ Chg (· = g) w w' := by
  unfold bK bAt bErr bN bEnd
  cases ho : askOk b s a
  · exact (rbtake_arg g b n e s a w h hb ho).mono fun _ _ ⟨x, y⟩ => ⟨x, y ▸ h, y ▸ Chg.refl _ _⟩
  · obtain ⟨h1, h2, h3, -⟩ := ask_parts ho
    simp only [Bool.true_eq_false, if_false]
    by_cases hs : b < s
    · simp only [hs, if_true]
      exact (rbtake_long g b n e s a w h hb ho hs).mono fun _ _ ⟨x, y⟩ => ⟨x, y ▸ h, y ▸ Chg.refl _ _⟩
    · simp only [hs, if_false]
      cases hf : freshB b n e s a
      · exact rbtake_old g b n e s a w h hb he he2 hn hn2 ho (by omega) hf
      · exact rbtake_new g b n e s a w h hb he he2 hn hn2 ho (by omega) hf

end Go.Proofs.Ytoofokbdohdmjaa
