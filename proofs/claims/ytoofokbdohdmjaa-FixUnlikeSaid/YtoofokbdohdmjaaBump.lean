/- The contracts of NewBump, Bump.Take, Bump.Blocks. -/
import Derived.Test.YtoofokbdohdmjaaChg
import Derived.Test.YtoofokbdohdmjaaNumPow
import Derived.Test.YtoofokbdohdmjaaNumUp
import Derived.BigRegion
namespace Go.Proofs.Ytoofokbdohdmjaa
open Go.RowKit
set_option linter.unusedVariables false

def bumpOk (b : Int) : Bool := decide (64 ≤ b ∧ b ≤ 1048576) && powB b

theorem newBump_no (b : Int) (w : World) (h : bumpOk b = false) (hw : (Lit.int .i64 b).wf = true) : Calls Try.prog 15 #[.int .i64 b] w fun r w' => r = .returned (.tuple #[.pointer none, .int .i64 1]) ∧ w = w' := by
  by_cases h1 : 64 ≤ b
  · by_cases h2 : b ≤ 1048576
    · have hp : powB b = false := by unfold bumpOk at h; simpa [h1, h2] using h
      clear h
      go_enter Try.func15, Try.ntmps15
      go_wp2_with (go_at_call 26; refine (pow_any _ _ (by omega) (by omega)).mono ?_; rintro e w' ⟨rfl, rfl⟩)
      go_ret2
      exact ⟨rfl, rfl⟩
    · clear h
      have h3 : decide (1048576 < b) = true := decide_eq_true (by omega)
      go_enter Try.func15, Try.ntmps15
      go_wp2
      go_ret2
      exact ⟨rfl, rfl⟩
  · clear h
    have h3 : decide (b < 64) = true := decide_eq_true (by omega)
    go_enter Try.func15, Try.ntmps15
    go_wp2
    go_ret2
    exact ⟨rfl, rfl⟩

/-- a bump: its block's bytes, how many blocks, where the last one's free bytes begin. -/
def BumpAt (w : World) (g : Nat) (b n e : Int) : Prop := Blk w g 66 #[.int .i64 b, .int .i64 n, .int .i64 e]

theorem newBump_yes (b : Int) (w : World) (h : bumpOk b = true) : Calls Try.prog 15 #[.int .i64 b] w fun r w' => r = .returned (.tuple #[.pointer (some ⟨w.heap.size, 0, none⟩), .int .i64 0]) ∧ BumpAt w' w.heap.size b 0 0 ∧ Ext w w' := by
  unfold bumpOk at h
  simp only [Bool.and_eq_true, decide_eq_true_eq] at h
  obtain ⟨⟨h1, h2⟩, hp⟩ := h
  go_enter Try.func15, Try.ntmps15
  go_wp2_with (go_at_call 26; refine (pow_any _ _ (by omega) (by omega)).mono ?_; rintro e w' ⟨rfl, rfl⟩)
  go_ret2
  exact ⟨rfl, Blk.new _ _ _, (Ext.refl _).alloc _ _⟩

theorem blocks_any (g : Nat) (b n e : Int) (w : World) (h : BumpAt w g b n e) : Calls Try.prog 19 #[.pointer (some ⟨g, 0, none⟩)] w fun r w' => r = .returned (.int .i64 n) ∧ w = w' := by
  have c1 := h.cell 1
  simp at c1
  clear h
  go_enter Try.func19, Try.ntmps19
  go_wp2
  go_ret
  exact ⟨rfl, rfl⟩

/-- may such bytes be asked for? -/
def askOk (b s a : Int) : Bool := decide (1 ≤ s ∧ 1 ≤ a ∧ a ≤ b) && powB a

theorem take_arg (g : Nat) (b n e s a : Int) (w : World) (h : BumpAt w g b n e) (hb : b ≤ 1048576) (ho : askOk b s a = false) : Calls Try.prog 17 #[.pointer (some ⟨g, 0, none⟩), .int .i64 s, .int .i64 a] w fun r w' => r = .returned (.tuple #[.int .i64 0, .int .i64 0, .int .i64 1]) ∧ w = w' := by
  have c0 := h.cell 0
  simp at c0
  clear h
  by_cases h1 : 1 ≤ s
  · by_cases h2 : 1 ≤ a
    · have k1 : decide (s < 1) = false := decide_eq_false (by omega)
      have k2 : decide (a < 1) = false := decide_eq_false (by omega)
      by_cases h3 : a ≤ b
      · have k3 : decide (b < a) = false := decide_eq_false (by omega)
        have hp : powB a = false := by unfold askOk at ho; simpa [h1, h2, h3] using ho
        clear ho
        go_enter Try.func17, Try.ntmps17
        go_wp2_with (go_at_call 26; refine (pow_any _ _ (by omega) (by omega)).mono ?_; rintro e w' ⟨rfl, rfl⟩)
        go_ret3
        exact ⟨rfl, rfl⟩
      · have k3 : decide (b < a) = true := decide_eq_true (by omega)
        clear ho
        go_enter Try.func17, Try.ntmps17
        go_wp2
        go_ret3
        exact ⟨rfl, rfl⟩
    · have k1 : decide (s < 1) = false := decide_eq_false (by omega)
      have k2 : decide (a < 1) = true := decide_eq_true (by omega)
      clear ho
      go_enter Try.func17, Try.ntmps17
      go_wp2
      go_ret3
      exact ⟨rfl, rfl⟩
  · have k1 : decide (s < 1) = true := decide_eq_true (by omega)
    clear ho
    go_enter Try.func17, Try.ntmps17
    go_wp2
    go_ret3
    exact ⟨rfl, rfl⟩

theorem ask_parts {b s a : Int} (h : askOk b s a = true) : 1 ≤ s ∧ 1 ≤ a ∧ a ≤ b ∧ powB a = true := by
  unfold askOk at h
  simp only [Bool.and_eq_true, decide_eq_true_eq] at h
  exact ⟨h.1.1, h.1.2.1, h.1.2.2, h.2⟩

theorem take_long (g : Nat) (b n e s a : Int) (w : World) (h : BumpAt w g b n e) (hb : b ≤ 1048576) (ho : askOk b s a = true) (hl : b < s) : Calls Try.prog 17 #[.pointer (some ⟨g, 0, none⟩), .int .i64 s, .int .i64 a] w fun r w' => r = .returned (.tuple #[.int .i64 0, .int .i64 0, .int .i64 2]) ∧ w = w' := by
  have c0 := h.cell 0
  simp at c0
  clear h
  obtain ⟨h1, h2, h3, hp⟩ := ask_parts ho
  clear ho
  have k1 : decide (s < 1) = false := decide_eq_false (by omega)
  have k2 : decide (a < 1) = false := decide_eq_false (by omega)
  have k3 : decide (b < a) = false := decide_eq_false (by omega)
  have k4 : decide (b < s) = true := decide_eq_true (by omega)
  go_enter Try.func17, Try.ntmps17
  go_wp2_with (go_at_call 26; refine (pow_any _ _ (by omega) (by omega)).mono ?_; rintro e w' ⟨rfl, rfl⟩)
  go_ret3
  exact ⟨rfl, rfl⟩

/-- is a new block wanted? -/
def freshB (b n e s a : Int) : Bool := (n == 0) || decide (b - s < upV e a)

theorem take_old (g : Nat) (b n e s a : Int) (w : World) (h : BumpAt w g b n e) (hb : b ≤ 1048576) (he : 0 ≤ e) (he2 : e ≤ b) (hn : 0 ≤ n) (hn2 : n ≤ 1000000) (ho : askOk b s a = true) (hl : s ≤ b) (hu : upV e a ≤ 4194304) (hu0 : 0 ≤ upV e a) (hf : freshB b n e s a = false) :
    Calls Try.prog 17 #[.pointer (some ⟨g, 0, none⟩), .int .i64 s, .int .i64 a] w fun r w' => r = .returned (.tuple #[.int .i64 (n - 1), .int .i64 (upV e a), .int .i64 0]) ∧ BumpAt w' g b n (upV e a + s) ∧ Chg (· = g) w w' := by
  have c0 := h.cell 0
  have c1 := h.cell 1
  have c2 := h.cell 2
  simp at c0 c1 c2
  have f := h.frozen
  have HH := Lib.hid h
  clear h
  obtain ⟨h1, h2, h3, hp⟩ := ask_parts ho
  clear ho
  unfold freshB at hf
  simp only [Bool.or_eq_false_iff] at hf
  obtain ⟨hf1, hf2⟩ := hf
  have k1 : decide (s < 1) = false := decide_eq_false (by omega)
  have k2 : decide (a < 1) = false := decide_eq_false (by omega)
  have k3 : decide (b < a) = false := decide_eq_false (by omega)
  have k4 : decide (b < s) = false := decide_eq_false (by omega)
  have HU := Lib.hid (fun w => up_any e a w (by omega) (by omega) (by omega) (by omega))
  generalize upV e a = u at *
  go_enter Try.func17, Try.ntmps17
  go_wp2_with (first | (go_at_call 26; refine (pow_any _ _ (by omega) (by omega)).mono ?_; rintro e w' ⟨rfl, rfl⟩) | (go_at_call 28; refine (HU.out _).mono ?_; rintro e w' ⟨rfl, rfl⟩))
  go_ret3
  refine ⟨rfl, ?_, (Chg.refl (· = g) w).setCell (p := ⟨g, 2, none⟩) (.inl rfl) _⟩
  have := HH.out.set_ 2 (.int .i64 (u + s))
  simpa [BumpAt] using this

theorem take_new (g : Nat) (b n e s a : Int) (w : World) (h : BumpAt w g b n e) (hb : b ≤ 1048576) (he : 0 ≤ e) (he2 : e ≤ b) (hn : 0 ≤ n) (hn2 : n ≤ 1000000) (ho : askOk b s a = true) (hl : s ≤ b) (hu : upV e a ≤ 4194304) (hu0 : 0 ≤ upV e a) (hf : freshB b n e s a = true) :
    Calls Try.prog 17 #[.pointer (some ⟨g, 0, none⟩), .int .i64 s, .int .i64 a] w fun r w' => r = .returned (.tuple #[.int .i64 n, .int .i64 0, .int .i64 0]) ∧ BumpAt w' g b (n + 1) s ∧ Chg (· = g) w w' := by
  have c0 := h.cell 0
  have c1 := h.cell 1
  have c2 := h.cell 2
  simp at c0 c1 c2
  have f := h.frozen
  have HH := Lib.hid h
  clear h
  obtain ⟨h1, h2, h3, hp⟩ := ask_parts ho
  clear ho
  unfold freshB at hf
  simp only [Bool.or_eq_true] at hf
  have k1 : decide (s < 1) = false := decide_eq_false (by omega)
  have k2 : decide (a < 1) = false := decide_eq_false (by omega)
  have k3 : decide (b < a) = false := decide_eq_false (by omega)
  have k4 : decide (b < s) = false := decide_eq_false (by omega)
  have HU := Lib.hid (fun w => up_any e a w (by omega) (by omega) (by omega) (by omega))
  have HE := Lib.hid (show n + 1 - 1 = n by omega)
  have HS := Lib.hid (show (0 : Int) + s = s by omega)
  generalize upV e a = u at *
  have hq : (n == 0) = true ∨ (n == 0) = false ∧ decide (b - s < u) = true := by
    cases q : (n == 0)
    · rw [q] at hf; exact .inr ⟨rfl, by simpa using hf⟩
    · exact .inl rfl
  clear hf
  rcases hq with hq | ⟨hq, hq2⟩
  all_goals
    go_enter Try.func17, Try.ntmps17
    go_wp2_with (first | (go_at_call 26; refine (pow_any _ _ (by omega) (by omega)).mono ?_; rintro e w' ⟨rfl, rfl⟩) | (go_at_call 28; refine (HU.out _).mono ?_; rintro e w' ⟨rfl, rfl⟩))
    go_ret3
    refine ⟨by first | rfl | (simp; omega), ?_, ((Chg.refl (· = g) w).setCell (p := ⟨g, 1, none⟩) (.inl rfl) _).setCell (p := ⟨g, 2, none⟩) (.inl rfl) _⟩
    have := (HH.out.set_ 1 (.int .i64 (n + 1))).set_ 2 (.int .i64 s)
    simpa [BumpAt] using this

end Go.Proofs.Ytoofokbdohdmjaa
