/- The reference's rows of truths: Words. -/
import Derived.Test.YtmiogoecjoldoaaRefBC
import Derived.Test.YtmiogoecjoldoaaBitsE
namespace Go.Proofs.Ytmiogoecjoldoaa
open Go.RowKit
set_option linter.unusedVariables false

/-- what a word has come to when so many bits are left. -/
def wd (f : Nat → Bool) (m k : Nat) : Nat := word f k / 2 ^ (m - 64 * k)
theorem wd_full (f : Nat → Bool) (k : Nat) (hk : k < 8) : wd f 512 k = 0 := by
  unfold wd
  refine Nat.div_eq_of_lt (Nat.lt_of_lt_of_le (word_lt f k) (Nat.pow_le_pow_right (by decide) (by omega)))
theorem wd_zero (f : Nat → Bool) (k : Nat) : wd f 0 k = word f k := by
  unfold wd; rw [Nat.zero_sub, Nat.pow_zero, Nat.div_one]
theorem wd_far (f : Nat → Bool) (m k : Nat) (h : k ≠ m / 64) : wd f m k = wd f (m + 1) k := by
  unfold wd
  by_cases hlt : k < m / 64
  · rw [Nat.div_eq_of_lt (Nat.lt_of_lt_of_le (word_lt f k) (Nat.pow_le_pow_right (by decide) (by omega))), Nat.div_eq_of_lt (Nat.lt_of_lt_of_le (word_lt f k) (Nat.pow_le_pow_right (by decide) (by omega)))]
  · rw [show m - 64 * k = 0 by omega, show m + 1 - 64 * k = 0 by omega]
theorem wd_step (f : Nat → Bool) (m : Nat) : wd f m (m / 64) = 2 * wd f (m + 1) (m / 64) + (f m).toNat := by
  have hb := word_bit f (m / 64) (m % 64) (by omega)
  rw [show 64 * (m / 64) + m % 64 = m by omega, Nat.testBit_eq_decide_div_mod_eq] at hb
  unfold wd
  rw [show m - 64 * (m / 64) = m % 64 by omega, show m + 1 - 64 * (m / 64) = m % 64 + 1 by omega, Nat.pow_succ, ← Nat.div_div_eq_div_mul]
  rw [← hb]
  generalize word f (m / 64) / 2 ^ (m % 64) = y
  by_cases h : y % 2 = 1
  · rw [decide_eq_true h]; show y = 2 * (y / 2) + 1; omega
  · rw [decide_eq_false h]; show y = 2 * (y / 2) + 0; omega
theorem wd_half (f : Nat → Bool) (m : Nat) : wd f (m + 1) (m / 64) ≤ 9223372036854775807 := by
  unfold wd
  have h := word_lt f (m / 64)
  have : word f (m / 64) / 2 ^ (m + 1 - 64 * (m / 64)) ≤ word f (m / 64) / 2 ^ 1 := Nat.div_le_div_left (Nat.pow_le_pow_right (by decide) (by omega)) (by decide)
  omega

/-- the memory while words are reckoned. -/
structure WdRel (w wr : World) (g : Nat) (f : Nat → Bool) (m : Nat) : Prop where
  res : Blk wr g 23 #[.int .u64 0, .int .u64 0, .int .u64 0, .int .u64 0, .int .u64 0, .int .u64 0, .int .u64 0, .int .u64 0]
  cell : ∀ k, k < 8 → wr.cell? ⟨g + 1, k, none⟩ = some (.int .u64 (wd f m k : Nat))
  frozen : ∀ k, wr.frozen? ⟨g + 1, k, none⟩ = false
  ext : Ext w wr
theorem WdRel.one {w wr : World} {g m : Nat} {f : Nat → Bool} (h : WdRel w wr g f (m + 1)) (hm : m < 512) (hg : w.heap.size ≤ g) (v : Nat) (hv : wd f m (m / 64) = v) : WdRel w (wr.setCell ⟨g + 1, m / 64, none⟩ (.int .u64 (v : Nat))) g f m where
  res := h.res.far (p := ⟨g + 1, m / 64, none⟩) (by simp) _
  cell := fun k hk => by
    by_cases e : k = m / 64
    · subst e
      rw [hv]
      exact set_same (h.cell _ hk)
    · rw [wd_far f m k e]
      exact (set_other (ne_off (by omega))).trans (h.cell k hk)
  frozen := fun j => (World.frozen?_setCell _ _ _ _).trans (h.frozen j)
  ext := h.ext.setCell (by simp; omega) _
theorem WdRel.two {w wr : World} {g m : Nat} {f : Nat → Bool} (h : WdRel w wr g f (m + 1)) (hm : m < 512) (hg : w.heap.size ≤ g) (u : Value) (v : Nat) (hv : wd f m (m / 64) = v) : WdRel w ((wr.setCell ⟨g + 1, m / 64, none⟩ u).setCell ⟨g + 1, m / 64, none⟩ (.int .u64 (v : Nat))) g f m where
  res := (h.res.far (p := ⟨g + 1, m / 64, none⟩) (by simp) _).far (p := ⟨g + 1, m / 64, none⟩) (by simp) _
  cell := fun k hk => by
    by_cases e : k = m / 64
    · subst e
      rw [hv]
      exact set_same (set_same (h.cell _ hk))
    · rw [wd_far f m k e]
      exact (set_other (ne_off (by omega))).trans ((set_other (ne_off (by omega))).trans (h.cell k hk))
  frozen := fun j => (World.frozen?_setCell _ _ _ _).trans ((World.frozen?_setCell _ _ _ _).trans (h.frozen j))
  ext := (h.ext.setCell (by simp; omega) _).setCell (by simp; omega) _

theorem wdrel_new (f : Nat → Bool) (w : World) : WdRel w ((w.alloc (.cells #[.int .u64 0, .int .u64 0, .int .u64 0, .int .u64 0, .int .u64 0, .int .u64 0, .int .u64 0, .int .u64 0] 23)).alloc (.cells #[.int .u64 0, .int .u64 0, .int .u64 0, .int .u64 0, .int .u64 0, .int .u64 0, .int .u64 0, .int .u64 0] 23)) w.heap.size f 512 := by
  have h2 := Blk.new (w.alloc (.cells #[.int .u64 0, .int .u64 0, .int .u64 0, .int .u64 0, .int .u64 0, .int .u64 0, .int .u64 0, .int .u64 0] 23)) 23 #[.int .u64 0, .int .u64 0, .int .u64 0, .int .u64 0, .int .u64 0, .int .u64 0, .int .u64 0, .int .u64 0]
  simp only [World.size_alloc] at h2
  refine ⟨(Blk.new w _ _).alloc _, fun k hk => ?_, fun k => h2.frozen k, ((Ext.refl _).alloc _ _).alloc _ _⟩
  rw [wd_full f k hk, h2.cell k]
  obtain rfl | rfl | rfl | rfl | rfl | rfl | rfl | rfl : k = 0 ∨ k = 1 ∨ k = 2 ∨ k = 3 ∨ k = 4 ∨ k = 5 ∨ k = 6 ∨ k = 7 := by omega
  all_goals rfl

set_option maxRecDepth 20000 in
set_option maxHeartbeats 2000000 in
theorem rwords_any (b o : Nat) (f : Nat → Bool) (w : World) (h : TrueAt w b o f) :
    Calls Try.prog 24 #[.pointer (some ⟨b, o, none⟩)] w fun r w' => r = .returned (.agg (arr f)) ∧ Ext w w' := by
  have HH := Lib.hid h
  have hlt := h.lt
  clear h
  go_enter Try.func24, Try.ntmps24
  go_wp2
  go_loopw [4] (fun vi wr => ∃ m : Nat, m ≤ 512 ∧ vi = .int .i64 ((m : Int) - 1) ∧ Hid (WdRel w wr w.heap.size f m)) (fun vi _ => (intOf vi + 1).toNat)
  case atStart => exact ⟨512, by omega, rfl, Lib.hid (wdrel_new f w)⟩
  case round =>
    obtain ⟨m', hm, rfl, hR⟩ := hrel
    cases m' with
    | zero =>
      have HX := Lib.hid hR.out.ext
      have c0 := hR.out.cell 0 (by omega)
      have c1 := hR.out.cell 1 (by omega)
      have c2 := hR.out.cell 2 (by omega)
      have c3 := hR.out.cell 3 (by omega)
      have c4 := hR.out.cell 4 (by omega)
      have c5 := hR.out.cell 5 (by omega)
      have c6 := hR.out.cell 6 (by omega)
      have c7 := hR.out.cell 7 (by omega)
      have d0 := hR.out.res.cell 0
      have d1 := hR.out.res.cell 1
      have d2 := hR.out.res.cell 2
      have d3 := hR.out.res.cell 3
      have d4 := hR.out.res.cell 4
      have d5 := hR.out.res.cell 5
      have d6 := hR.out.res.cell 6
      have d7 := hR.out.res.cell 7
      simp only [List.getElem?_toArray, List.getElem?_cons_succ, List.getElem?_cons_zero] at d0 d1 d2 d3 d4 d5 d6 d7
      have fr := hR.out.res.frozen
      simp only [wd_zero] at c0 c1 c2 c3 c4 c5 c6 c7
      clear hR
      have HA := Lib.hid (show arr f = #[.int .u64 (word f 0 : Nat), .int .u64 (word f 1 : Nat), .int .u64 (word f 2 : Nat), .int .u64 (word f 3 : Nat), .int .u64 (word f 4 : Nat), .int .u64 (word f 5 : Nat), .int .u64 (word f 6 : Nat), .int .u64 (word f 7 : Nat)] from rfl)
      generalize word f 0 = x0 at *
      generalize word f 1 = x1 at *
      generalize word f 2 = x2 at *
      generalize word f 3 = x3 at *
      generalize word f 4 = x4 at *
      generalize word f 5 = x5 at *
      generalize word f 6 = x6 at *
      generalize word f 7 = x7 at *
      go_wp2
      refine bodyPost_ret (v := .agg #[.int .u64 x0, .int .u64 x1, .int .u64 x2, .int .u64 x3, .int .u64 x4, .int .u64 x5, .int .u64 x6, .int .u64 x7]) ?c1 ?c2 ?c3
      case c2 => rfl
      case c3 => exact ⟨by rw [HA.out], (((((((HX.out.setCell (by simp) _).setCell (by simp) _).setCell (by simp) _).setCell (by simp) _).setCell (by simp) _).setCell (by simp) _).setCell (by simp) _).setCell (by simp) _⟩
      case c1 => simp [results, Try.results24, go_sem, d0, d1, d2, d3, d4, d5, d6, d7]
    | succ m =>
      have hc := (HH.out.later hR.out.ext).cell m (by omega)
      have hw := hR.out.cell (m / 64) (by omega)
      have fr := hR.out.frozen (m / 64)
      have hb := wd_half f m
      have hs := wd_step f m
      have hm5 : (m : Int) < 512 := by omega
      have hm8 : (m : Int) / 64 < 8 := by omega
      rw [show (((m + 1 : Nat) : Int) - 1) = (m : Int) by omega]
      cases hf : f m
      · rw [hf] at hc hs
        have HN := Lib.hid (hR.out.one (by omega) (Nat.le_refl _) (2 * wd f (m + 1) (m / 64)) (by simpa using hs))
        clear hR hs hf
        generalize wd f (m + 1) (m / 64) = x at *
        have hx0 : (x : Int) ≤ 9223372036854775807 := by omega
        go_wp2
        go_roundw
        case rel => exact ⟨m, by omega, rfl, HN⟩
        case measure => simp [intOf]
      · rw [hf] at hc hs
        have HN := Lib.hid (hR.out.two (by omega) (Nat.le_refl _) (.int .u64 (2 * wd f (m + 1) (m / 64) : Nat)) (2 * wd f (m + 1) (m / 64) + 1) (by simpa using hs))
        clear hR hs hf
        generalize wd f (m + 1) (m / 64) = x at *
        have hx0 : (x : Int) ≤ 9223372036854775807 := by omega
        go_wp2
        go_roundw
        case rel => exact ⟨m, by omega, rfl, HN⟩
        case measure => simp [intOf]

end Go.Proofs.Ytmiogoecjoldoaa
