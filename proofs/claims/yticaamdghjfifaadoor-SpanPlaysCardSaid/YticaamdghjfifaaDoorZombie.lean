/- The contracts of a span's Zombie and Info. -/
import Derived.Test.YticaamdghjfifaaDoorSpan4
namespace Go.Proofs.YticaamdghjfifaaDoor
open Go.RowKit
set_option linter.unusedVariables false

/-- marked and not used. -/
def zB (U M : Nat → Bool) : Nat → Bool := fun j => M j && !U j

theorem word_minus (f g : Nat → Bool) (k : Nat) : word f k &&& (18446744073709551615 - word g k) = word (fun j => f j && !g j) k := by
  refine eq_word (Nat.and_lt_two_pow _ (by omega)) fun j hj => ?_
  have hm := word_lt g k
  rw [Nat.testBit_and, word_bit f k j hj, show 18446744073709551615 - word g k = 2 ^ 64 - (word g k + 1) by omega, Nat.testBit_two_pow_sub_succ hm, word_bit g k j hj]
  rw [show decide (j < 64) = true by simpa using hj, Bool.true_and]

theorem word_eq_zero {f : Nat → Bool} {k : Nat} (h : word f k = 0) (j : Nat) (hj : j / 64 = k) : f j = false := by
  have := word_bit f k (j % 64) (by omega)
  rw [h, Nat.zero_testBit, show 64 * k + j % 64 = j by omega] at this
  exact this.symm
theorem word_ne_zero {f : Nat → Bool} {k : Nat} (h : word f k ≠ 0) : ∃ j, f j = true := by
  refine Classical.byContradiction fun hn => h ?_
  refine (eq_word (x := 0) (by decide) fun j _ => ?_).symm
  rw [Nat.zero_testBit]
  cases e : f (64 * k + j)
  · rfl
  · exact absurd ⟨_, e⟩ hn

set_option maxRecDepth 20000 in
set_option maxHeartbeats 1000000 in
theorem zombie_at (b : Nat) (s : Sp) (uv mv : Value) (nu nm : Nat) (U M : Nat → Bool) (w : World) (h : SpanAt w b s uv mv nu nm U M) :
    Calls Tryd.prog 32 #[.pointer (some ⟨b, 0, none⟩)] w fun r w' => ∃ z : Bool, r = .returned (.bool z) ∧ (z = false → ∀ j, zB U M j = false) ∧ (z = true → ∃ j, zB U M j = true) ∧ w = w' := by
  obtain ⟨pm, capm, rfl, hm1, hm2, hm3⟩ := h.mrow.form
  obtain ⟨pu, capu, rfl, hu1, hu2, hu3⟩ := h.urow.form
  have c11 : w.cell? ⟨b, 11, none⟩ = some (.slice pu nu capu) := h.cells 11 (by omega)
  have c12 : w.cell? ⟨b, 12, none⟩ = some (.slice pm nm capm) := h.cells 12 (by omega)
  have hmf := h.mrow.few
  have huf := h.urow.few
  have HMC := Lib.hid h.mrow.clear
  have HUC := Lib.hid h.urow.clear
  have HU := Lib.hid hu3
  have HM := Lib.hid hm3
  clear h hu3 hm3
  go_enter Tryd.func32, Tryd.ntmps32
  go_wp2_with fail
  go_loopw [10] (fun vi wr => ∃ k : Nat, k ≤ nm ∧ vi = .int .i64 k ∧ wr = w ∧ Hid (∀ j, j < 64 * k → zB U M j = false)) (fun vi _ => nm - (intOf vi).toNat)
  case atStart => exact ⟨0, by omega, rfl, rfl, Lib.hid (fun j hj => by omega)⟩
  case round =>
    obtain ⟨k, hk, rfl, rfl, hZ⟩ := hrel
    by_cases hlt : k < nm
    · have hm3 := HM.out
      rcases hm3 with hm3 | ⟨gm, rfl, -, -, -, hcm, -⟩
      · omega
      have hc1 := hcm k hlt
      clear hcm HM
      have hlti : (k : Int) < nm := by omega
      by_cases hku : k < nu
      · have hu3 := HU.out
        rcases hu3 with hu3 | ⟨gu, rfl, -, -, -, hcu, -⟩
        · omega
        have hc2 := hcu k hku
        clear hcu HU
        have hltu : (k : Int) < nu := by omega
        have HA := Lib.hid (u64_andNot_nat (word M k) (word U k) (word_lt _ _) (word_lt _ _))
        have HW := Lib.hid (word_minus M U k)
        generalize word M k = x at *
        generalize word U k = y at *
        by_cases hz : x &&& (18446744073709551615 - y) = 0
        · have HN := Lib.hid (show ∀ j, j < 64 * (k + 1) → zB U M j = false from fun j hj => by
            by_cases hj' : j < 64 * k
            · exact hZ.out j hj'
            · have := HW.out
              rw [hz] at this
              exact word_eq_zero this.symm j (by omega))
          have hA := HA.out
          rw [hz] at hA
          clear HA HW HMC HUC
          go_wp2_with fail
          go_roundw
          case rel => exact ⟨k + 1, hlt, by go_num, trivial, HN⟩
          case measure => simp [intOf]; omega
        · have HN := Lib.hid (show ∃ j, zB U M j = true from word_ne_zero (f := zB U M) (k := k) (by rw [show word (zB U M) k = x &&& (18446744073709551615 - y) from HW.out.symm]; exact hz))
          have hA := HA.out
          generalize x &&& (18446744073709551615 - y) = z at *
          have k1 : ((z : Int) == 0) = false := beq_eq_false_iff_ne.2 (by omega)
          clear HA HW HMC HUC
          go_wp2_with fail
          go_ret
          exact ⟨true, rfl, (by simp), fun _ => HN.out, rfl⟩
      · have HW := Lib.hid (show word M k = word (zB U M) k from word_congr fun j hj => by
          unfold zB
          rw [HUC.out (64 * k + j) (by omega)]; simp)
        generalize word M k = x at *
        have hltu : decide ((k : Int) < nu) = false := decide_eq_false (by omega)
        by_cases hz : x = 0
        · have HN := Lib.hid (show ∀ j, j < 64 * (k + 1) → zB U M j = false from fun j hj => by
            by_cases hj' : j < 64 * k
            · exact hZ.out j hj'
            · have := HW.out
              rw [hz] at this
              exact word_eq_zero this.symm j (by omega))
          subst hz
          clear HW HMC HUC
          go_wp2_with fail
          go_roundw
          case rel => exact ⟨k + 1, hlt, by go_num, trivial, HN⟩
          case measure => simp [intOf]; omega
        · have HN := Lib.hid (show ∃ j, zB U M j = true from word_ne_zero (f := zB U M) (k := k) (by rw [← HW.out]; exact hz))
          have k1 : ((x : Int) == 0) = false := beq_eq_false_iff_ne.2 (by omega)
          clear HW HMC HUC
          go_wp2_with fail
          go_ret
          exact ⟨true, rfl, (by simp), fun _ => HN.out, rfl⟩
    · obtain rfl : k = nm := by omega
      have HN := Lib.hid (show ∀ j, zB U M j = false from fun j => by
        by_cases hj : j < 64 * k
        · exact hZ.out j hj
        · unfold zB; rw [HMC.out j (by omega)]; rfl)
      clear HMC HUC
      go_wp2_with fail
      go_ret
      exact ⟨false, rfl, fun _ => HN.out, (by simp), rfl⟩

theorem zombie_no (b : Nat) (s : Sp) (uv mv : Value) (nu nm : Nat) (U M : Nat → Bool) (w : World) (h : SpanAt w b s uv mv nu nm U M) (hz : ∀ j, zB U M j = false) :
    Calls Tryd.prog 32 #[.pointer (some ⟨b, 0, none⟩)] w fun r w' => r = .returned (.bool false) ∧ w = w' := by
  refine (zombie_at b s uv mv nu nm U M w h).mono ?_
  rintro r w' ⟨z, rfl, h1, h2, rfl⟩
  cases z
  · exact ⟨rfl, rfl⟩
  · obtain ⟨j, hj⟩ := h2 rfl
    rw [hz j] at hj; cases hj

theorem zombie_yes (b : Nat) (s : Sp) (uv mv : Value) (nu nm : Nat) (U M : Nat → Bool) (w : World) (h : SpanAt w b s uv mv nu nm U M) (j : Nat) (hz : zB U M j = true) :
    Calls Tryd.prog 32 #[.pointer (some ⟨b, 0, none⟩)] w fun r w' => r = .returned (.bool true) ∧ w = w' := by
  refine (zombie_at b s uv mv nu nm U M w h).mono ?_
  rintro r w' ⟨z, rfl, h1, h2, rfl⟩
  cases z
  · have := h1 rfl j
    rw [hz] at this; cases this
  · exact ⟨rfl, rfl⟩

/-! ### Info -/
def infoL (s : Sp) : List Value := [.int .u64 s.base, .int .i64 s.pages, .int .i64 s.state, .int .i64 s.cls, .bool s.noptr, .int .i64 s.elem, .int .i64 s.slots, .int .i64 s.used, .bool s.swept, .bool s.held]

set_option maxHeartbeats 1000000 in
theorem info_any (b : Nat) (F : Nat → Prop) (s : Sp) (U M : Nat → Bool) (w : World) (h : SpanIs w b F s U M) :
    Calls Tryd.prog 16 #[.pointer (some ⟨b, 0, none⟩)] w fun r w' => r = .returned (.agg (infoL s).toArray) ∧ Ext w w' := by
  obtain ⟨uv, mv, nu, nm, h1, h2⟩ := h.at_
  have c0 : w.cell? ⟨b, 0, none⟩ = some (.int .u64 s.base) := h1.cells 0 (by omega)
  have c1 : w.cell? ⟨b, 1, none⟩ = some (.int .i64 s.pages) := h1.cells 1 (by omega)
  have c2 : w.cell? ⟨b, 2, none⟩ = some (.int .i64 s.state) := h1.cells 2 (by omega)
  have c3 : w.cell? ⟨b, 3, none⟩ = some (.int .i64 s.cls) := h1.cells 3 (by omega)
  have c4 : w.cell? ⟨b, 4, none⟩ = some (.bool s.noptr) := h1.cells 4 (by omega)
  have c5 : w.cell? ⟨b, 5, none⟩ = some (.int .i64 s.elem) := h1.cells 5 (by omega)
  have c6 : w.cell? ⟨b, 6, none⟩ = some (.int .i64 s.slots) := h1.cells 6 (by omega)
  have c7 : w.cell? ⟨b, 7, none⟩ = some (.int .i64 s.used) := h1.cells 7 (by omega)
  have c8 : w.cell? ⟨b, 8, none⟩ = some (.bool s.swept) := h1.cells 8 (by omega)
  have c9 : w.cell? ⟨b, 9, none⟩ = some (.bool s.held) := h1.cells 9 (by omega)
  have hlt := h1.lt
  have hne : b ≠ w.heap.size := by omega
  have hne2 : w.heap.size ≠ b := by omega
  have f9 := h1.fz
  clear h h1 h2
  go_enter Tryd.func16, Tryd.ntmps16
  go_wp2_with fail
  refine bodyPost_ret (v := .agg (infoL s).toArray) ?c1 ?c2 ?c3
  case c1 => simp [results, Tryd.results16, go_sem, infoL]
  case c2 => rfl
  case c3 =>
    exact ⟨rfl, (Ext.refl _).alloc _ _⟩

end Go.Proofs.YticaamdghjfifaaDoor
