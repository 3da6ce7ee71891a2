/- Rows of bits as long as they must be: the first place that is free. -/
import Derived.Test.YticaamdghjfifaaDoorRowA
import Derived.WalkLawsBesides
namespace Go.Proofs.YticaamdghjfifaaDoor
open Go.RowKit
set_option linter.unusedVariables false

theorem free_is {f : Nat → Bool} {i r r' : Nat} (h : freeAt f i r) (h' : freeAt f i r') : r = r' := by
  rcases Nat.lt_trichotomy r r' with hlt | e | hgt
  · have := h'.2.2 r h.1 hlt; rw [h.2.1] at this; cases this
  · exact e
  · have := h.2.2 r' h'.1 hgt; rw [h'.2.1] at this; cases this

/-- the word that is looked at: bits ahead of i count as set. -/
def yw (f : Nat → Bool) (i k : Nat) : Nat := if k = i / 64 then word f k ||| maskN 0 (i % 64) else word f k
theorem yw_lt (f : Nat → Bool) (i k : Nat) : yw f i k < 18446744073709551616 := by
  unfold yw
  split
  · exact Nat.or_lt_two_pow (n := 64) (word_lt f k) (maskN_lt 0 (i % 64) (by omega))
  · exact word_lt f k
theorem yw_bit (f : Nat → Bool) (i k j : Nat) (hk : i / 64 ≤ k) (hj : j < 64) : (yw f i k).testBit j = (f (64 * k + j) || decide (64 * k + j < i)) := by
  unfold yw
  split
  · rw [Nat.testBit_or, word_bit f k j hj, maskN_bit]
    congr 1
    rw [decide_eq_decide]; omega
  · rw [word_bit f k j hj, decide_eq_false (by omega), Bool.or_false]
theorem yw_full {f : Nat → Bool} {i k : Nat} (hk : i / 64 ≤ k) (h : yw f i k = 18446744073709551615) : ∀ j, i ≤ j → 64 * k ≤ j → j < 64 * k + 64 → f j = true := fun j h1 h2 h3 => by
  have := yw_bit f i k (j - 64 * k) hk (by omega)
  rw [h, show 64 * k + (j - 64 * k) = j by omega, show (18446744073709551615 : Nat) = 2 ^ 64 - 1 from rfl, Nat.testBit_two_pow_sub_one, decide_eq_true (by omega), decide_eq_false (by omega), Bool.or_false] at this
  exact this.symm
theorem not_bit (y j : Nat) (hy : y < 18446744073709551616) (hj : j < 64) : (18446744073709551615 - y).testBit j = !y.testBit j := by
  rw [show 18446744073709551615 - y = 2 ^ 64 - (y + 1) by omega, Nat.testBit_two_pow_sub_succ (by omega), decide_eq_true hj, Bool.true_and]
theorem yw_free {f : Nat → Bool} {i k : Nat} (hk : i / 64 ≤ k) (h : yw f i k ≠ 18446744073709551615) (hp : ∀ j, i ≤ j → j < 64 * k → f j = true) : freeAt f i (64 * k + Lib.ctz 64 (18446744073709551615 - yw f i k)) := by
  have hy := yw_lt f i k
  obtain ⟨h1, h2, h3⟩ := ctz_spec (18446744073709551615 - yw f i k) (by omega) (by omega)
  generalize Lib.ctz 64 (18446744073709551615 - yw f i k) = c at *
  rw [not_bit _ _ hy h1, yw_bit f i k c hk h1] at h2
  have h2' : f (64 * k + c) = false ∧ ¬ 64 * k + c < i := by
    revert h2
    cases f (64 * k + c) <;> by_cases hd : 64 * k + c < i <;> simp [hd]
  refine ⟨by omega, h2'.1, fun j h4 h5 => ?_⟩
  by_cases hj : j < 64 * k
  · exact hp j h4 hj
  · have := h3 (j - 64 * k) (by omega)
    rw [not_bit _ _ hy (by omega), yw_bit f i k (j - 64 * k) hk (by omega), show 64 * k + (j - 64 * k) = j by omega, decide_eq_false (by omega), Bool.or_false] at this
    simpa using this

theorem or_mask (x a : Nat) (hx : x < 18446744073709551616) (ha : a < 64) : bits .or .u64 (x : Int) (((maskN a 1 : Nat) : Int) - 1) = ((x ||| maskN 0 a : Nat) : Int) := by
  have e : ((maskN a 1 : Nat) : Int) - 1 = ((maskN 0 a : Nat) : Int) := by
    have : maskN a 1 = maskN 0 a + 1 := by
      unfold maskN
      have := Nat.two_pow_pos a
      rw [show (2 ^ 1 - 1 : Nat) = 1 from rfl, Nat.mul_one, Nat.pow_zero, Nat.one_mul]; omega
    rw [this]; omega
  rw [e]
  exact u64_or_nat x _ hx (maskN_lt 0 a (by omega))

theorem not_is (y : Nat) (hy : y < 18446744073709551616) : bits .xor .u64 IntKind.u64.max (y : Int) = ((18446744073709551615 - y : Nat) : Int) := by
  have h := u64_xor_nat 18446744073709551615 y (by omega) hy
  have e : (18446744073709551615 : Nat) ^^^ y = 18446744073709551615 - y := by
    apply Nat.eq_of_testBit_eq
    intro j
    rw [Nat.testBit_xor]
    by_cases hj : j < 64
    · rw [not_bit y j hy hj, show (18446744073709551615 : Nat) = 2 ^ 64 - 1 from rfl, Nat.testBit_two_pow_sub_one, decide_eq_true hj, Bool.true_xor]
    · rw [show (18446744073709551615 : Nat) = 2 ^ 64 - 1 from rfl, Nat.testBit_two_pow_sub_one, decide_eq_false hj, Bool.false_xor,
        Nat.testBit_lt_two_pow (Nat.lt_of_lt_of_le hy (Nat.pow_le_pow_right (by decide) (by omega) : 2 ^ 64 ≤ 2 ^ j)),
        Nat.testBit_lt_two_pow (Nat.lt_of_lt_of_le (show 2 ^ 64 - 1 - y < 2 ^ 64 by omega) (Nat.pow_le_pow_right (by decide) (by omega)))]
  rw [← e]; exact h

set_option maxRecDepth 20000 in
set_option maxHeartbeats 1000000 in
theorem rfree_any (B n i r : Nat) (v : Value) (f : Nat → Bool) (w : World) (h : WRow w B v n f) (hi : i ≤ 1125899906842624) (hr : freeAt f i r) (ht : TzAt w) :
    Calls Tryd.prog 28 #[v, .int .i64 i] w fun e w' => e = .returned (.int .i64 r) ∧ w = w' := by
  obtain ⟨p, cap, rfl, hnc, hcm, hp⟩ := h.form
  have hfew := h.few
  have HC := Lib.hid h.clear
  have HR := Lib.hid hr
  have HT := Lib.hid ht
  have HP := Lib.hid hp
  clear h hr ht hp hcm
  go_enter Tryd.func28, Tryd.ntmps28
  go_wp2
  go_loop [5, 6] (fun vk vw => ∃ k : Nat, vk = .int .i64 k ∧ i / 64 ≤ k ∧ (k = i / 64 ∨ k ≤ n) ∧ Hid (∀ j, i ≤ j → j < 64 * k → f j = true)) (fun vk _ => n - (intOf vk).toNat)
  case atStart => exact ⟨i / 64, congrArg (Value.int IntKind.i64) (by omega), by omega, .inl rfl, Lib.hid (fun j h1 h2 => by omega)⟩
  case round =>
    obtain ⟨k, rfl, hk1, hk2, hF⟩ := hrel
    by_cases hlt : k < n
    · obtain ⟨g, rfl, hc⟩ : ∃ g, p = some ⟨g, 0, none⟩ ∧ w.cell? ⟨g, k, none⟩ = some (.int .u64 (word f k : Nat)) := by
        rcases HP.out with e | ⟨g, e, -, -, -, hc, -⟩
        · omega
        · exact ⟨g, e, hc k hlt⟩
      have hlt2 : (k : Int) < n := by omega
      have hb := and63 i (by omega)
      have HM := bit_is (i % 64) (by omega)
      have hm1 : (1 : Int) ≤ ((maskN (i % 64) 1 : Nat) : Int) := by
        have := Nat.two_pow_pos (i % 64)
        unfold maskN; rw [show (2 ^ 1 - 1 : Nat) = 1 from rfl, Nat.mul_one]; omega
      have HO := or_mask (word f k) (i % 64) (word_lt f k) (by omega)
      have hml := maskN_lt (i % 64) 1 (by omega)
      have HFree := Lib.hid (fun h => free_is HR.out (yw_free (f := f) (i := i) (k := k) hk1 h hF.out))
      have HFull := Lib.hid (fun h => yw_full (f := f) (i := i) (k := k) hk1 h)
      have hyl := yw_lt f i k
      by_cases hki : k = i / 64
      · have hkb : ((k : Int) == (i : Int) / 64) = true := by simp; omega
        have HY := Lib.hid (show yw f i k = word f k ||| maskN 0 (i % 64) by unfold yw; rw [if_pos hki])
        rw [← HY.out] at HO
        clear hki
        generalize yw f i k = y at *
        generalize maskN (i % 64) 1 = m at *
        generalize word f k = x at *
        clear HY
        by_cases hfull : y = 18446744073709551615
        · have k9 : ((y : Int) != 18446744073709551615) = false := by simp; omega
          have HN := Lib.hid (show ∀ j, i ≤ j → j < 64 * (k + 1) → f j = true from fun j h1 h2 => by
            by_cases hj : j < 64 * k
            · exact hF.out j h1 hj
            · exact HFull.out hfull j h1 (by omega) (by omega))
          clear hF HFull HFree hfull
          go_wp2
          go_round
          case rel => exact ⟨k + 1, by go_num, by omega, .inr (by omega), HN⟩
          case measure => simp [intOf]; omega
        · have k9 : ((y : Int) != 18446744073709551615) = true := by simp; omega
          have HE := Lib.hid (HFree.out hfull)
          have HZ := Lib.hid (tz_any (18446744073709551615 - y) w (by omega) (by omega) HT.out)
          have hx := not_is y hyl
          have hc64 := (ctz_spec (18446744073709551615 - y) (by omega) (by omega)).1
          generalize Lib.ctz 64 (18446744073709551615 - y) = c at *
          generalize 18446744073709551615 - y = z at *
          clear hF HFull HFree hfull
          go_wp2_with fail
          refine HZ.out.mono ?_
          rintro e w1 ⟨rfl, rfl⟩
          go_wp2_with fail
          go_ret
          exact ⟨congrArg (fun a => Ending.returned (Value.int .i64 a)) (by rw [HE.out]; omega), rfl⟩
      · have hkb : ((k : Int) == (i : Int) / 64) = false := by simp; omega
        have HY := Lib.hid (show yw f i k = word f k by unfold yw; rw [if_neg hki])
        rw [HY.out] at HFree HFull hyl
        clear hki HO HM hm1 hml hb
        generalize word f k = y at *
        clear HY
        by_cases hfull : y = 18446744073709551615
        · have k9 : ((y : Int) != 18446744073709551615) = false := by simp; omega
          have HN := Lib.hid (show ∀ j, i ≤ j → j < 64 * (k + 1) → f j = true from fun j h1 h2 => by
            by_cases hj : j < 64 * k
            · exact hF.out j h1 hj
            · exact HFull.out hfull j h1 (by omega) (by omega))
          clear hF HFull HFree hfull
          go_wp2
          go_round
          case rel => exact ⟨k + 1, by go_num, by omega, .inr (by omega), HN⟩
          case measure => simp [intOf]; omega
        · have k9 : ((y : Int) != 18446744073709551615) = true := by simp; omega
          have HE := Lib.hid (HFree.out hfull)
          have HZ := Lib.hid (tz_any (18446744073709551615 - y) w (by omega) (by omega) HT.out)
          have hx := not_is y hyl
          have hc64 := (ctz_spec (18446744073709551615 - y) (by omega) (by omega)).1
          generalize Lib.ctz 64 (18446744073709551615 - y) = c at *
          generalize 18446744073709551615 - y = z at *
          clear hF HFull HFree hfull
          go_wp2_with fail
          refine HZ.out.mono ?_
          rintro e w1 ⟨rfl, rfl⟩
          go_wp2_with fail
          go_ret
          exact ⟨congrArg (fun a => Ending.returned (Value.int .i64 a)) (by rw [HE.out]; omega), rfl⟩
    · have hge : decide (k < n) = false := decide_eq_false hlt
      have hway : (64 * n ≤ i ∧ r = i) ∨ (i < 64 * n ∧ r = 64 * n) := by
        by_cases h : 64 * n ≤ i
        · left
          exact ⟨h, free_is HR.out ⟨Nat.le_refl _, HC.out i h, fun j h1 h2 => by omega⟩⟩
        · right
          refine ⟨by omega, free_is HR.out ⟨by omega, HC.out _ (Nat.le_refl _), fun j h1 h2 => hF.out j h1 (by omega)⟩⟩
      clear hF hlt
      rcases hway with ⟨hle, rfl⟩ | ⟨hle, rfl⟩
      · have hle2 : (n : Int) * 64 ≤ r := by omega
        go_wp2
        go_ret
        exact ⟨rfl, rfl⟩
      · have hle2 : (i : Int) < (n : Int) * 64 := by omega
        go_wp2
        go_ret
        exact ⟨congrArg (fun a => Ending.returned (Value.int .i64 a)) (by omega), rfl⟩

end Go.Proofs.YticaamdghjfifaaDoor
