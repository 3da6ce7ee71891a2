/- Plain laws of mixtures with all of one and nothing of the other; where a NaN is told. -/
import Derived.Test.YtbdngcifnlkijaaNum4
namespace Go.Proofs.Ytbdngcifnlkijaa
open Go.RowKit

theorem rung_zero (i : Int) : rungOf 0 i = 0 := by unfold rungOf; rw [if_pos rfl]

theorem word_split {a : Nat} (h : a < 2 ^ 64) : (if (a / 2 ^ 63 % 2 == 1) = true then 2 ^ 63 else 0) + a % 2 ^ 63 = a := by
  by_cases c : (a / 2 ^ 63 % 2 == 1) = true
  · rw [if_pos c]; have := beq_iff_eq.1 c; omega
  · rw [if_neg c]
    have : ¬ a / 2 ^ 63 % 2 = 1 := by simpa using c
    omega

theorem mul_one {a : Nat} (h : a < 2 ^ 64) (hf : a % 2 ^ 63 < 2047 * 2 ^ 52) : floatBits .mul .f64 a p0 = some a := by
  rw [mul_num (rd_fin hf) rd_p0]
  have hb : rungOf (magR (a % 2 ^ 63) * 2 ^ 52) (placeR (a % 2 ^ 63) + -52) = a % 2 ^ 63 := by
    rw [rung_same 52 rfl (show placeR (a % 2 ^ 63) = placeR (a % 2 ^ 63) + -52 + (52 : Nat) by omega)]
    exact rung_back hf
  rw [hb, Bool.xor_false, word_split h]

theorem rd_0 : rd 0 = .number false 0 (-1074) := by decide +kernel

theorem mul_zero {a : Nat} (hf : a % 2 ^ 63 < 2047 * 2 ^ 52) : ∃ z, floatBits .mul .f64 a 0 = some z ∧ ∃ t, rd z = .number t 0 (-1074) := by
  rw [mul_num (rd_fin hf) rd_0, Nat.mul_zero, rung_zero, Bool.xor_false]
  generalize (a / 2 ^ 63 % 2 == 1) = s
  refine ⟨_, rfl, s, ?_⟩
  cases s <;> decide +kernel

theorem signed_abs (s : Bool) (m u : Nat) : (Ieee.signed s m u).natAbs = m * 2 ^ u := by
  rw [signed_eq]
  generalize m * 2 ^ u = z
  cases s <;> simp

theorem add_num {x y : Nat} {s t : Bool} {m n : Nat} {i j : Int} (hx : rd x = .number s m i) (hy : rd y = .number t n j) :
    ∃ sg : Bool, floatBits .add .f64 x y = some ((if sg then 2 ^ 63 else 0) + rungOf (Ieee.signed s m (i - min i j).toNat + Ieee.signed t n (j - min i j).toNat).natAbs (min i j)) := by
  have e : floatBits .add .f64 x y = ((rd x).sum (rd y)).map Ieee.double.write := rfl
  rw [e, hx, hy]
  refine ⟨if Ieee.signed s m (i - min i j).toNat + Ieee.signed t n (j - min i j).toNat = 0 then s && t else decide (Ieee.signed s m (i - min i j).toNat + Ieee.signed t n (j - min i j).toNat < 0), ?_⟩
  rw [← nearest_rung]
  rfl

theorem add_zero {x z : Nat} {t : Bool} (hf : x % 2 ^ 63 < 2047 * 2 ^ 52) (hz : rd z = .number t 0 (-1074)) :
    ∃ sg : Bool, floatBits .add .f64 x z = some ((if sg then 2 ^ 63 else 0) + x % 2 ^ 63) := by
  obtain ⟨sg, h⟩ := add_num (rd_fin hf) hz
  have hp := placeR_ge (x % 2 ^ 63)
  have e0 : Ieee.signed t 0 (-1074 - min (placeR (x % 2 ^ 63)) (-1074)).toNat = 0 := by rw [signed_eq]; simp
  rw [e0, Int.add_zero, signed_abs, Int.min_eq_right hp] at h
  have hb : rungOf (magR (x % 2 ^ 63) * 2 ^ (placeR (x % 2 ^ 63) - -1074).toNat) (-1074) = x % 2 ^ 63 := by
    rw [rung_same (placeR (x % 2 ^ 63) - -1074).toNat rfl (show placeR (x % 2 ^ 63) = -1074 + ((placeR (x % 2 ^ 63) - -1074).toNat : Int) by omega)]
    exact rung_back hf
  rw [hb] at h
  exact ⟨sg, h⟩

theorem zero_add {x z : Nat} {t : Bool} (hf : x % 2 ^ 63 < 2047 * 2 ^ 52) (hz : rd z = .number t 0 (-1074)) :
    ∃ sg : Bool, floatBits .add .f64 z x = some ((if sg then 2 ^ 63 else 0) + x % 2 ^ 63) := by
  obtain ⟨sg, h⟩ := add_num hz (rd_fin hf)
  have hp := placeR_ge (x % 2 ^ 63)
  have e0 : Ieee.signed t 0 (-1074 - min (-1074) (placeR (x % 2 ^ 63))).toNat = 0 := by rw [signed_eq]; simp
  rw [e0, Int.zero_add, signed_abs, Int.min_eq_left hp] at h
  have hb : rungOf (magR (x % 2 ^ 63) * 2 ^ (placeR (x % 2 ^ 63) - -1074).toNat) (-1074) = x % 2 ^ 63 := by
    rw [rung_same (placeR (x % 2 ^ 63) - -1074).toNat rfl (show placeR (x % 2 ^ 63) = -1074 + ((placeR (x % 2 ^ 63) - -1074).toNat : Int) by omega)]
    exact rung_back hf
  rw [hb] at h
  exact ⟨sg, h⟩

theorem pat_word (sg : Bool) {r : Nat} (h : r < 2047 * 2 ^ 52) : ∃ v : Nat, optV (some ((if sg then 2 ^ 63 else 0) + r)) = (v : Int) ∧ v < 2 ^ 64 ∧ v % 2 ^ 63 = r := by
  refine ⟨(if sg then 2 ^ 63 else 0) + r, ?_, ?_, ?_⟩
  · show patV _ = _
    unfold patV
    rw [if_pos]
    rw [selfEq_iff]; apply decide_eq_true; split <;> omega
  · split <;> omega
  · split <;> omega

theorem sub_one_0 : floatBits .sub .f64 p0 0 = some p0 := by decide +kernel
theorem sub_one_1 : floatBits .sub .f64 p0 p0 = some 0 := by decide +kernel

section
variable {a b : Int} (a0 : 0 ≤ a) (a1 : a ≤ 18446744073709551615) (b0 : 0 ≤ b) (b1 : b ≤ 18446744073709551615) (fa : a.toNat % 2 ^ 63 < 2047 * 2 ^ 52) (fb : b.toNat % 2 ^ 63 < 2047 * 2 ^ 52)
include a0 a1 fa fb

theorem mix_zero : ∃ v : Nat, mixV a b 0 = (v : Int) ∧ v < 2 ^ 64 ∧ v % 2 ^ 63 = a.toNat % 2 ^ 63 := by
  obtain ⟨z, hz, t, ht⟩ := mul_zero fb
  obtain ⟨sg, hs⟩ := add_zero fa ht
  have e : mixV a b 0 = optV (some ((if sg then 2 ^ 63 else 0) + a.toNat % 2 ^ 63)) := by
    unfold mixV
    have e0 : (0 : Int).toNat = 0 := rfl
    rw [e0, sub_one_0]
    show optV ((floatBits .mul .f64 a.toNat p0).bind fun one => (floatBits .mul .f64 b.toNat 0).bind fun two => floatBits .add .f64 one two) = _
    rw [mul_one (by omega) fa, hz]
    show optV (floatBits .add .f64 a.toNat z) = _
    rw [hs]
  rw [e]; exact pat_word sg fa
end

theorem mix_all {a b : Int} (b0 : 0 ≤ b) (b1 : b ≤ 18446744073709551615) (fa : a.toNat % 2 ^ 63 < 2047 * 2 ^ 52) (fb : b.toNat % 2 ^ 63 < 2047 * 2 ^ 52) :
    ∃ v : Nat, mixV a b 4607182418800017408 = (v : Int) ∧ v < 2 ^ 64 ∧ v % 2 ^ 63 = b.toNat % 2 ^ 63 := by
  obtain ⟨z, hz, t, ht⟩ := mul_zero fa
  obtain ⟨sg, hs⟩ := zero_add fb ht
  have e : mixV a b 4607182418800017408 = optV (some ((if sg then 2 ^ 63 else 0) + b.toNat % 2 ^ 63)) := by
    unfold mixV
    have e0 : (4607182418800017408 : Int).toNat = p0 := rfl
    rw [e0, sub_one_1]
    show optV ((floatBits .mul .f64 a.toNat 0).bind fun one => (floatBits .mul .f64 b.toNat p0).bind fun two => floatBits .add .f64 one two) = _
    rw [mul_one (by omega) fb, hz]
    show optV (floatBits .add .f64 z b.toNat) = _
    rw [hs]
  rw [e]; exact pat_word sg fb

theorem mix_canon (a b : Int) : mixV a b 9221120237041090561 = 9221120237041090561 := by
  unfold mixV
  have h : floatBits .sub .f64 p0 (9221120237041090561 : Int).toNat = none := floatBits_nan_right .sub (by decide +kernel)
  rw [h]; rfl

/-! ### where a NaN is told -/
theorem optV_cases (o : Option Nat) (h : ∀ r, o = some r → r < 2 ^ 64) : 0 ≤ optV o ∧ optV o ≤ 18446744073709551615 ∧ (selfEq (optV o).toNat = true ∨ (selfEq (optV o).toNat = false ∧ optV o = 9221120237041090561)) := by
  have hc : canonV = 9221120237041090561 := rfl
  have hcs : selfEq (9221120237041090561 : Int).toNat = false := by decide +kernel
  cases o with
  | none => show 0 ≤ canonV ∧ canonV ≤ _ ∧ _; rw [hc]; exact ⟨by omega, by omega, Or.inr ⟨hcs, rfl⟩⟩
  | some r =>
    have hr := h r rfl
    show 0 ≤ patV r ∧ patV r ≤ _ ∧ (selfEq (patV r).toNat = true ∨ (selfEq (patV r).toNat = false ∧ patV r = 9221120237041090561))
    unfold patV
    cases hs : selfEq r
    · rw [if_neg (by decide), hc]; exact ⟨by omega, by omega, Or.inr ⟨hcs, rfl⟩⟩
    · rw [if_pos rfl, Int.toNat_natCast]; exact ⟨by omega, by omega, Or.inl hs⟩

theorem floatBits_lt {op : BinOp} {x y r : Nat} (h : floatBits op .f64 x y = some r) : r < 2 ^ 64 := by
  have := floatBits_wf h
  simpa [Lit.wf] using this

theorem ofV_cases (a b : Int) : 0 ≤ ofV a b ∧ ofV a b ≤ 18446744073709551615 ∧ (selfEq (ofV a b).toNat = true ∨ (selfEq (ofV a b).toNat = false ∧ ofV a b = 9221120237041090561)) :=
  optV_cases _ fun _ h => floatBits_lt h

theorem mixV_cases (a b z : Int) : 0 ≤ mixV a b z ∧ mixV a b z ≤ 18446744073709551615 ∧ (selfEq (mixV a b z).toNat = true ∨ (selfEq (mixV a b z).toNat = false ∧ mixV a b z = 9221120237041090561)) := by
  apply optV_cases
  intro r h
  obtain ⟨_, -, h⟩ := Option.bind_eq_some_iff.1 h
  obtain ⟨_, -, h⟩ := Option.bind_eq_some_iff.1 h
  obtain ⟨_, -, h⟩ := Option.bind_eq_some_iff.1 h
  exact floatBits_lt h

theorem ofV_fine {a b : Int} (a0 : 0 ≤ a) (a1 : a ≤ 18446744073709551615) (b0 : 1 ≤ b) (b1 : b ≤ 18446744073709551615) : selfEq (ofV a b).toNat = true := by
  rw [ofV_is a0 a1 b0 b1, Int.toNat_natCast]; exact selfEq_rung (rung_le _ _)

theorem ofV_by0 {a : Int} (a0 : 1 ≤ a) (a1 : a ≤ 18446744073709551615) : selfEq (ofV a 0).toNat = true := by
  have e : floatBits .quo .f64 (floatOfInt .f64 a) (floatOfInt .f64 0) = ((rd (floatOfInt .f64 a)).quotient 54 (rd (floatOfInt .f64 0))).map Ieee.double.write := rfl
  have hm := mag_pos (flo_pos a0)
  have : ofV a 0 = optV (some (Ieee.double.write (.infinity false))) := by
    unfold ofV
    rw [e, flo_zero, flo_rd (by omega) a1, rd_0]
    show optV ((if magR (floatOfInt .f64 a) = 0 then (none : Option Ieee.Datum) else some (.infinity (false ^^ false))).map Ieee.double.write) = _
    rw [if_neg hm]; rfl
  rw [this]; decide +kernel

theorem ofV_00 : ofV 0 0 = 9221120237041090561 := by decide +kernel

end Go.Proofs.Ytbdngcifnlkijaa
