/- Plain laws of doubles: the order of two numbers is the order of their values, scaled by 2 ^ 1074; what is cut to a whole number. -/
import Derived.Test.YtbdngcifnlkijaaFloat
namespace Go.Proofs.Ytbdngcifnlkijaa
open Go.RowKit

/-- 'm * 2 ^ i' by 2 ^ -1074, with its sign. -/
def val (s : Bool) (m : Nat) (i : Int) : Int := Ieee.signed s m (i + 1074).toNat

theorem signed_eq (s : Bool) (m u : Nat) : Ieee.signed s m u = (if s then -1 else 1) * ((m * 2 ^ u : Nat) : Int) := by
  unfold Ieee.signed; rw [Nat.shiftLeft_eq]; cases s <;> simp

theorem pow_split (a b : Nat) : (2 ^ (a + b) : Nat) = 2 ^ a * 2 ^ b := Nat.pow_add 2 a b

theorem signed_shift (s : Bool) (m u k : Nat) : Ieee.signed s m (u + k) = Ieee.signed s m u * ((2 ^ k : Nat) : Int) := by
  rw [signed_eq, signed_eq, Nat.pow_add, ← Nat.mul_assoc, Int.natCast_mul (m * 2 ^ u) (2 ^ k), Int.mul_assoc]

theorem compare_mul (a b : Int) (k : Nat) (hk : 0 < k) : compare (a * (k : Int)) (b * (k : Int)) = compare a b := by
  have hk' : (0 : Int) < (k : Int) := by omega
  rcases Int.lt_trichotomy a b with h | h | h
  · rw [Int.compare_eq_lt.2 h, Int.compare_eq_lt.2 (Int.mul_lt_mul_of_pos_right h hk')]
  · subst h; rw [Int.compare_eq_eq.2 rfl, Int.compare_eq_eq.2 rfl]
  · rw [Int.compare_eq_gt.2 h, Int.compare_eq_gt.2 (Int.mul_lt_mul_of_pos_right h hk')]

theorem order_val (s t : Bool) (m n : Nat) (i j : Int) (hi : -1074 ≤ i) (hj : -1074 ≤ j) :
    (Ieee.Datum.number s m i).order (.number t n j) = some (compare (val s m i) (val t n j)) := by
  unfold Ieee.Datum.order val
  dsimp only
  obtain ⟨k, hk⟩ : ∃ k : Nat, (k : Int) = min i j + 1074 := ⟨(min i j + 1074).toNat, by omega⟩
  have e1 : (i + 1074).toNat = (i - min i j).toNat + k := by omega
  have e2 : (j + 1074).toNat = (j - min i j).toNat + k := by omega
  rw [e1, e2, signed_shift, signed_shift, compare_mul _ _ _ (Nat.two_pow_pos k)]

theorem rd_bounds {b : Nat} {s : Bool} {m : Nat} {i : Int} (h : rd b = .number s m i) : -1074 ≤ i ∧ i ≤ 971 ∧ m < 2 ^ 53 := by
  rw [rd_def] at h
  split at h
  · cases h; omega
  · split at h
    · cases h; omega
    · split at h <;> cases h

theorem rd_p0 : rd p0 = .number false (2 ^ 52) (-52) := by decide +kernel
theorem rd_p64 : rd p64 = .number false (2 ^ 52) 12 := by decide +kernel

theorem cut_zero (s : Bool) (n drop : Nat) : Ieee.Toward.zero.cut s n drop = n / 2 ^ drop := by
  unfold Ieee.Toward.cut
  simp only [Nat.shiftLeft_eq, Nat.one_mul, Bool.toNat_false, Nat.add_zero]
  by_cases h : drop ≤ n.log2 + 2
  · rw [Nat.min_eq_left h]
  · rw [Nat.min_eq_right (by omega)]
    have h1 : n < 2 ^ (n.log2 + 1) := Nat.lt_log2_self
    have h2 : n < 2 ^ (n.log2 + 2) := Nat.lt_trans h1 (Nat.pow_lt_pow_right (by omega) (by omega))
    have h3 : n < 2 ^ drop := Nat.lt_of_lt_of_le h2 (Nat.pow_le_pow_right (by omega) (by omega))
    rw [Nat.div_eq_of_lt h2, Nat.div_eq_of_lt h3]

/-- so many units are one. -/
def place1 : Nat := 1074
theorem place1_is : (place1 : Int) = 1074 := rfl
def one1 : Nat := 2 ^ place1
theorem one1_pow {k : Nat} (h : (k : Int) = 1074) : one1 = 2 ^ k := by
  have : k = place1 := by have := place1_is; omega
  subst this; rfl
theorem one1_pos : 0 < one1 := Nat.two_pow_pos _

/-- the part ahead of the point. -/
theorem toInt_val (m : Nat) (i : Int) (hi : -1074 ≤ i) : (Ieee.Datum.number false m i).toInt .zero = some ((m * 2 ^ (i + 1074).toNat / one1 : Nat) : Int) := by
  unfold Ieee.Datum.toInt Ieee.Datum.integral
  simp only [cut_zero, signed_eq, Nat.pow_zero, Nat.mul_one, Bool.false_eq_true, if_false, Int.one_mul, Nat.shiftLeft_eq]
  congr 2
  by_cases h : 0 ≤ i
  · have e1 : (-i).toNat = 0 := by omega
    have e2 : (i + 1074).toNat = i.toNat + place1 := by have := place1_is; omega
    rw [e1, e2, one1_pow place1_is, Nat.pow_zero, Nat.div_one, Nat.pow_add, ← Nat.mul_assoc, Nat.mul_div_cancel _ (Nat.two_pow_pos _)]
  · have e1 : i.toNat = 0 := by omega
    obtain ⟨k, hk⟩ : ∃ k : Nat, (k : Int) = i + 1074 := ⟨(i + 1074).toNat, by omega⟩
    have e2 : (i + 1074).toNat = k := by omega
    have e3 : one1 = 2 ^ (-i).toNat * 2 ^ k := by rw [← Nat.pow_add]; exact one1_pow (by omega)
    rw [e1, e2, e3, Nat.pow_zero, Nat.mul_one, Nat.mul_div_mul_right _ _ (Nat.two_pow_pos k)]

theorem ge_number {x c : Nat} {s : Bool} {m : Nat} {i : Int} {t : Bool} {n : Nat} {j : Int} (hx : rd x = .number s m i) (hc : rd c = .number t n j) :
    geB x c = decide (val t n j ≤ val s m i) := by
  have ho : FloatKind.f64.format.order x c = some (compare (val s m i) (val t n j)) := by
    show (rd x).order (rd c) = _
    rw [hx, hc]; exact order_val _ _ _ _ _ _ (rd_bounds hx).1 (rd_bounds hc).1
  unfold geB; rw [ho]
  rcases Int.lt_trichotomy (val s m i) (val t n j) with h | h | h
  · rw [Int.compare_eq_lt.2 h, decide_eq_false (by omega)]; rfl
  · rw [Int.compare_eq_eq.2 h, decide_eq_true (by omega)]; rfl
  · rw [Int.compare_eq_gt.2 h, decide_eq_true (by omega)]; rfl

theorem val_false (m : Nat) (i : Int) : val false m i = ((m * 2 ^ (i + 1074).toNat : Nat) : Int) := by
  unfold val; rw [signed_eq]; simp

theorem val_true (m : Nat) (i : Int) : val true m i = -((m * 2 ^ (i + 1074).toNat : Nat) : Int) := by
  unfold val; rw [signed_eq]; simp

theorem val_p0 : val false (2 ^ 52) (-52) = ((one1 : Nat) : Int) := by
  rw [val_false, ← Nat.pow_add, ← one1_pow (by decide)]
theorem val_p64 : val false (2 ^ 52) 12 = ((2 ^ 64 * one1 : Nat) : Int) := by
  have e : 52 + ((12 : Int) + 1074).toNat = 64 + place1 := by decide
  rw [val_false, ← Nat.pow_add, e, Nat.pow_add, one1_pow place1_is]

/-- what is at least 1 and below 2 ^ 64: a number whose whole part is a uint64. -/
theorem between {x : Nat} (h1 : geB x p0 = true) (h2 : geB x p64 = false) :
    ∃ m i, rd x = .number false m i ∧ one1 ≤ m * 2 ^ (i + 1074).toNat ∧ m * 2 ^ (i + 1074).toNat < 2 ^ 64 * one1 := by
  cases hx : rd x with
  | nan s f =>
    exfalso
    have : (rd x).isNaN = true := by rw [hx]; rfl
    unfold geB at h1; rw [order_nan_left this] at h1; cases h1
  | infinity s =>
    exfalso
    have e1 : FloatKind.f64.format.order x p0 = (rd x).order (rd p0) := rfl
    have e2 : FloatKind.f64.format.order x p64 = (rd x).order (rd p64) := rfl
    unfold geB at h1 h2
    rw [e1, hx, rd_p0] at h1; rw [e2, hx, rd_p64] at h2
    cases s
    · exact absurd h2 (by decide)
    · exact absurd h1 (by decide)
  | number s m i =>
    rw [ge_number hx rd_p0, val_p0] at h1
    rw [ge_number hx rd_p64, val_p64] at h2
    have h1' := of_decide_eq_true h1
    have h2' := of_decide_eq_false h2
    cases s with
    | true => exfalso; rw [val_true] at h1'; have := one1_pos; omega
    | false =>
      rw [val_false] at h1' h2'
      exact ⟨m, i, rfl, by omega, by omega⟩

theorem whole {x : Nat} (h1 : geB x p0 = true) (h2 : geB x p64 = false) :
    ∃ k : Nat, floatToIntVal .f64 x .u64 = some (k : Int) ∧ 1 ≤ k ∧ k < 2 ^ 64 ∧ ∃ m i, rd x = .number false m i ∧ k = m * 2 ^ (i + 1074).toNat / one1 := by
  obtain ⟨m, i, hx, ha, hb⟩ := between h1 h2
  have hi := (rd_bounds hx).1
  have hp := one1_pos
  have hk1 : 1 ≤ m * 2 ^ (i + 1074).toNat / one1 := (Nat.le_div_iff_mul_le hp).2 (by omega)
  have hk2 : m * 2 ^ (i + 1074).toNat / one1 < 2 ^ 64 := (Nat.div_lt_iff_lt_mul hp).2 hb
  refine ⟨m * 2 ^ (i + 1074).toNat / one1, ?_, hk1, hk2, m, i, hx, rfl⟩
  have hd : (FloatKind.f64.decode x).toInt .zero = some ((m * 2 ^ (i + 1074).toNat / one1 : Nat) : Int) := by
    show (rd x).toInt .zero = _
    rw [hx]; exact toInt_val m i hi
  unfold floatToIntVal
  rw [hd]
  have hmin : IntKind.u64.min = 0 := rfl
  have hmax : IntKind.u64.max = 18446744073709551615 := rfl
  simp only [hmin, hmax]
  rw [if_pos]
  omega

theorem order_res_none {op : BinOp} {x y : Nat} (h : floatBits op .f64 x y = none) (w : World) (c : Nat) : FloatKind.f64.format.order (fRes op x y w) c = none := by
  unfold fRes; rw [h]; exact order_nan_left (nanOf_nan x y w)
theorem fRes_some {op : BinOp} {x y p : Nat} (h : floatBits op .f64 x y = some p) (w : World) : fRes op x y w = p := by
  unfold fRes; rw [h]; rfl
theorem fWorld_some {op : BinOp} {x y p : Nat} (h : floatBits op .f64 x y = some p) (w : World) : fWorld op x y w = w := by
  unfold fWorld; rw [h]; rfl

theorem timesV_none {n r : Int} (h : floatBits .mul .f64 (floatOfInt .f64 n) r.toNat = none) : timesV n r = 0 := by
  unfold timesV; rw [h]
theorem timesV_most {n r : Int} {p : Nat} (h : floatBits .mul .f64 (floatOfInt .f64 n) r.toNat = some p) (h1 : geB p p64 = true) : timesV n r = 18446744073709551615 := by
  unfold timesV; rw [h]; simp only [h1, if_true]; rfl
theorem timesV_some {n r : Int} {p k : Nat} (h : floatBits .mul .f64 (floatOfInt .f64 n) r.toNat = some p) (h1 : geB p p64 = false) (h2 : geB p p0 = true) (h3 : floatToIntVal .f64 p .u64 = some (k : Int)) : timesV n r = k := by
  unfold timesV; rw [h]; simp only [h1, h2, h3, if_true]; rfl
theorem timesV_zero {n r : Int} {p : Nat} (h : floatBits .mul .f64 (floatOfInt .f64 n) r.toNat = some p) (h1 : geB p p64 = false) (h2 : geB p p0 = false) : timesV n r = 0 := by
  unfold timesV; rw [h]; simp only [h1, h2]; rfl

theorem ge_trans {p : Nat} (h : geB p p64 = true) : geB p p0 = true := by
  cases hx : rd p with
  | nan s f =>
    exfalso
    have : (rd p).isNaN = true := by rw [hx]; rfl
    unfold geB at h; rw [order_nan_left this] at h; cases h
  | infinity s =>
    have e1 : FloatKind.f64.format.order p p0 = (rd p).order (rd p0) := rfl
    have e2 : FloatKind.f64.format.order p p64 = (rd p).order (rd p64) := rfl
    unfold geB at h ⊢
    rw [e1, hx, rd_p0]; rw [e2, hx, rd_p64] at h
    cases s
    · rfl
    · exact absurd h (by decide)
  | number s m i =>
    rw [ge_number hx rd_p64, val_p64] at h
    rw [ge_number hx rd_p0, val_p0]
    have h' := of_decide_eq_true h
    apply decide_eq_true
    have := one1_pos
    omega

theorem mix_is (a b z : Int) (w1 w2 w3 w4 : World) :
    patV (fRes .add (fRes .mul a.toNat (fRes .sub 4607182418800017408 z.toNat w1) w2) (fRes .mul b.toNat z.toNat w3) w4) = mixV a b z := by
  rw [patV_res, bits_res_left, bits_res_right]
  unfold mixV p0
  simp only [bits_res_right]
  cases floatBits .sub .f64 4607182418800017408 z.toNat with
  | none => rfl
  | some r =>
    show optV ((floatBits .mul .f64 a.toNat r).bind _) = optV ((floatBits .mul .f64 a.toNat r).bind _)
    rfl

theorem timesV_range (n r : Int) : 0 ≤ timesV n r ∧ timesV n r ≤ 18446744073709551615 := by
  cases h : floatBits .mul .f64 (floatOfInt .f64 n) r.toNat with
  | none => rw [timesV_none h]; omega
  | some p =>
    cases h1 : geB p p64 with
    | true => rw [timesV_most h h1]; omega
    | false =>
      cases h2 : geB p p0 with
      | true =>
        obtain ⟨k, h3, -, h4, -⟩ := whole h2 h1
        rw [timesV_some h h1 h2 h3]; omega
      | false => rw [timesV_zero h h1 h2]; omega

/-- how much may live. -/
def goalV (live percent : Int) : Int :=
  if percent < 0 then 18446744073709551615
  else if 18446744073709551615 < live + timesV live (ofV percent 100) then 18446744073709551615
  else if live + timesV live (ofV percent 100) < 4194304 then 4194304 else live + timesV live (ofV percent 100)

/-- the way to a goal. -/
def wayV (live goal : Int) : Int := if live < goal then if 8192 < goal - live then goal - live else 8192 else 8192

def paceV (live goal pages : Int) : Int := ofV pages (wayV live goal)

end Go.Proofs.Ytbdngcifnlkijaa
