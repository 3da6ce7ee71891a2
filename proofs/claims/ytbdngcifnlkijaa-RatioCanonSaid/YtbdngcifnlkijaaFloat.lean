/- Plain laws of doubles: what an operation answers, NaN or not; no program in sight. -/
import Derived.WalkKit
import Derived.WalkLawsBesides
namespace Go.Proofs.Ytbdngcifnlkijaa
open Go.RowKit

theorem u64_of {a : Int} (h : (Lit.int .u64 a).wf = true) : 0 ≤ a ∧ a ≤ 18446744073709551615 := by
  simp [Lit.wf, IntKind.min, IntKind.max, IntKind.signed, IntKind.bits] at h; omega
theorem i64_of {a : Int} (h : (Lit.int .i64 a).wf = true) : -9223372036854775808 ≤ a ∧ a ≤ 9223372036854775807 := by
  simp [Lit.wf, IntKind.min, IntKind.max, IntKind.signed, IntKind.bits] at h; omega

/-- a pattern is no NaN: it equals itself. -/
def selfEq (b : Nat) : Bool := FloatKind.f64.format.order b b == some .eq

def canonV : Int := 9221120237041090561
def mostV : Int := 18446744073709551615

def patV (b : Nat) : Int := if selfEq b then (b : Int) else canonV

/-- an operation's result as a pattern: the bits, or the one NaN. -/
def optV (o : Option Nat) : Int := match o with
  | some r => patV r
  | none => canonV

/-- the bits that an invalid operation gives: some NaN, of the tape's choice. -/
def nanOf (x y : Nat) (w : World) : Nat := (Question.nanBits .f64 x y).cut (w.tape w.drawn (.nanBits .f64 x y))

def fRes (op : BinOp) (x y : Nat) (w : World) : Nat := (floatBits op .f64 x y).getD (nanOf x y w)

def fWorld (op : BinOp) (x y : Nat) (w : World) : World := if (floatBits op .f64 x y).isSome then w else w.drew

theorem grown_trans {a b c : World} (h1 : Grown a b) (h2 : Grown b c) : Grown a c :=
  ⟨World.keptBut_trans h1.1 h2.1, fun x => (h2.2.1 x).trans (h1.2.1 x), Nat.le_trans h1.2.2 h2.2.2⟩

theorem grown_fWorld {W w : World} (h : Grown W w) (op : BinOp) (x y : Nat) : Grown W (fWorld op x y w) := by
  unfold fWorld; split
  · exact h
  · exact h.drew

theorem run_float_any {P : Program} (op : BinOp) (hop : op = .add ∨ op = .sub ∨ op = .mul ∨ op = .quo) (t : TypeId) (x y : Nat) (w : World) :
    (binOp op t (.float .f64 x) (.float .f64 y)).run P w = .ok (.float .f64 (fRes op x y w)) (fWorld op x y w) := by
  cases h : floatBits op .f64 x y with
  | some r => rw [run_float_arith w op t .f64 x y r h]; simp [fRes, fWorld, h]
  | none =>
    simp only [fRes, fWorld, h, Option.getD_none, Option.isSome_none]
    unfold floatBits at h
    rcases hop with rfl | rfl | rfl | rfl <;> simp only at h <;> simp [binOp, Op.floatArith, h, nanOf, Question.forced]

@[go_sem] theorem run_fadd {P : Program} (t : TypeId) (x y : Nat) (w : World) : (binOp .add t (.float .f64 x) (.float .f64 y)).run P w = .ok (.float .f64 (fRes .add x y w)) (fWorld .add x y w) := run_float_any _ (by simp) t x y w
@[go_sem] theorem run_fsub {P : Program} (t : TypeId) (x y : Nat) (w : World) : (binOp .sub t (.float .f64 x) (.float .f64 y)).run P w = .ok (.float .f64 (fRes .sub x y w)) (fWorld .sub x y w) := run_float_any _ (by simp) t x y w
@[go_sem] theorem run_fmul {P : Program} (t : TypeId) (x y : Nat) (w : World) : (binOp .mul t (.float .f64 x) (.float .f64 y)).run P w = .ok (.float .f64 (fRes .mul x y w)) (fWorld .mul x y w) := run_float_any _ (by simp) t x y w
@[go_sem] theorem run_fquo {P : Program} (t : TypeId) (x y : Nat) (w : World) : (binOp .quo t (.float .f64 x) (.float .f64 y)).run P w = .ok (.float .f64 (fRes .quo x y w)) (fWorld .quo x y w) := run_float_any _ (by simp) t x y w

/-! ### what a word reads as -/
def rd (b : Nat) : Ieee.Datum := Ieee.double.read b

theorem rd_def (b : Nat) : rd b = (if b % 2 ^ 63 < 2 ^ 52 then .number (b / 2 ^ 63 % 2 == 1) (b % 2 ^ 63) (-1074)
    else if b % 2 ^ 63 < 2047 * 2 ^ 52 then .number (b / 2 ^ 63 % 2 == 1) (2 ^ 52 + b % 2 ^ 63 % 2 ^ 52) (-1074 + (b % 2 ^ 63 / 2 ^ 52 - 1 : Nat))
    else if b % 2 ^ 63 = 2047 * 2 ^ 52 then .infinity (b / 2 ^ 63 % 2 == 1) else .nan (b / 2 ^ 63 % 2 == 1) (b % 2 ^ 63 - 2047 * 2 ^ 52)) := rfl

theorem rd_nan_iff (b : Nat) : (rd b).isNaN = decide (2047 * 2 ^ 52 < b % 2 ^ 63) := by
  rw [rd_def]
  split
  · simp [Ieee.Datum.isNaN]; omega
  · split
    · simp [Ieee.Datum.isNaN]; omega
    · split
      · simp [Ieee.Datum.isNaN]; omega
      · simp [Ieee.Datum.isNaN]; omega

theorem order_nan_left {a b : Nat} (h : (rd a).isNaN = true) : FloatKind.f64.format.order a b = none := by
  show (rd a).order (rd b) = none
  cases ha : rd a <;> simp [ha, Ieee.Datum.isNaN] at h
  rfl

theorem order_nan_right {a b : Nat} (h : (rd b).isNaN = true) : FloatKind.f64.format.order a b = none := by
  show (rd a).order (rd b) = none
  cases hb : rd b <;> simp [hb, Ieee.Datum.isNaN] at h
  cases ha : rd a <;> rfl

theorem order_self {a : Nat} (h : (rd a).isNaN = false) : FloatKind.f64.format.order a a = some .eq := by
  show (rd a).order (rd a) = some .eq
  cases ha : rd a with
  | nan s f => simp [ha, Ieee.Datum.isNaN] at h
  | infinity s => simp [Ieee.Datum.order]
  | number s m i => simp [Ieee.Datum.order]

theorem selfEq_iff (b : Nat) : selfEq b = decide (b % 2 ^ 63 ≤ 2047 * 2 ^ 52) := by
  unfold selfEq
  cases h : (rd b).isNaN with
  | true =>
    rw [order_nan_left h]
    rw [rd_nan_iff] at h
    simp at h ⊢; omega
  | false =>
    rw [order_self h]
    rw [rd_nan_iff] at h
    simp at h ⊢; omega

theorem nanOf_nan (x y : Nat) (w : World) : (rd (nanOf x y w)).isNaN = true := by
  rw [rd_nan_iff]
  unfold nanOf
  generalize w.tape w.drawn (.nanBits .f64 x y) = t
  apply decide_eq_true
  simp only [Question.cut]
  have h2 : t % 2 = 0 ∨ t % 2 = 1 := by omega
  rcases h2 with h2 | h2 <;> rw [h2] <;> omega

theorem selfEq_nan {b : Nat} (h : (rd b).isNaN = true) : selfEq b = false := by
  unfold selfEq; rw [order_nan_left h]; rfl

theorem floatBits_nan_left (op : BinOp) {x y : Nat} (h : (rd x).isNaN = true) : floatBits op .f64 x y = none := by
  have hx : ∃ s f, Ieee.double.read x = .nan s f := by
    show ∃ s f, rd x = .nan s f
    cases hr : rd x <;> simp [hr, Ieee.Datum.isNaN] at h ⊢
  obtain ⟨s, f, hx⟩ := hx
  unfold floatBits
  cases op <;> try rfl
  · show (((Ieee.double.read x).sum (Ieee.double.read y)).map Ieee.double.write) = none; rw [hx]; rfl
  · show (((Ieee.double.read x).sum (Ieee.double.read y).opposite).map Ieee.double.write) = none; rw [hx]; rfl
  · show (((Ieee.double.read x).product (Ieee.double.read y)).map Ieee.double.write) = none; rw [hx]; rfl
  · show (((Ieee.double.read x).quotient _ (Ieee.double.read y)).map Ieee.double.write) = none; rw [hx]; rfl

theorem floatBits_nan_right (op : BinOp) {x y : Nat} (h : (rd y).isNaN = true) : floatBits op .f64 x y = none := by
  have hx : ∃ s f, Ieee.double.read y = .nan s f := by
    show ∃ s f, rd y = .nan s f
    cases hr : rd y <;> simp [hr, Ieee.Datum.isNaN] at h ⊢
  obtain ⟨s, f, hx⟩ := hx
  unfold floatBits
  cases op <;> try rfl
  · show (((Ieee.double.read x).sum (Ieee.double.read y)).map Ieee.double.write) = none; rw [hx]; cases Ieee.double.read x <;> rfl
  · show (((Ieee.double.read x).sum (Ieee.double.read y).opposite).map Ieee.double.write) = none; rw [hx]; cases Ieee.double.read x <;> rfl
  · show (((Ieee.double.read x).product (Ieee.double.read y)).map Ieee.double.write) = none; rw [hx]; cases Ieee.double.read x <;> rfl
  · show (((Ieee.double.read x).quotient _ (Ieee.double.read y)).map Ieee.double.write) = none; rw [hx]; cases Ieee.double.read x <;> rfl

theorem patV_res (op : BinOp) (x y : Nat) (w : World) : patV (fRes op x y w) = optV (floatBits op .f64 x y) := by
  unfold fRes
  cases h : floatBits op .f64 x y with
  | some r => rfl
  | none => simp only [Option.getD_none, optV, patV, selfEq_nan (nanOf_nan x y w)]; rfl

theorem bits_res_left (op op' : BinOp) (x y q : Nat) (w : World) :
    floatBits op .f64 (fRes op' x y w) q = (floatBits op' .f64 x y).bind fun r => floatBits op .f64 r q := by
  unfold fRes
  cases h : floatBits op' .f64 x y with
  | some r => rfl
  | none => exact floatBits_nan_left op (nanOf_nan x y w)

theorem bits_res_right (op op' : BinOp) (x y q : Nat) (w : World) :
    floatBits op .f64 q (fRes op' x y w) = (floatBits op' .f64 x y).bind fun r => floatBits op .f64 q r := by
  unfold fRes
  cases h : floatBits op' .f64 x y with
  | some r => rfl
  | none => exact floatBits_nan_right op (nanOf_nan x y w)

/-! ### the functions -/
/-- a by b. -/
def ofV (a b : Int) : Int := optV (floatBits .quo .f64 (floatOfInt .f64 a) (floatOfInt .f64 b))

/-- is a pattern's number at least the one of another? -/
def geB (x c : Nat) : Bool := FloatKind.f64.format.order x c == some .gt || FloatKind.f64.format.order x c == some .eq

def p64 : Nat := 4895412794951729152
def p0 : Nat := 4607182418800017408

/-- n times a ratio, cut. -/
def timesV (n r : Int) : Int := match floatBits .mul .f64 (floatOfInt .f64 n) r.toNat with
  | some p => if geB p p64 then mostV else if geB p p0 then (floatToIntVal .f64 p .u64).getD 0 else 0
  | none => 0

/-- a mixture. -/
def mixV (a b z : Int) : Int :=
  optV ((floatBits .sub .f64 p0 z.toNat).bind fun rest => (floatBits .mul .f64 a.toNat rest).bind fun one => (floatBits .mul .f64 b.toNat z.toNat).bind fun two => floatBits .add .f64 one two)

/-! ### what is written is no NaN -/
theorem write_number (neg : Bool) (m : Nat) (i : Int) : (rd (Ieee.double.write (.number neg m i))).isNaN = false := by
  rw [rd_nan_iff]
  show decide (2047 * 2 ^ 52 < (Ieee.double.nearest neg m i) % 2 ^ 63) = false
  have hw : ∀ r, r ≤ 2047 * 2 ^ 52 → ¬ (2047 * 2 ^ 52 < (Ieee.double.word neg r) % 2 ^ 63) := by
    intro r hr
    have : Ieee.double.word neg r = if neg then 2 ^ 63 + r else r := rfl
    rw [this]; split <;> omega
  unfold Ieee.Format.nearest
  dsimp only
  split
  · exact decide_eq_false (hw 0 (by omega))
  · exact decide_eq_false (hw _ (Nat.min_le_right _ _))

theorem write_inf (neg : Bool) : (rd (Ieee.double.write (.infinity neg))).isNaN = false := by
  cases neg <;> decide +kernel

end Go.Proofs.Ytbdngcifnlkijaa
