/- Size classes as plain lists: what Make gathers. No program in sight. -/
import Derived.Test.YticaamdghjfifaaDoorNumPlain
namespace Go.Proofs.YticaamdghjfifaaDoor
open Go.RowKit
set_option linter.unusedVariables false

/-- a class: size, pages, slots, magic. -/
structure Cl where
  a : Int
  b : Int
  c : Int
  d : Int
deriving DecidableEq

def Cl.four (x : Cl) : List Value := [.int .i64 x.a, .int .i64 x.b, .int .i64 x.c, .int .u32 x.d]
def cls (l : List Cl) : List Value := l.flatMap Cl.four
def zeroC : Cl := ⟨0, 0, 0, 0⟩

theorem cls_cons (x : Cl) (r : List Cl) : cls (x :: r) = .int .i64 x.a :: .int .i64 x.b :: .int .i64 x.c :: .int .u32 x.d :: cls r := rfl
theorem cls_snoc (l : List Cl) (x : Cl) : cls l ++ x.four = cls (l ++ [x]) := by simp [cls]
theorem cls_len (l : List Cl) : (cls l).length = l.length * 4 := by
  induction l with
  | nil => rfl
  | cons x r ih => rw [cls_cons]; simp only [List.length_cons]; omega

theorem cls_at : ∀ (l : List Cl) (i : Nat) (h : i < l.length), (cls l)[i * 4]? = some (.int .i64 l[i].a) ∧ (cls l)[i * 4 + 1]? = some (.int .i64 l[i].b) ∧ (cls l)[i * 4 + 2]? = some (.int .i64 l[i].c) ∧ (cls l)[i * 4 + 3]? = some (.int .u32 l[i].d)
  | x :: r, 0, h => by rw [cls_cons]; simp
  | x :: r, i + 1, h => by
    have hr := cls_at r i (by simpa using h)
    rw [cls_cons, show (i + 1) * 4 = i * 4 + 1 + 1 + 1 + 1 by omega]
    simpa using hr

theorem cls_setA : ∀ (l : List Cl) (i : Nat) (h : i < l.length) (u : Int), (cls l).set (i * 4) (.int .i64 u) = cls (l.set i ⟨u, l[i].b, l[i].c, l[i].d⟩)
  | x :: r, 0, h, u => by simp [cls_cons]
  | x :: r, i + 1, h, u => by
    have hr := cls_setA r i (by simpa using h) u
    rw [cls_cons, show (i + 1) * 4 = i * 4 + 1 + 1 + 1 + 1 by omega]
    simp only [List.set_cons_succ, List.getElem_cons_succ, cls_cons, hr]

theorem cls_setC : ∀ (l : List Cl) (i : Nat) (h : i < l.length) (u : Int), (cls l).set (i * 4 + 2) (.int .i64 u) = cls (l.set i ⟨l[i].a, l[i].b, u, l[i].d⟩)
  | x :: r, 0, h, u => by simp [cls_cons]
  | x :: r, i + 1, h, u => by
    have hr := cls_setC r i (by simpa using h) u
    rw [cls_cons, show (i + 1) * 4 + 2 = i * 4 + 2 + 1 + 1 + 1 + 1 by omega]
    simp only [List.set_cons_succ, List.getElem_cons_succ, cls_cons, hr]

theorem cls_setD : ∀ (l : List Cl) (i : Nat) (h : i < l.length) (u : Int), (cls l).set (i * 4 + 3) (.int .u32 u) = cls (l.set i ⟨l[i].a, l[i].b, l[i].c, u⟩)
  | x :: r, 0, h, u => by simp [cls_cons]
  | x :: r, i + 1, h, u => by
    have hr := cls_setD r i (by simpa using h) u
    rw [cls_cons, show (i + 1) * 4 + 3 = i * 4 + 3 + 1 + 1 + 1 + 1 by omega]
    simp only [List.set_cons_succ, List.getElem_cons_succ, cls_cons, hr]

/-! ### what is gathered -/
def stepV (s was : Int) : Int := if powB s = true then (if 2048 ≤ s then 256 else if 128 ≤ s then s / 8 else if 32 ≤ s then 16 else was) else was

def bytesV (s p : Int) : Nat → Int → Int
  | 0, n => n
  | f + 1, n => if n / 8 < n % s then bytesV s p f (n + p) else n

def sameB (p s n : Int) (x : Cl) : Bool := (x.b == n / p) && (x.b * p / x.a == n / s)

def addC (p s n : Int) : List Cl → List Cl
  | [] => [⟨s, n / p, 0, 0⟩]
  | x :: r => if sameB p s n x = true then ⟨s, x.b, x.c, x.d⟩ :: r else ⟨s, n / p, 0, 0⟩ :: x :: r

def gather (p m : Int) : Nat → List Cl → Int → Int → List Cl
  | 0, r, _, _ => r
  | f + 1, r, y, s => if s ≤ m then gather p m f (addC p s (bytesV s p 32 p) r) (stepV s y) (s + stepV s y) else r

def finC (p : Int) (x : Cl) : Cl :=
  let a := if x.a < x.b * p / (x.b * p / x.a) / 128 * 128 then x.b * p / (x.b * p / x.a) / 128 * 128 else x.a
  ⟨a, x.b, x.b * p / a, magicV a⟩

/-- the classes in their order, before their slots are counted. -/
def bodyL (p m : Int) : List Cl := (gather p m (m / 8).toNat [] 8 8).reverse
def makeL (p m : Int) : List Cl := zeroC :: (bodyL p m).map (finC p)

def makeOk (p m : Int) : Bool := decide (1024 ≤ p ∧ p ≤ 65536) && powB p && decide (64 ≤ m ∧ m ≤ 4 * p) && powB m

/-- what a class keeps to that is gathered. -/
def okC (p m : Int) (x : Cl) : Prop := 8 ≤ x.a ∧ x.a ≤ m ∧ 1 ≤ x.b ∧ x.b ≤ 33 ∧ x.a ≤ x.b * p ∧ x.c = 0 ∧ x.d = 0

theorem bytes_is (s p : Int) (p1 : 1 ≤ p) (s1 : 1 ≤ s) (hs : s ≤ 4 * p) : ∀ (f j : Nat), f + j = 32 → ∃ k : Int, 1 ≤ k ∧ k ≤ 33 ∧ bytesV s p f (p * (j + 1)) = p * k ∧ s ≤ p * k
  | 0, j, h => by
    refine ⟨j + 1, by omega, by omega, rfl, ?_⟩
    have : p * 1 ≤ p * j := Int.mul_le_mul_of_nonneg_left (by omega) (by omega)
    have h32 : p * 32 ≤ p * j := Int.mul_le_mul_of_nonneg_left (by omega) (by omega)
    rw [Int.mul_add]; omega
  | f + 1, j, h => by
    show ∃ k : Int, 1 ≤ k ∧ k ≤ 33 ∧ (if p * (j + 1) / 8 < p * (j + 1) % s then bytesV s p f (p * (j + 1) + p) else p * (j + 1)) = p * k ∧ s ≤ p * k
    split
    · have ih := bytes_is s p p1 s1 hs f (j + 1) (by omega)
      rw [show p * (j + 1) + p = p * (((j + 1 : Nat) : Int) + 1) by rw [Int.natCast_add, Int.mul_add, Int.mul_add, Int.mul_add]; simp]
      exact ih
    · rename_i hc
      refine ⟨j + 1, by omega, by omega, rfl, ?_⟩
      rcases Int.lt_or_le (p * (j + 1)) s with hlt | hge
      · exfalso
        have h0 : 0 ≤ p * ((j : Int) + 1) := Int.mul_nonneg (by omega) (by omega)
        have h1 : 1 ≤ p * ((j : Int) + 1) := by
          have : p * 1 ≤ p * ((j : Int) + 1) := Int.mul_le_mul_of_nonneg_left (by omega) (by omega)
          omega
        rw [Int.emod_eq_of_lt h0 hlt] at hc
        omega
      · exact hge

theorem step_lo {s y : Int} (h : 8 ≤ y) (h8 : 8 ≤ s) : 8 ≤ stepV s y := by
  unfold stepV
  (repeat' split) <;> omega
theorem step_hi {s y : Int} (h : y ≤ 65536) (hs : s ≤ 262144) (h8 : 8 ≤ s) : stepV s y ≤ 65536 := by
  unfold stepV
  (repeat' split) <;> omega

theorem add_ok {p m s n : Int} {r : List Cl} (hr : ∀ x ∈ r, okC p m x) (p1 : 1 ≤ p) (h8 : 8 ≤ s) (hs : s ≤ m) (k : Int) (k1 : 1 ≤ k) (k2 : k ≤ 33) (hn : n = p * k) (hsn : s ≤ n) : ∀ x ∈ addC p s n r, okC p m x := by
  have hq : n / p = k := by rw [hn]; exact Int.mul_ediv_cancel_left _ (by omega)
  have hnew : okC p m ⟨s, n / p, 0, 0⟩ := by
    refine ⟨h8, hs, ?_, ?_, ?_, rfl, rfl⟩ <;> dsimp only <;> rw [hq]
    · exact k1
    · exact k2
    · rw [Int.mul_comm, ← hn]; exact hsn
  cases r with
  | nil =>
    intro x hx
    have : x = ⟨s, n / p, 0, 0⟩ := by simpa [addC] using hx
    rw [this]; exact hnew
  | cons y r =>
    intro x hx
    have e : addC p s n (y :: r) = if sameB p s n y = true then ⟨s, y.b, y.c, y.d⟩ :: r else ⟨s, n / p, 0, 0⟩ :: y :: r := rfl
    rw [e] at hx
    by_cases hsm : sameB p s n y = true
    · rw [if_pos hsm] at hx
      rcases List.mem_cons.1 hx with rfl | hx
      · have hy := hr y (List.mem_cons_self)
        unfold sameB at hsm
        rw [Bool.and_eq_true, beq_iff_eq, beq_iff_eq] at hsm
        refine ⟨h8, hs, hy.2.2.1, hy.2.2.2.1, ?_, hy.2.2.2.2.2.1, hy.2.2.2.2.2.2⟩
        dsimp only
        rw [hsm.1, hq, Int.mul_comm, ← hn]; exact hsn
      · exact hr x (List.mem_cons_of_mem _ hx)
    · rw [if_neg hsm] at hx
      rcases List.mem_cons.1 hx with rfl | hx
      · exact hnew
      · exact hr x hx

theorem magic_range {d : Int} (h : 0 ≤ d) : 0 ≤ magicV d ∧ magicV d ≤ 4294967295 := by
  unfold magicV
  split
  · omega
  · have h1 : 0 ≤ 4294967295 / d := Int.ediv_nonneg (by omega) h
    have h2 : 4294967295 / d < 2147483648 := Int.ediv_lt_of_lt_mul (by omega) (by omega)
    omega

theorem table_len : (makeL 8192 32768).length = 68 := by decide +kernel

end Go.Proofs.YticaamdghjfifaaDoor
