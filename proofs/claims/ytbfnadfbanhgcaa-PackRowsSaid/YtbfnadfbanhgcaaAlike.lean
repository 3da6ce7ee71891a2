/- Rows of like summaries: their cells, their merge, where pages fit. No program's step in sight. -/
import Derived.Test.YtbfnadfbanhgcaaAwake
import Derived.Test.YtbfnadfbanhgcaaGrow
namespace Go.Proofs.Ytbfnadfbanhgcaa
open Go.RowKit
set_option linter.unusedVariables false

/-- a summary's cells; a row's. -/
def Sm.three (x : Sm) : List Value := [.int .i64 x.s, .int .i64 x.m, .int .i64 x.e]
def rowCells (l : List Sm) : List Value := l.flatMap Sm.three

theorem rowCells_snoc (l : List Sm) (x : Sm) : rowCells l ++ x.three = rowCells (l ++ [x]) := by simp [rowCells]
theorem rowCells_len (l : List Sm) : (rowCells l).length = l.length * 3 := by
  induction l with
  | nil => rfl
  | cons x r ih => simp only [rowCells, List.flatMap_cons, List.length_append, List.length_cons] at *; rw [ih]; simp [Sm.three]; omega

theorem rowCells_at : ∀ (l : List Sm) (i : Nat) (h : i < l.length), (rowCells l)[i * 3]? = some (.int .i64 l[i].s) ∧ (rowCells l)[i * 3 + 1]? = some (.int .i64 l[i].m) ∧ (rowCells l)[i * 3 + 2]? = some (.int .i64 l[i].e)
  | x :: r, 0, h => by simp [rowCells, Sm.three]
  | x :: r, i + 1, h => by
    have hr := rowCells_at r i (by simpa using h)
    have e : rowCells (x :: r) = .int .i64 x.s :: .int .i64 x.m :: .int .i64 x.e :: rowCells r := rfl
    rw [e, show (i + 1) * 3 = i * 3 + 1 + 1 + 1 by omega]
    simpa using hr

theorem sl_of_owns {W w : World} {v : Value} {l : List Sm} (h : w.ownsRow W.heap.size 25 3 v l.length (rowCells l)) : SlAt w v l := by
  rcases h.2 with ⟨h1, h2⟩ | ⟨g, cap, cur, rfl, hb, hg, -⟩
  · exact Or.inl ⟨h1, List.eq_nil_of_length_eq_zero h2⟩
  · have hc := h.cells (g := g) rfl
    refine Or.inr ⟨g, 0, cap, rfl, (Array.getElem?_eq_some_iff.1 hg).1, fun i hi => ?_⟩
    obtain ⟨a, b, c⟩ := rowCells_at l i hi
    have ha := hc _ _ a
    have hb := hc _ _ b
    have hd := hc _ _ c
    rw [Addr.add_lit] at ha hb hd
    exact ⟨ha, hb, hd⟩

/-! ### rows that are all free -/
theorem free_right (n : Nat) (p : Int) (p1 : 1 ≤ p) (p2 : p ≤ 2097152) (h : n ≤ 64) : rightsB (List.replicate n ⟨p, p, p⟩) p = true := by
  unfold rightsB
  rw [decide_eq_true (by simpa using ⟨p1, p2, h⟩), Bool.true_and, List.all_eq_true]
  intro x hx
  rw [(List.mem_replicate.1 hx).2]
  exact decide_eq_true (Or.inl ⟨rfl, rfl, rfl⟩)

theorem full_right (n : Nat) (p : Int) (p1 : 1 ≤ p) (p2 : p ≤ 2097152) (h : n ≤ 64) : rightsB (List.replicate n ⟨0, 0, 0⟩) p = true := by
  unfold rightsB
  rw [decide_eq_true (by simpa using ⟨p1, p2, h⟩), Bool.true_and, List.all_eq_true]
  intro x hx
  rw [(List.mem_replicate.1 hx).2]
  exact decide_eq_true (Or.inr (by dsimp only; omega))

theorem free_to (n : Nat) (p : Int) (p1 : 1 ≤ p) : ∀ k, k ≤ n → mergeTo p (List.replicate n ⟨p, p, p⟩) k = ⟨k * p, k * p, k * p⟩
  | 0, _ => by simp [mergeTo]
  | k + 1, h => by
    have ih := free_to n p p1 k (by omega)
    have e : mergeTo p (List.replicate n ⟨p, p, p⟩) (k + 1) = mergeStep p (mergeTo p (List.replicate n ⟨p, p, p⟩) k) k ((List.replicate n (⟨p, p, p⟩ : Sm)).getD k ⟨0, 0, 0⟩) := rfl
    have e2 : (List.replicate n (⟨p, p, p⟩ : Sm)).getD k ⟨0, 0, 0⟩ = ⟨p, p, p⟩ := by simp [List.getD, List.getElem?_replicate, show k < n by omega]
    have e3 : ((k + 1 : Nat) : Int) * p = k * p + p := by rw [Int.natCast_add, Int.add_mul]; simp
    have h0 : 0 ≤ (k : Int) * p := Int.mul_nonneg (by omega) (by omega)
    rw [e, ih, e2, e3]
    unfold mergeStep
    dsimp only
    generalize (k : Int) * p = z at *
    rw [if_pos rfl, if_pos rfl]
    congr 1
    repeat' split
    all_goals omega

theorem full_to (n : Nat) (p : Int) (p1 : 1 ≤ p) : ∀ k, k ≤ n → mergeTo p (List.replicate n ⟨0, 0, 0⟩) k = ⟨0, 0, 0⟩
  | 0, _ => by simp [mergeTo]
  | k + 1, h => by
    have ih := full_to n p p1 k (by omega)
    have e : mergeTo p (List.replicate n ⟨0, 0, 0⟩) (k + 1) = mergeStep p (mergeTo p (List.replicate n ⟨0, 0, 0⟩) k) k ((List.replicate n (⟨0, 0, 0⟩ : Sm)).getD k ⟨0, 0, 0⟩) := rfl
    have e2 : (List.replicate n (⟨0, 0, 0⟩ : Sm)).getD k ⟨0, 0, 0⟩ = ⟨0, 0, 0⟩ := by simp [List.getD, List.getElem?_replicate, show k < n by omega]
    rw [e, ih, e2]
    unfold mergeStep
    dsimp only
    rw [if_neg (show ¬ (0 : Int) = p by omega)]
    congr 1
    all_goals repeat' split
    all_goals omega

theorem free_merge (n : Nat) (p : Int) (p1 : 1 ≤ p) (p2 : p ≤ 2097152) (h : n ≤ 64) : mergeT (List.replicate n ⟨p, p, p⟩) p = .tuple #[.agg #[.int .i64 (n * p), .int .i64 (n * p), .int .i64 (n * p)], .int .i64 0] := by
  unfold mergeT
  rw [if_pos (free_right n p p1 p2 h), free_to n p p1 _ (by simp)]
  simp [Sm.val]

theorem full_merge (n : Nat) (p : Int) (p1 : 1 ≤ p) (p2 : p ≤ 2097152) (h : n ≤ 64) : mergeT (List.replicate n ⟨0, 0, 0⟩) p = .tuple #[.agg #[.int .i64 0, .int .i64 0, .int .i64 0], .int .i64 0] := by
  unfold mergeT
  rw [if_pos (full_right n p p1 p2 h), full_to n p p1 _ (by simp)]
  rfl

theorem cast_step (i : Nat) (p : Int) : ((i + 1 : Nat) : Int) * p = i * p + p := by rw [Int.natCast_add, Int.add_mul]; simp

theorem free_rec (p : Int) (p1 : 1 ≤ p) : ∀ (j i : Nat), fitsRec p ((i + (j + 1) : Nat) * p) (List.replicate (j + 1) ⟨p, p, p⟩) i (i * p) = some 0
  | 0, i => by
    have e := cast_step i p
    have h0 : 0 ≤ (i : Int) * p := Int.mul_nonneg (by omega) (by omega)
    rw [show List.replicate (0 + 1) (⟨p, p, p⟩ : Sm) = ⟨p, p, p⟩ :: [] from rfl, show i + (0 + 1) = i + 1 from rfl]
    by_cases hi : i = 0
    · subst hi
      rw [fits_own (by simp) (by simp)]
      simp
    · have h1 : 0 < (i : Int) * p := Int.mul_pos (by omega) (by omega)
      rw [fits_hit (by rw [e]; dsimp only; omega)]
      congr 1; omega
  | j + 1, i => by
    have ih := free_rec p p1 j (i + 1)
    have e := cast_step i p
    have e2 := cast_step (i + (j + 1)) p
    have e3 : ((i + (j + 1) : Nat) : Int) * p = i * p + (j + 1 : Nat) * p := by rw [Int.natCast_add, Int.add_mul]
    have e4 := cast_step j p
    have h0 : 0 ≤ (i : Int) * p := Int.mul_nonneg (by omega) (by omega)
    have h1 : 0 ≤ (j : Int) * p := Int.mul_nonneg (by omega) (by omega)
    rw [show List.replicate (j + 1 + 1) (⟨p, p, p⟩ : Sm) = ⟨p, p, p⟩ :: List.replicate (j + 1) ⟨p, p, p⟩ from rfl]
    rw [show i + (j + 1 + 1) = i + (j + 1) + 1 by omega]
    rw [fits_on (by rw [e2, e3, e4]; dsimp only; omega) (by rw [e2, e3, e4]; dsimp only; omega)]
    dsimp only
    rw [if_pos rfl, ← e, show i + (j + 1) + 1 = i + 1 + (j + 1) by omega]
    exact_mod_cast ih

theorem free_more (p : Int) (p1 : 1 ≤ p) : ∀ (j i : Nat), fitsRec p ((i + j : Nat) * p + 1) (List.replicate j ⟨p, p, p⟩) i (i * p) = none
  | 0, i => rfl
  | j + 1, i => by
    have ih := free_more p p1 j (i + 1)
    have e := cast_step i p
    have e2 := cast_step (i + j) p
    have e3 : ((i + j : Nat) : Int) * p = i * p + j * p := by rw [Int.natCast_add, Int.add_mul]
    have h0 : 0 ≤ (i : Int) * p := Int.mul_nonneg (by omega) (by omega)
    have h1 : 0 ≤ (j : Int) * p := Int.mul_nonneg (by omega) (by omega)
    rw [show List.replicate (j + 1) (⟨p, p, p⟩ : Sm) = ⟨p, p, p⟩ :: List.replicate j ⟨p, p, p⟩ from rfl]
    rw [show i + (j + 1) = i + j + 1 by omega]
    rw [fits_on (by rw [e2, e3]; dsimp only; omega) (by rw [e2, e3]; dsimp only; omega)]
    dsimp only
    rw [if_pos rfl, ← e, show i + j + 1 = i + 1 + j by omega]
    exact_mod_cast ih

theorem full_rec (p N : Int) (p1 : 1 ≤ p) (hN : 1 ≤ N) : ∀ (j : Nat) (i : Int), fitsRec p N (List.replicate j ⟨0, 0, 0⟩) i 0 = none
  | 0, i => rfl
  | j + 1, i => by
    rw [show List.replicate (j + 1) (⟨0, 0, 0⟩ : Sm) = ⟨0, 0, 0⟩ :: List.replicate j ⟨0, 0, 0⟩ from rfl]
    rw [fits_on (by dsimp only; omega) (by dsimp only; omega)]
    dsimp only
    rw [if_neg (by omega)]
    exact full_rec p N p1 hN j (i + 1)

theorem free_fits (n : Nat) (p : Int) (n1 : 1 ≤ n) (p1 : 1 ≤ p) (p2 : p ≤ 2097152) (h : n ≤ 64) : fitsT (List.replicate n ⟨p, p, p⟩) p (n * p) = .tuple #[.int .i64 0, .bool true, .int .i64 0] := by
  unfold fitsT
  have h1 : 0 < (n : Int) * p := Int.mul_pos (by omega) (by omega)
  rw [if_pos ⟨free_right n p p1 p2 h, by omega⟩]
  obtain ⟨m, rfl⟩ : ∃ m, n = m + 1 := ⟨n - 1, by omega⟩
  have := free_rec p p1 m 0
  simp only [Nat.zero_add, Int.natCast_zero, Int.zero_mul] at this
  rw [this]; rfl

theorem free_fits1 (n : Nat) (p : Int) (n1 : 1 ≤ n) (p1 : 1 ≤ p) (p2 : p ≤ 2097152) (h : n ≤ 64) : fitsT (List.replicate n ⟨p, p, p⟩) p (n * p + 1) = .tuple #[.int .i64 0, .bool false, .int .i64 0] := by
  unfold fitsT
  have h1 : 0 < (n : Int) * p := Int.mul_pos (by omega) (by omega)
  rw [if_pos ⟨free_right n p p1 p2 h, by omega⟩]
  have := free_more p p1 n 0
  simp only [Nat.zero_add, Int.natCast_zero, Int.zero_mul] at this
  rw [this]; rfl

theorem full_fits (n : Nat) (p N : Int) (hN : 1 ≤ N) (p1 : 1 ≤ p) (p2 : p ≤ 2097152) (h : n ≤ 64) : fitsT (List.replicate n ⟨0, 0, 0⟩) p N = .tuple #[.int .i64 0, .bool false, .int .i64 0] := by
  unfold fitsT
  rw [if_pos ⟨full_right n p p1 p2 h, hN⟩, full_rec p N p1 hN]; rfl

end Go.Proofs.Ytbfnadfbanhgcaa
