/- Plain laws of rows: the reference's ways come to the same; fewer pages fit no later; pairs merged first. No program's step in sight. -/
import Derived.Test.YtbfnadfbanhgcaaAlike
namespace Go.Proofs.Ytbfnadfbanhgcaa
open Go.RowKit
set_option linter.unusedVariables false

/-! ### where pages fit: the reference's way -/
def tailRun (p : Int) : List Sm → Int
  | [] => 0
  | x :: r => if x.s < p then x.s else x.s + tailRun p r

def refRec (p n : Int) : List Sm → Int → Option Int
  | [], _ => none
  | x :: r, i => if n ≤ x.m then some (i * p) else if x.e = 0 then refRec p n r (i + 1) else if n ≤ x.e + tailRun p r then some (i * p + p - x.e) else refRec p n r (i + 1)

def RightRow (p : Int) (l : List Sm) : Prop := ∀ x ∈ l, rightB x.s x.m x.e p = true

theorem right_parts {s m e p : Int} (h : rightB s m e p = true) : (s = p ∧ m = p ∧ e = p) ∨ (0 ≤ s ∧ 0 ≤ e ∧ m < p ∧ s ≤ m ∧ e ≤ m ∧ s + e < p) := of_decide_eq_true h

theorem tailRun_pos (p : Int) (p1 : 1 ≤ p) : ∀ (l : List Sm), RightRow p l → 0 ≤ tailRun p l
  | [], _ => Int.le_refl _
  | x :: r, h => by
    have ih := tailRun_pos p p1 r (fun y hy => h y (List.mem_cons_of_mem _ hy))
    have hx := right_parts (h x (List.mem_cons_self))
    show 0 ≤ if x.s < p then x.s else x.s + tailRun p r
    split <;> omega

theorem fits_ref (p n : Int) (p1 : 1 ≤ p) (n1 : 1 ≤ n) : ∀ (l : List Sm) (i run : Int), RightRow p l → 0 ≤ run → run < n →
    fitsRec p n l i run = if 0 < run ∧ n ≤ run + tailRun p l then some (i * p - run) else refRec p n l i
  | [], i, run, _, h0, h1 => by
    show none = _
    rw [if_neg (by show ¬ (0 < run ∧ n ≤ run + 0); omega)]; rfl
  | x :: r, i, run, h, h0, h1 => by
    have hr : RightRow p r := fun y hy => h y (List.mem_cons_of_mem _ hy)
    have hx := right_parts (h x (List.mem_cons_self))
    have ht := tailRun_pos p p1 r hr
    have et : tailRun p (x :: r) = if x.s < p then x.s else x.s + tailRun p r := rfl
    have er : refRec p n (x :: r) i = if n ≤ x.m then some (i * p) else if x.e = 0 then refRec p n r (i + 1) else if n ≤ x.e + tailRun p r then some (i * p + p - x.e) else refRec p n r (i + 1) := rfl
    have ei : (i + 1) * p = i * p + p := by rw [Int.add_mul]; simp
    by_cases c1 : 0 < run ∧ n - run ≤ x.s
    · rw [fits_hit c1, if_pos ⟨c1.1, by rw [et]; split <;> omega⟩]
    · by_cases c2 : n ≤ x.m
      · rw [fits_own c1 c2, er, if_pos c2, if_neg]
        rw [et]
        split <;> omega
      · rw [fits_on c1 c2, er, if_neg c2]
        by_cases c3 : x.s = p
        · rw [if_pos c3, fits_ref p n p1 n1 r (i + 1) (run + p) hr (by omega) (by omega), et, if_neg (show ¬ x.s < p by omega), if_neg (show ¬ x.e = 0 by omega)]
          by_cases c4 : 0 < run
          · by_cases c5 : n ≤ run + (x.s + tailRun p r)
            · rw [if_pos (by omega), if_pos (by omega), ei]; exact congrArg some (by omega)
            · rw [if_neg (by omega), if_neg (by omega), if_neg (by omega)]
          · rw [if_neg (show ¬ (0 < run ∧ n ≤ run + (x.s + tailRun p r)) by omega)]
            by_cases c5 : n ≤ x.e + tailRun p r
            · rw [if_pos (by omega), if_pos c5, ei]; exact congrArg some (by omega)
            · rw [if_neg (by omega), if_neg c5]
        · rw [if_neg c3, fits_ref p n p1 n1 r (i + 1) x.e hr (by omega) (by omega), et, if_pos (show x.s < p by omega), if_neg (show ¬ (0 < run ∧ n ≤ run + x.s) by omega)]
          by_cases c4 : x.e = 0
          · rw [if_pos c4, if_neg (by omega)]
          · rw [if_neg c4]
            by_cases c5 : n ≤ x.e + tailRun p r
            · rw [if_pos (by omega), if_pos c5, ei]
            · rw [if_neg (by omega), if_neg c5]

theorem fits_lower (p n : Int) (p1 : 1 ≤ p) : ∀ (l : List Sm) (i run a : Int), RightRow p l → 0 ≤ run → fitsRec p n l i run = some a → i * p - run ≤ a
  | [], i, run, a, _, _, h => by cases h
  | x :: r, i, run, a, h, h0, hf => by
    have hr : RightRow p r := fun y hy => h y (List.mem_cons_of_mem _ hy)
    have hx := right_parts (h x (List.mem_cons_self))
    have ei : (i + 1) * p = i * p + p := by rw [Int.add_mul]; simp
    by_cases c1 : 0 < run ∧ n - run ≤ x.s
    · rw [fits_hit c1] at hf; injection hf with hf; omega
    · by_cases c2 : n ≤ x.m
      · rw [fits_own c1 c2] at hf; injection hf with hf; omega
      · rw [fits_on c1 c2] at hf
        have := fits_lower p n p1 r (i + 1) _ a hr (by split <;> omega) hf
        rw [ei] at this
        split at this <;> omega

theorem fits_fewer (p n m : Int) (p1 : 1 ≤ p) (n1 : 1 ≤ n) (hnm : n ≤ m) : ∀ (l : List Sm) (i run a : Int), RightRow p l → 0 ≤ run → run ≤ i * p → 0 ≤ i → fitsRec p m l i run = some a → ∃ b, fitsRec p n l i run = some b ∧ 0 ≤ b ∧ b ≤ a
  | [], i, run, a, _, _, _, _, h => by cases h
  | x :: r, i, run, a, h, h0, h3, h4, hf => by
    have hr : RightRow p r := fun y hy => h y (List.mem_cons_of_mem _ hy)
    have hx := right_parts (h x (List.mem_cons_self))
    have ei : (i + 1) * p = i * p + p := by rw [Int.add_mul]; simp
    have e0 : 0 ≤ i * p := Int.mul_nonneg h4 (by omega)
    have hlow := fits_lower p m p1 (x :: r) i run a h h0 hf
    by_cases c1 : 0 < run ∧ n - run ≤ x.s
    · exact ⟨_, fits_hit c1, by omega, by omega⟩
    · have c1' : ¬ (0 < run ∧ m - run ≤ x.s) := by omega
      by_cases c2 : n ≤ x.m
      · refine ⟨_, fits_own c1 c2, e0, ?_⟩
        by_cases c2' : m ≤ x.m
        · rw [fits_own c1' c2'] at hf; injection hf with hf; omega
        · rw [fits_on c1' c2'] at hf
          have := fits_lower p m p1 r (i + 1) _ a hr (by split <;> omega) hf
          rw [ei] at this
          split at this <;> omega
      · rw [fits_on c1' (by omega)] at hf
        rw [fits_on c1 c2]
        exact fits_fewer p n m p1 n1 hnm r (i + 1) _ a hr (by split <;> omega) (by rw [ei]; split <;> omega) (by omega) hf

theorem fits_upper (p n : Int) (p1 : 1 ≤ p) : ∀ (l : List Sm) (i run a : Int), RightRow p l → 0 ≤ run → fitsRec p n l i run = some a → a ≤ i * p + l.length * p
  | [], i, run, a, _, _, h => by cases h
  | x :: r, i, run, a, h, h0, hf => by
    have hr : RightRow p r := fun y hy => h y (List.mem_cons_of_mem _ hy)
    have hx := right_parts (h x (List.mem_cons_self))
    have ei : (i + 1) * p = i * p + p := by rw [Int.add_mul]; simp
    have el : ((x :: r).length : Int) * p = r.length * p + p := by rw [List.length_cons]; exact cast_step _ _
    have e0 : 0 ≤ (r.length : Int) * p := Int.mul_nonneg (by omega) (by omega)
    rw [el]
    by_cases c1 : 0 < run ∧ n - run ≤ x.s
    · rw [fits_hit c1] at hf; injection hf with hf; omega
    · by_cases c2 : n ≤ x.m
      · rw [fits_own c1 c2] at hf; injection hf with hf; omega
      · rw [fits_on c1 c2] at hf
        have := fits_upper p n p1 r (i + 1) _ a hr (by split <;> omega) hf
        rw [ei] at this
        omega

theorem rightRow_of {l : List Sm} {p : Int} (h : rightsB l p = true) : RightRow p l := by
  intro x hx
  unfold rightsB at h
  rw [Bool.and_eq_true] at h
  exact List.all_eq_true.1 h.2 x hx

/-- what is told of more pages is told of fewer. -/
def fewerOk (l : List Sm) (p n m : Int) : Prop :=
  (rightsB l p = false ∧ fitsT l p m = .tuple #[.int .i64 0, .bool false, .int .i64 1] ∧ fitsT l p n = .tuple #[.int .i64 0, .bool false, .int .i64 1]) ∨
  (1 ≤ p ∧ fitsT l p m = .tuple #[.int .i64 0, .bool false, .int .i64 0] ∧ ∃ j b, fitsT l p n = .tuple #[.int .i64 j, .bool b, .int .i64 0] ∧ 0 ≤ j) ∨
  (1 ≤ p ∧ ∃ i j, fitsT l p m = .tuple #[.int .i64 i, .bool true, .int .i64 0] ∧ fitsT l p n = .tuple #[.int .i64 j, .bool true, .int .i64 0] ∧ 0 ≤ j ∧ j ≤ i ∧ i ≤ 134217728)

theorem fewer (l : List Sm) (p n m : Int) (n1 : 1 ≤ n) (hnm : n ≤ m) : fewerOk l p n m := by
  unfold fewerOk
  cases hr : rightsB l p
  · left
    refine ⟨rfl, ?_, ?_⟩ <;> (unfold fitsT; rw [if_neg (by simp [hr])])
  · right
    obtain ⟨p1, p2, p3, -⟩ := rights_of hr
    have h1 : fitsT l p m = fitsTuple (fitsRec p m l 0 0) := by unfold fitsT; rw [if_pos ⟨hr, by omega⟩]
    have h2 : fitsT l p n = fitsTuple (fitsRec p n l 0 0) := by unfold fitsT; rw [if_pos ⟨hr, by omega⟩]
    rw [h1, h2]
    cases hm : fitsRec p m l 0 0 with
    | none =>
      left
      refine ⟨p1, rfl, ?_⟩
      cases hn : fitsRec p n l 0 0 with
      | none => exact ⟨0, false, rfl, by omega⟩
      | some j =>
        have := fits_lower p n p1 l 0 0 j (rightRow_of hr) (by omega) hn
        exact ⟨j, true, rfl, by omega⟩
    | some i =>
      right
      obtain ⟨j, hj, hj0, hji⟩ := fits_fewer p n m p1 n1 hnm l 0 0 i (rightRow_of hr) (by omega) (by omega) (by omega) hm
      rw [hj]
      have hup := fits_upper p m p1 l 0 0 i (rightRow_of hr) (by omega) hm
      have : (l.length : Int) * p ≤ 64 * 2097152 := Int.mul_le_mul (by omega) p2 (by omega) (by omega)
      exact ⟨p1, i, j, rfl, rfl, hj0, hji, by omega⟩

theorem fits_is_ref (l : List Sm) (p n : Int) (hr : rightsB l p = true) (n1 : 1 ≤ n) : fitsRec p n l 0 0 = refRec p n l 0 := by
  rw [fits_ref p n (rights_of hr).1 n1 l 0 0 (rightRow_of hr) (by omega) (by omega), if_neg (by omega)]

/-! ### merging: one row more, in the reference's way -/
theorem step_ref {p i : Int} {o x : Sm} (hx : rightB x.s x.m x.e p = true) : mergeStep p o i x = ⟨if o.s = i * p then o.s + x.s else o.s,
      if (if o.m < o.e + x.s then o.e + x.s else o.m) < x.m then x.m else if o.m < o.e + x.s then o.e + x.s else o.m,
      (if x.s < p then 0 else o.e) + x.e⟩ := by
  have hx := right_parts hx
  obtain ⟨os, om, oe⟩ := o
  obtain ⟨xs, xm, xe⟩ := x
  unfold mergeStep
  dsimp only at *
  generalize i * p = z
  congr 1
  · (repeat' split) <;> omega
  · (repeat' split) <;> omega

theorem merge_whole {l : List Sm} {p : Int} (hr : rightsB l p = true) (k : Nat) (hk : k < l.length) :
    mergeTo p l (k + 1) = ⟨if (mergeTo p l k).s = k * p then (mergeTo p l k).s + l[k].s else (mergeTo p l k).s,
      if (if (mergeTo p l k).m < (mergeTo p l k).e + l[k].s then (mergeTo p l k).e + l[k].s else (mergeTo p l k).m) < l[k].m then l[k].m else if (mergeTo p l k).m < (mergeTo p l k).e + l[k].s then (mergeTo p l k).e + l[k].s else (mergeTo p l k).m,
      (if l[k].s < p then 0 else (mergeTo p l k).e) + l[k].e⟩ := by
  have h1 : mergeTo p l (k + 1) = mergeStep p (mergeTo p l k) k (l.getD k ⟨0, 0, 0⟩) := rfl
  rw [h1, getD_lt hk]
  exact step_ref ((rights_of hr).2.2.2 k hk)

theorem whole_next {l : List Sm} {p : Int} (hr : rightsB l p = true) (k : Nat) (hk : k < l.length) :
    ((mergeTo p l (k + 1)).s = ((k + 1 : Nat) : Int) * p) ↔ ((mergeTo p l k).s = k * p ∧ ¬ l[k].s < p) := by
  have hx := right_parts ((rights_of hr).2.2.2 k hk)
  have hp := (rights_of hr).1
  have ho := ok_of hr k (by omega)
  rw [merge_whole hr k hk, cast_step]
  unfold mergeOk at ho
  generalize mergeTo p l k = o at *
  generalize l[k] = x at *
  generalize (k : Int) * p = z at *
  dsimp only
  split <;> omega

end Go.Proofs.Ytbfnadfbanhgcaa
