/- How many slots are used; rows of truths. No program in sight. -/
import Derived.Test.YticaamdghjfifaaDoorEnds
namespace Go.Proofs.YticaamdghjfifaaDoor
open Go.RowKit
set_option linter.unusedVariables false

def cntB (U : Nat → Bool) (n : Nat) : Nat := (swl U n).length
theorem cntB_zero (U : Nat → Bool) : cntB U 0 = 0 := rfl
theorem cntB_succ (U : Nat → Bool) (n : Nat) : cntB U (n + 1) = cntB U n + (if U n = true then 1 else 0) := by
  unfold cntB swl
  rw [List.range_succ, List.filter_append, List.length_append]
  by_cases h : U n = true <;> simp [h]
theorem cntB_le (U : Nat → Bool) : ∀ n, cntB U n ≤ n
  | 0 => Nat.le_refl _
  | n + 1 => by
    have := cntB_le U n
    rw [cntB_succ]; split <;> omega
theorem cntB_congr {U V : Nat → Bool} : ∀ {n : Nat}, (∀ j, j < n → U j = V j) → cntB U n = cntB V n
  | 0, _ => rfl
  | n + 1, h => by
    rw [cntB_succ, cntB_succ, cntB_congr (fun j hj => h j (by omega)), h n (by omega)]
theorem cntB_lt (U : Nat → Bool) : ∀ n r, r < n → U r = false → cntB U n < n
  | 0, r, h, _ => by omega
  | n + 1, r, h, hr => by
    rw [cntB_succ]
    by_cases e : r = n
    · subst e
      have := cntB_le U r
      simp [hr]; omega
    · have := cntB_lt U n r (by omega) hr
      split <;> omega
theorem cntB_pos (U : Nat → Bool) : ∀ n r, r < n → U r = true → 0 < cntB U n
  | 0, r, h, _ => by omega
  | n + 1, r, h, hr => by
    rw [cntB_succ]
    by_cases e : r = n
    · subst e; simp [hr]
    · have := cntB_pos U n r (by omega) hr
      omega
theorem setB_at (U : Nat → Bool) (r j : Nat) : setB U r 1 j = (U j || decide (j = r)) := by
  unfold setB inB
  by_cases h : j = r
  · subst h; simp
  · rw [decide_eq_false (show ¬ (r ≤ j ∧ j < r + 1) by omega), decide_eq_false h]
theorem clrB_at (U : Nat → Bool) (r j : Nat) : clrB U r 1 j = (U j && !decide (j = r)) := by
  unfold clrB inB
  by_cases h : j = r
  · subst h; simp
  · rw [decide_eq_false (show ¬ (r ≤ j ∧ j < r + 1) by omega), decide_eq_false h]
theorem cntB_set (U : Nat → Bool) : ∀ n r, r < n → U r = false → cntB (setB U r 1) n = cntB U n + 1
  | 0, r, h, _ => by omega
  | n + 1, r, h, hr => by
    rw [cntB_succ, cntB_succ]
    by_cases e : r = n
    · subst e
      rw [cntB_congr (U := setB U r 1) (V := U) (fun j hj => by rw [setB_at, decide_eq_false (show ¬ j = r by omega), Bool.or_false]), setB_at]
      simp [hr]
    · rw [cntB_set U n r (by omega) hr, setB_at, decide_eq_false (show ¬ n = r by omega), Bool.or_false]
      omega
theorem cntB_clr (U : Nat → Bool) (n r : Nat) (h : r < n) (hr : U r = true) : cntB (clrB U r 1) n = cntB U n - 1 := by
  have e : setB (clrB U r 1) r 1 = U := by
    funext j
    rw [setB_at, clrB_at]
    by_cases h : j = r
    · subst h; simp [hr]
    · simp [h]
  have := cntB_set (clrB U r 1) n r h (by rw [clrB_at]; simp)
  rw [e] at this
  omega
theorem cntB_all (U : Nat → Bool) : ∀ n, (∀ j, j < n → U j = true) → cntB U n = n
  | 0, _ => rfl
  | n + 1, h => by
    rw [cntB_succ, cntB_all U n (fun j hj => h j (by omega)), h n (by omega)]; rfl

/-- cells of a row of truths. -/
def bl (U : Nat → Bool) (n : Nat) : Array Value := (List.range n).toArray.map fun j => .bool (U j)
theorem bl_size (U : Nat → Bool) (n : Nat) : (bl U n).size = n := by unfold bl; simp
theorem bl_get (U : Nat → Bool) (n j : Nat) (h : j < n) : (bl U n)[j]? = some (.bool (U j)) := by unfold bl; simp [h]
theorem bl_congr {U V : Nat → Bool} {n : Nat} (h : ∀ j, j < n → U j = V j) : bl U n = bl V n := by
  refine Array.ext_getElem? fun j => ?_
  by_cases hj : j < n
  · rw [bl_get U n j hj, bl_get V n j hj, h j hj]
  · rw [Array.getElem?_eq_none (by rw [bl_size]; omega), Array.getElem?_eq_none (by rw [bl_size]; omega)]
/-- one truth is written. -/
def updB (U : Nat → Bool) (r : Nat) (x : Bool) : Nat → Bool := fun j => if j = r then x else U j
theorem bl_set (U : Nat → Bool) (n r : Nat) (x : Bool) (h : r < n) : (bl U n).setIfInBounds r (.bool x) = bl (updB U r x) n := by
  refine Array.ext_getElem? fun j => ?_
  by_cases hj : j < n
  · rw [bl_get _ n j hj]
    unfold updB
    by_cases e : r = j
    · subst e; simp [bl_size, h]
    · rw [Array.getElem?_setIfInBounds_ne e, bl_get _ n j hj, if_neg (fun x => e x.symm)]
  · rw [Array.getElem?_eq_none (by rw [Array.size_setIfInBounds, bl_size]; omega), Array.getElem?_eq_none (by rw [bl_size]; omega)]
theorem bl_made (n : Nat) : madeCells (Value.bool false).cells (n * 1) = bl (fun _ => false) n := by
  refine Array.ext_getElem? fun j => ?_
  by_cases hj : j < n
  · rw [bl_get _ n j hj]
    unfold madeCells
    simp [hj, Value.cells, Nat.mod_one]
  · rw [Array.getElem?_eq_none (by rw [size_madeCells]; omega), Array.getElem?_eq_none (by rw [bl_size]; omega)]

end Go.Proofs.YticaamdghjfifaaDoor
