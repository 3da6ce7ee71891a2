/- Merging pairs first comes to the same. No program's step in sight. -/
import Derived.Test.YtbfnadfbanhgcaaPairs
namespace Go.Proofs.Ytbfnadfbanhgcaa
open Go.RowKit
set_option linter.unusedVariables false

def pairAt (p : Int) (l : List Sm) (i : Nat) : Sm := pairSm p (l.getD (i * 2) ⟨0, 0, 0⟩) (l.getD (i * 2 + 1) ⟨0, 0, 0⟩)
def pairsTo (p : Int) (l : List Sm) (k : Nat) : List Sm := (List.range k).map (pairAt p l)

theorem pairsTo_len (p : Int) (l : List Sm) (k : Nat) : (pairsTo p l k).length = k := by simp [pairsTo]
theorem pairsTo_snoc (p : Int) (l : List Sm) (k : Nat) : pairsTo p l (k + 1) = pairsTo p l k ++ [pairAt p l k] := by simp [pairsTo, List.range_succ]
theorem pairsTo_getD (p : Int) (l : List Sm) (m k : Nat) (h : k < m) : (pairsTo p l m).getD k ⟨0, 0, 0⟩ = pairAt p l k := by
  simp [pairsTo, List.getD, h]

theorem pairs_right {l : List Sm} {p : Int} {m : Nat} (hr : rightsB l p = true) (hp : p ≤ 524288) (hm : l.length = m * 2) : rightsB (pairsTo p l m) (2 * p) = true := by
  obtain ⟨p1, p2, p3, h⟩ := rights_of hr
  unfold rightsB
  rw [pairsTo_len, decide_eq_true ⟨by omega, by omega, by omega⟩, Bool.true_and, List.all_eq_true]
  intro x hx
  simp only [pairsTo, List.mem_map, List.mem_range] at hx
  obtain ⟨i, hi, rfl⟩ := hx
  unfold pairAt
  rw [getD_lt (by omega), getD_lt (by omega)]
  exact pair_right p1 (h _ (by omega)) (h _ (by omega))

theorem pairs_merge {l : List Sm} {p : Int} {m : Nat} (hr : rightsB l p = true) (hm : l.length = m * 2) : ∀ k, k ≤ m → mergeTo (2 * p) (pairsTo p l m) k = mergeTo p l (k * 2)
  | 0, _ => rfl
  | k + 1, h => by
    obtain ⟨p1, p2, p3, hx⟩ := rights_of hr
    have ih := pairs_merge hr hm k (by omega)
    have ho := ok_of hr (k * 2) (by omega)
    have e1 : mergeTo (2 * p) (pairsTo p l m) (k + 1) = mergeStep (2 * p) (mergeTo (2 * p) (pairsTo p l m) k) k ((pairsTo p l m).getD k ⟨0, 0, 0⟩) := rfl
    have e2 : mergeTo p l ((k + 1) * 2) = mergeStep p (mergeStep p (mergeTo p l (k * 2)) ((k * 2 : Nat) : Int) (l.getD (k * 2) ⟨0, 0, 0⟩)) ((k * 2 + 1 : Nat) : Int) (l.getD (k * 2 + 1) ⟨0, 0, 0⟩) := by
      rw [show (k + 1) * 2 = k * 2 + 1 + 1 by omega]; rfl
    rw [e1, e2, ih, pairsTo_getD p l m k (by omega)]
    unfold pairAt
    have r1 := hx (k * 2) (by omega)
    have r2 := hx (k * 2 + 1) (by omega)
    rw [getD_lt (by omega), getD_lt (by omega)]
    unfold mergeOk at ho
    have c1 : ((k * 2 : Nat) : Int) = 2 * (k : Int) := by omega
    have c2 : ((k * 2 + 1 : Nat) : Int) = 2 * (k : Int) + 1 := by omega
    rw [c1] at ho
    rw [c1, c2]
    exact pair_step p1 r1 r2 k ⟨ho.1, ho.2.1⟩ ho.2.2.1 ho.2.2.2.2.1

theorem three_all {l : List Sm} {p : Int} {m : Nat} (hr : rightsB l p = true) (hp : p ≤ 524288) (hm : l.length = m * 2) : mergeT (pairsTo p l m) (2 * p) = mergeT l p := by
  unfold mergeT
  rw [if_pos hr, if_pos (pairs_right hr hp hm), pairs_merge hr hm _ (by rw [pairsTo_len]; omega), pairsTo_len, hm]

theorem three_pair {x y : Sm} {p : Int} (hp : 1 ≤ p) (hp2 : p ≤ 2097152) (hx : rightB x.s x.m x.e p = true) (hy : rightB y.s y.m y.e p = true) : mergeT [x, y] p = .tuple #[(pairSm p x y).val, .int .i64 0] := by
  have : rightsB [x, y] p = true := by
    unfold rightsB
    rw [decide_eq_true ⟨hp, hp2, by simp⟩]
    simp [hx, hy]
  unfold mergeT
  rw [if_pos this]
  rfl

theorem three_one {x : Sm} {p : Int} (hp : 1 ≤ p) (hp2 : p ≤ 2097152) (hx : rightB x.s x.m x.e p = true) : mergeT [x] p = .tuple #[x.val, .int .i64 0] := by
  have hr : rightsB [x] p = true := by
    unfold rightsB
    rw [decide_eq_true ⟨hp, hp2, by simp⟩]
    simp [hx]
  unfold mergeT
  rw [if_pos hr]
  have e : mergeTo p [x] 1 = mergeStep p ⟨0, 0, 0⟩ ((0 : Nat) : Int) x := rfl
  have hx := right_parts hx
  have : mergeTo p [x] [x].length = x := by
    show mergeTo p [x] 1 = x
    rw [e]
    obtain ⟨xs, xm, xe⟩ := x
    unfold mergeStep
    dsimp only at *
    simp only [Int.natCast_zero, Int.zero_mul, if_true, Int.zero_add]
    congr 1
    · (repeat' split) <;> omega
    · split <;> omega
  rw [this]

end Go.Proofs.Ytbfnadfbanhgcaa
