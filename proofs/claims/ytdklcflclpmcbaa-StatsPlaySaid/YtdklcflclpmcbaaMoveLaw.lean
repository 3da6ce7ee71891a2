/- What a move does to the sums. No program's step in sight. -/
import Derived.Test.YtdklcflclpmcbaaMoveC
namespace Go.Proofs.Ytdklcflclpmcbaa
open Go.RowKit
set_option linter.unusedVariables false

theorem plus_mod (x y : Int) : plus x y = (x + y) % 18446744073709551616 := by
  unfold plus
  simp [IntKind.wrap, IntKind.signed, IntKind.bits]

/-- the plain sum of one kind of counts. -/
def sumI (L : List Int) (c : Nat) : Nat → Int
  | 0 => 0
  | k + 1 => sumI L c k + L.getD (k * 4 + c) 0

theorem sumTo_is (L : List Int) (c : Nat) : ∀ k, sumTo L c k = sumI L c k % 18446744073709551616
  | 0 => rfl
  | k + 1 => by
    show plus (sumTo L c k) (L.getD (k * 4 + c) 0) = (sumI L c k + L.getD (k * 4 + c) 0) % 18446744073709551616
    rw [plus_mod, sumTo_is L c k, Int.emod_add_emod]

theorem sumI_set (L : List Int) (c j d : Nat) (v : Int) (hc : c < 4) (hd : d < 4) (hj : j * 4 + d < L.length) : ∀ k, sumI (L.set (j * 4 + d) v) c k = sumI L c k + if c = d ∧ j < k then v - L.getD (j * 4 + d) 0 else 0
  | 0 => by simp [sumI]
  | k + 1 => by
    have ih := sumI_set L c j d v hc hd hj k
    show sumI (L.set (j * 4 + d) v) c k + (L.set (j * 4 + d) v).getD (k * 4 + c) 0 = sumI L c k + L.getD (k * 4 + c) 0 + _
    rw [ih]
    by_cases h : j * 4 + d = k * 4 + c
    · have e1 : j = k := by omega
      have e2 : c = d := by omega
      subst e1 e2
      rw [getD_set_same hj, if_neg (by omega), if_pos (by omega)]
      omega
    · rw [getD_set_other h]
      by_cases e : c = d ∧ j < k
      · rw [if_pos e, if_pos (by omega)]; omega
      · rw [if_neg e, if_neg (by omega)]; omega

theorem sumI_set0 (L : List Int) (c j : Nat) (v : Int) (hc : c < 4) (hj : j * 4 < L.length) (k : Nat) : sumI (L.set (j * 4) v) c k = sumI L c k + if c = 0 ∧ j < k then v - L.getD (j * 4) 0 else 0 :=
  sumI_set L c j 0 v hc (by omega) hj k

theorem move_sum0 (L : List Int) (i j n : Nat) (hi : i < n) (hj : j < n) (hne : i ≠ j) (hl : L.length = n * 4) : sumTo (moveL L i j) 0 n = sumTo L 0 n := by
  rw [sumTo_is, sumTo_is]
  unfold moveL
  generalize hx : L.getD (j * 4) 0 = x
  generalize hy : L.getD (i * 4) 0 = y
  generalize plus (L.getD (j * 4 + 1) 0) (L.getD (i * 4 + 1) 0) = v1
  generalize plus (L.getD (j * 4 + 2) 0) (L.getD (i * 4 + 2) 0) = v2
  generalize plus (L.getD (j * 4 + 3) 0) (L.getD (i * 4 + 3) 0) = v3
  generalize hp : plus x y = v0
  rw [plus_mod] at hp
  rw [sumI_set _ 0 i 3 _ (by omega) (by omega) (by simp [hl]; omega), if_neg (by omega)]
  rw [sumI_set _ 0 i 2 _ (by omega) (by omega) (by simp [hl]; omega), if_neg (by omega)]
  rw [sumI_set _ 0 i 1 _ (by omega) (by omega) (by simp [hl]; omega), if_neg (by omega)]
  rw [sumI_set0 _ 0 i _ (by omega) (by simp [hl]; omega), if_pos (by omega)]
  rw [sumI_set _ 0 j 3 _ (by omega) (by omega) (by simp [hl]; omega), if_neg (by omega)]
  rw [sumI_set _ 0 j 2 _ (by omega) (by omega) (by simp [hl]; omega), if_neg (by omega)]
  rw [sumI_set _ 0 j 1 _ (by omega) (by omega) (by simp [hl]; omega), if_neg (by omega)]
  rw [sumI_set0 _ 0 j _ (by omega) (by simp [hl]; omega), if_pos (by omega)]
  repeat (rw [getD_set_other (by omega)])
  rw [hy, hx]
  omega

theorem move_sum1 (L : List Int) (i j n : Nat) (hi : i < n) (hj : j < n) (hne : i ≠ j) (hl : L.length = n * 4) : sumTo (moveL L i j) 1 n = sumTo L 1 n := by
  rw [sumTo_is, sumTo_is]
  unfold moveL
  generalize hx : L.getD (j * 4 + 1) 0 = x
  generalize hy : L.getD (i * 4 + 1) 0 = y
  generalize plus (L.getD (j * 4) 0) (L.getD (i * 4) 0) = v0
  generalize plus (L.getD (j * 4 + 2) 0) (L.getD (i * 4 + 2) 0) = v2
  generalize plus (L.getD (j * 4 + 3) 0) (L.getD (i * 4 + 3) 0) = v3
  generalize hp : plus x y = v1
  rw [plus_mod] at hp
  rw [sumI_set _ 1 i 3 _ (by omega) (by omega) (by simp [hl]; omega), if_neg (by omega)]
  rw [sumI_set _ 1 i 2 _ (by omega) (by omega) (by simp [hl]; omega), if_neg (by omega)]
  rw [sumI_set _ 1 i 1 _ (by omega) (by omega) (by simp [hl]; omega), if_pos (by omega)]
  rw [sumI_set0 _ 1 i _ (by omega) (by simp [hl]; omega), if_neg (by omega)]
  rw [sumI_set _ 1 j 3 _ (by omega) (by omega) (by simp [hl]; omega), if_neg (by omega)]
  rw [sumI_set _ 1 j 2 _ (by omega) (by omega) (by simp [hl]; omega), if_neg (by omega)]
  rw [sumI_set _ 1 j 1 _ (by omega) (by omega) (by simp [hl]; omega), if_pos (by omega)]
  rw [sumI_set0 _ 1 j _ (by omega) (by simp [hl]; omega), if_neg (by omega)]
  repeat (rw [getD_set_other (by omega)])
  rw [hy, hx]
  omega

theorem move_sum2 (L : List Int) (i j n : Nat) (hi : i < n) (hj : j < n) (hne : i ≠ j) (hl : L.length = n * 4) : sumTo (moveL L i j) 2 n = sumTo L 2 n := by
  rw [sumTo_is, sumTo_is]
  unfold moveL
  generalize hx : L.getD (j * 4 + 2) 0 = x
  generalize hy : L.getD (i * 4 + 2) 0 = y
  generalize plus (L.getD (j * 4) 0) (L.getD (i * 4) 0) = v0
  generalize plus (L.getD (j * 4 + 1) 0) (L.getD (i * 4 + 1) 0) = v1
  generalize plus (L.getD (j * 4 + 3) 0) (L.getD (i * 4 + 3) 0) = v3
  generalize hp : plus x y = v2
  rw [plus_mod] at hp
  rw [sumI_set _ 2 i 3 _ (by omega) (by omega) (by simp [hl]; omega), if_neg (by omega)]
  rw [sumI_set _ 2 i 2 _ (by omega) (by omega) (by simp [hl]; omega), if_pos (by omega)]
  rw [sumI_set _ 2 i 1 _ (by omega) (by omega) (by simp [hl]; omega), if_neg (by omega)]
  rw [sumI_set0 _ 2 i _ (by omega) (by simp [hl]; omega), if_neg (by omega)]
  rw [sumI_set _ 2 j 3 _ (by omega) (by omega) (by simp [hl]; omega), if_neg (by omega)]
  rw [sumI_set _ 2 j 2 _ (by omega) (by omega) (by simp [hl]; omega), if_pos (by omega)]
  rw [sumI_set _ 2 j 1 _ (by omega) (by omega) (by simp [hl]; omega), if_neg (by omega)]
  rw [sumI_set0 _ 2 j _ (by omega) (by simp [hl]; omega), if_neg (by omega)]
  repeat (rw [getD_set_other (by omega)])
  rw [hy, hx]
  omega

theorem move_sum3 (L : List Int) (i j n : Nat) (hi : i < n) (hj : j < n) (hne : i ≠ j) (hl : L.length = n * 4) : sumTo (moveL L i j) 3 n = sumTo L 3 n := by
  rw [sumTo_is, sumTo_is]
  unfold moveL
  generalize hx : L.getD (j * 4 + 3) 0 = x
  generalize hy : L.getD (i * 4 + 3) 0 = y
  generalize plus (L.getD (j * 4) 0) (L.getD (i * 4) 0) = v0
  generalize plus (L.getD (j * 4 + 1) 0) (L.getD (i * 4 + 1) 0) = v1
  generalize plus (L.getD (j * 4 + 2) 0) (L.getD (i * 4 + 2) 0) = v2
  generalize hp : plus x y = v3
  rw [plus_mod] at hp
  rw [sumI_set _ 3 i 3 _ (by omega) (by omega) (by simp [hl]; omega), if_pos (by omega)]
  rw [sumI_set _ 3 i 2 _ (by omega) (by omega) (by simp [hl]; omega), if_neg (by omega)]
  rw [sumI_set _ 3 i 1 _ (by omega) (by omega) (by simp [hl]; omega), if_neg (by omega)]
  rw [sumI_set0 _ 3 i _ (by omega) (by simp [hl]; omega), if_neg (by omega)]
  rw [sumI_set _ 3 j 3 _ (by omega) (by omega) (by simp [hl]; omega), if_pos (by omega)]
  rw [sumI_set _ 3 j 2 _ (by omega) (by omega) (by simp [hl]; omega), if_neg (by omega)]
  rw [sumI_set _ 3 j 1 _ (by omega) (by omega) (by simp [hl]; omega), if_neg (by omega)]
  rw [sumI_set0 _ 3 j _ (by omega) (by simp [hl]; omega), if_neg (by omega)]
  repeat (rw [getD_set_other (by omega)])
  rw [hy, hx]
  omega

theorem move_from0 (L : List Int) (i j n : Nat) (hi : i < n) (hj : j < n) (hne : i ≠ j) (hl : L.length = n * 4) : (moveL L i j).getD (i * 4) 0 = 0 := by
  unfold moveL
  rw [getD_set_other (by omega), getD_set_other (by omega), getD_set_other (by omega), getD_set_same (by simp [hl]; omega)]
theorem move_to0 (L : List Int) (i j n : Nat) (hi : i < n) (hj : j < n) (hne : i ≠ j) (hl : L.length = n * 4) : (moveL L i j).getD (j * 4) 0 = plus (L.getD (j * 4) 0) (L.getD (i * 4) 0) := by
  unfold moveL
  rw [getD_set_other (by omega), getD_set_other (by omega), getD_set_other (by omega), getD_set_other (by omega), getD_set_other (by omega), getD_set_other (by omega), getD_set_other (by omega), getD_set_same (by simp [hl]; omega)]
theorem move_from1 (L : List Int) (i j n : Nat) (hi : i < n) (hj : j < n) (hne : i ≠ j) (hl : L.length = n * 4) : (moveL L i j).getD (i * 4 + 1) 0 = 0 := by
  unfold moveL
  rw [getD_set_other (by omega), getD_set_other (by omega), getD_set_same (by simp [hl]; omega)]
theorem move_to1 (L : List Int) (i j n : Nat) (hi : i < n) (hj : j < n) (hne : i ≠ j) (hl : L.length = n * 4) : (moveL L i j).getD (j * 4 + 1) 0 = plus (L.getD (j * 4 + 1) 0) (L.getD (i * 4 + 1) 0) := by
  unfold moveL
  rw [getD_set_other (by omega), getD_set_other (by omega), getD_set_other (by omega), getD_set_other (by omega), getD_set_other (by omega), getD_set_other (by omega), getD_set_same (by simp [hl]; omega)]
theorem move_from2 (L : List Int) (i j n : Nat) (hi : i < n) (hj : j < n) (hne : i ≠ j) (hl : L.length = n * 4) : (moveL L i j).getD (i * 4 + 2) 0 = 0 := by
  unfold moveL
  rw [getD_set_other (by omega), getD_set_same (by simp [hl]; omega)]
theorem move_to2 (L : List Int) (i j n : Nat) (hi : i < n) (hj : j < n) (hne : i ≠ j) (hl : L.length = n * 4) : (moveL L i j).getD (j * 4 + 2) 0 = plus (L.getD (j * 4 + 2) 0) (L.getD (i * 4 + 2) 0) := by
  unfold moveL
  rw [getD_set_other (by omega), getD_set_other (by omega), getD_set_other (by omega), getD_set_other (by omega), getD_set_other (by omega), getD_set_same (by simp [hl]; omega)]
theorem move_from3 (L : List Int) (i j n : Nat) (hi : i < n) (hj : j < n) (hne : i ≠ j) (hl : L.length = n * 4) : (moveL L i j).getD (i * 4 + 3) 0 = 0 := by
  unfold moveL
  rw [getD_set_same (by simp [hl]; omega)]
theorem move_to3 (L : List Int) (i j n : Nat) (hi : i < n) (hj : j < n) (hne : i ≠ j) (hl : L.length = n * 4) : (moveL L i j).getD (j * 4 + 3) 0 = plus (L.getD (j * 4 + 3) 0) (L.getD (i * 4 + 3) 0) := by
  unfold moveL
  rw [getD_set_other (by omega), getD_set_other (by omega), getD_set_other (by omega), getD_set_other (by omega), getD_set_same (by simp [hl]; omega)]

theorem two_sum (a0 a1 a2 a3 b0 b1 b2 b3 : Int) : sumTo [a0, a1, a2, a3, b0, b1, b2, b3] 0 2 = plus b0 a0 ∧ sumTo [a0, a1, a2, a3, b0, b1, b2, b3] 1 2 = plus b1 a1 ∧ sumTo [a0, a1, a2, a3, b0, b1, b2, b3] 2 2 = plus b2 a2 ∧ sumTo [a0, a1, a2, a3, b0, b1, b2, b3] 3 2 = plus b3 a3 := by
  refine ⟨?_, ?_, ?_, ?_⟩ <;> (rw [sumTo_is, plus_mod]; simp only [sumI, List.getD_cons_zero, List.getD_cons_succ, Nat.zero_mul, Nat.one_mul, Nat.zero_add, Nat.reduceAdd]; congr 1; omega)

end Go.Proofs.Ytdklcflclpmcbaa
