/- Merging pairs of rows first. No program's step in sight. -/
import Derived.Test.YtbfnadfbanhgcaaOther
namespace Go.Proofs.Ytbfnadfbanhgcaa
open Go.RowKit
set_option linter.unusedVariables false

def maxI (a b : Int) : Int := if a < b then b else a

def pairSm (p : Int) (x y : Sm) : Sm := mergeStep p (mergeStep p ⟨0, 0, 0⟩ 0 x) 1 y

theorem step_parts (p i : Int) (o x : Sm) : mergeStep p o i x = ⟨if o.s = i * p then o.s + x.s else o.s, maxI (maxI o.m x.m) (o.e + x.s), if x.s = p then o.e + p else x.e⟩ := rfl

theorem maxI_spec (a b : Int) : (a < b ∧ maxI a b = b) ∨ (b ≤ a ∧ maxI a b = a) := by
  unfold maxI
  split
  · exact .inl ⟨by omega, rfl⟩
  · exact .inr ⟨by omega, rfl⟩

theorem pair_parts {p : Int} (x y : Sm) : pairSm p x y = ⟨if x.s = p then x.s + y.s else x.s, maxI (maxI (maxI (maxI 0 x.m) x.s) y.m) ((if x.s = p then p else x.e) + y.s), if y.s = p then (if x.s = p then p else x.e) + p else y.e⟩ := by
  unfold pairSm
  rw [step_parts, step_parts]
  simp only [Int.zero_mul, Int.one_mul, if_true, Int.zero_add]

theorem pair_right {p : Int} (p1 : 1 ≤ p) {x y : Sm} (hx : rightB x.s x.m x.e p = true) (hy : rightB y.s y.m y.e p = true) : rightB (pairSm p x y).s (pairSm p x y).m (pairSm p x y).e (2 * p) = true := by
  have hx := right_parts hx
  have hy := right_parts hy
  refine decide_eq_true ?_
  rw [pair_parts]
  obtain ⟨xs, xm, xe⟩ := x
  obtain ⟨ys, ym, ye⟩ := y
  dsimp only at *
  by_cases c1 : xs = p
  · rw [if_pos c1, if_pos c1]
    have m1 := maxI_spec 0 xm
    generalize maxI 0 xm = a at *
    have m2 := maxI_spec a xs
    generalize maxI a xs = b at *
    have m3 := maxI_spec b ym
    generalize maxI b ym = c at *
    have m4 := maxI_spec c (p + ys)
    generalize maxI c (p + ys) = d at *
    by_cases c2 : ys = p
    · rw [if_pos c2]; left; omega
    · rw [if_neg c2]; right; omega
  · rw [if_neg c1, if_neg c1]
    have m1 := maxI_spec 0 xm
    generalize maxI 0 xm = a at *
    have m2 := maxI_spec a xs
    generalize maxI a xs = b at *
    have m3 := maxI_spec b ym
    generalize maxI b ym = c at *
    have m4 := maxI_spec c (xe + ys)
    generalize maxI c (xe + ys) = d at *
    by_cases c2 : ys = p
    · rw [if_pos c2]; right; omega
    · rw [if_neg c2]; right; omega

set_option maxHeartbeats 1000000 in
theorem pair_step {p : Int} (p1 : 1 ≤ p) {o x y : Sm} (hx : rightB x.s x.m x.e p = true) (hy : rightB y.s y.m y.e p = true) (i : Int) (h : 0 ≤ o.s ∧ o.s ≤ 2 * i * p) (hm : 0 ≤ o.m) (he : 0 ≤ o.e) :
    mergeStep (2 * p) o i (pairSm p x y) = mergeStep p (mergeStep p o (2 * i) x) (2 * i + 1) y := by
  have hx := right_parts hx
  have hy := right_parts hy
  have e1 : i * (2 * p) = 2 * (i * p) := by rw [Int.mul_left_comm]
  have e2 : 2 * i * p = 2 * (i * p) := by rw [Int.mul_assoc]
  have e3 : (2 * i + 1) * p = 2 * (i * p) + p := by rw [Int.add_mul, e2]; simp
  rw [step_parts, step_parts, step_parts, pair_parts]
  dsimp only
  rw [e1, e2, e3]
  rw [e2] at h
  obtain ⟨xs, xm, xe⟩ := x
  obtain ⟨ys, ym, ye⟩ := y
  obtain ⟨os, om, oe⟩ := o
  dsimp only at *
  generalize i * p = z at *
  have gm : maxI (maxI om (maxI (maxI (maxI (maxI 0 xm) xs) ym) ((if xs = p then p else xe) + ys))) (oe + if xs = p then xs + ys else xs) = maxI (maxI (maxI (maxI om xm) (oe + xs)) ym) ((if xs = p then oe + p else xe) + ys) := by
    have m1 := maxI_spec 0 xm
    generalize maxI 0 xm = a at *
    have m2 := maxI_spec a xs
    generalize maxI a xs = b at *
    have m3 := maxI_spec b ym
    generalize maxI b ym = c at *
    have m4 := maxI_spec c ((if xs = p then p else xe) + ys)
    generalize maxI c ((if xs = p then p else xe) + ys) = d at *
    have m5 := maxI_spec om d
    generalize maxI om d = e at *
    have m6 := maxI_spec om xm
    generalize maxI om xm = f at *
    have m7 := maxI_spec f (oe + xs)
    generalize maxI f (oe + xs) = g at *
    have m8 := maxI_spec g ym
    generalize maxI g ym = k at *
    by_cases c1 : xs = p
    · rw [if_pos c1] at m4
      rw [if_pos c1, if_pos c1]
      have m9 := maxI_spec e (oe + (xs + ys))
      have m10 := maxI_spec k (oe + p + ys)
      omega
    · rw [if_neg c1] at m4
      rw [if_neg c1, if_neg c1]
      have m9 := maxI_spec e (oe + xs)
      have m10 := maxI_spec k (xe + ys)
      omega
  rw [gm]
  congr 1
  · by_cases c1 : xs = p
    · rw [if_pos c1]
      by_cases c2 : os = 2 * z
      · simp only [if_pos c2]; rw [if_pos (by omega)]; omega
      · simp only [if_neg c2]; rw [if_neg (by omega)]
    · rw [if_neg c1]
      by_cases c2 : os = 2 * z
      · simp only [if_pos c2]; rw [if_neg (by omega)]
      · simp only [if_neg c2]; rw [if_neg (by omega)]
  · by_cases c1 : xs = p
    · simp only [if_pos c1]
      by_cases c2 : ys = p
      · simp only [if_pos c2]; rw [if_pos (by omega)]; omega
      · simp only [if_neg c2]; rw [if_neg (by omega)]
    · simp only [if_neg c1]; rw [if_neg (by omega)]

end Go.Proofs.Ytbfnadfbanhgcaa
