/- Classes of any page and greatest size: what they waste. No program in sight. -/
import Derived.Test.YtiocfifgfjkgfaaClass
namespace Go.Proofs.Ytiocfifgfjkgfaa
open Go.RowKit
set_option linter.unusedVariables false

/-- one class behind another. -/
def okW (p m : Int) (y c : Cl) : Bool :=
  decide (y.a ≤ c.a) && !(c.a == y.a && p == 8192 && m == 32768) && c.a % 8 == 0 && decide (1 ≤ c.b) && decide (c.b ≤ 33) && decide (1 ≤ c.c) && decide (1 ≤ c.a) && decide (c.c * c.a ≤ c.b * p) && decide (c.b * p - c.c * c.a < c.a) && decide (c.b * p - c.c * c.a ≤ c.b * p / 8)

def chainW (p m : Int) : Cl → List Cl → Bool
  | y, [] => decide (m ≤ y.a)
  | y, c :: r => okW p m y c && chainW p m c r

def wasteL (p m : Int) : List Cl → Bool
  | z :: x :: r => z == zeroC && x.a == 8 && decide (r.length ≤ 2000) && chainW p m z (x :: r)
  | _ => false

theorem waste_all : ∀ i, i < 7 → ∀ j, j < 13 → j ≤ i + 6 → wasteL (2 ^ (i + 10)) (2 ^ (j + 6)) (makeL (2 ^ (i + 10)) (2 ^ (j + 6))) = true := by decide +kernel

theorem pow_in {p : Int} (h : powB p = true) (h0 : 0 ≤ p) : ∃ k : Nat, p = 2 ^ k := by
  unfold powB at h
  obtain ⟨k, hk⟩ := isPow_is _ h
  exact ⟨k, by have : p = ((p.toNat : Nat) : Int) := by omega
               rw [this, hk]; simp⟩

theorem pow_lt {i j : Nat} (h : (2 : Int) ^ i ≤ 2 ^ j) : i ≤ j := by
  have h' : (2 : Nat) ^ i ≤ 2 ^ j := by exact_mod_cast h
  exact (Nat.pow_le_pow_iff_right (by omega)).1 h'

theorem waste_of {p m : Int} (h : makeOk p m = true) : wasteL p m (makeL p m) = true := by
  unfold makeOk at h
  simp only [Bool.and_eq_true, decide_eq_true_eq] at h
  obtain ⟨⟨⟨⟨p1, p2⟩, hp⟩, m1, m2⟩, hm⟩ := h
  obtain ⟨k, rfl⟩ := pow_in hp (by omega)
  obtain ⟨l, rfl⟩ := pow_in hm (by omega)
  have a1 : 10 ≤ k := pow_lt (i := 10) (j := k) (by simpa using p1)
  have a2 : k ≤ 16 := pow_lt (i := k) (j := 16) (by simpa using p2)
  have b1 : 6 ≤ l := pow_lt (i := 6) (j := l) (by simpa using m1)
  have b2 : l ≤ k + 2 := pow_lt (i := l) (j := k + 2) (by rw [Int.pow_succ, Int.pow_succ]; omega)
  have := waste_all (k - 10) (by omega) (l - 6) (by omega) (by omega)
  rwa [show k - 10 + 10 = k by omega, show l - 6 + 6 = l by omega] at this

/-- what is known of class number i. -/
structure WasteAt (p m : Int) (y c : Cl) : Prop where
  rise : y.a ≤ c.a
  table : ¬ (c.a = y.a ∧ p = 8192 ∧ m = 32768)
  eight : c.a % 8 = 0
  b1 : 1 ≤ c.b
  b2 : c.b ≤ 33
  c1 : 1 ≤ c.c
  a1 : 1 ≤ c.a
  fits : c.c * c.a ≤ c.b * p
  less : c.b * p - c.c * c.a < c.a
  part : c.b * p - c.c * c.a ≤ c.b * p / 8

theorem okW_of {p m : Int} {y c : Cl} (h : okW p m y c = true) : WasteAt p m y c := by
  unfold okW at h
  simp only [Bool.and_eq_true, decide_eq_true_eq, Bool.not_eq_true', beq_iff_eq, Bool.and_eq_false_imp] at h
  obtain ⟨⟨⟨⟨⟨⟨⟨⟨⟨h1, h2⟩, h3⟩, h4⟩, h5⟩, h6⟩, h7⟩, h8⟩, h9⟩, h10⟩ := h
  exact ⟨h1, fun ⟨e1, e2, e3⟩ => by have := h2 ⟨e1, e2⟩; simp [e3] at this, h3, h4, h5, h6, h7, h8, h9, h10⟩

theorem chain_at {p m : Int} : ∀ (r : List Cl) (y : Cl), chainW p m y r = true → ∀ i, (h : i < r.length) → WasteAt p m ((y :: r)[i]'(by simp; omega)) r[i]
  | [], _, _, i, h => absurd h (by simp)
  | c :: r, y, hc, 0, _ => by
    have hc : (okW p m y c && chainW p m c r) = true := hc
    rw [Bool.and_eq_true] at hc
    exact okW_of hc.1
  | c :: r, y, hc, i + 1, h => by
    have hc : (okW p m y c && chainW p m c r) = true := hc
    rw [Bool.and_eq_true] at hc
    exact chain_at r c hc.2 i (by simpa using h)

theorem chain_last {p m : Int} : ∀ (r : List Cl) (y : Cl), chainW p m y r = true → m ≤ ((y :: r)[r.length]'(by simp)).a
  | [], y, h => by
    have : decide (m ≤ y.a) = true := h
    exact of_decide_eq_true this
  | c :: r, y, h => by
    have h : (okW p m y c && chainW p m c r) = true := h
    rw [Bool.and_eq_true] at h
    exact chain_last r c h.2

structure Waste (p m : Int) (l : List Cl) : Prop where
  two : 2 ≤ l.length
  len : l.length ≤ 2002
  zero : l.getD 0 zeroC = zeroC
  one : (l.getD 1 zeroC).a = 8
  last : m ≤ (l.getD (l.length - 1) zeroC).a
  each : ∀ i, i + 1 < l.length → WasteAt p m (l.getD i zeroC) (l.getD (i + 1) zeroC)

theorem wasteL_of {p m : Int} {l : List Cl} (h : wasteL p m l = true) : Waste p m l := by
  match l, h with
  | z :: x :: r, h =>
    have h : (z == zeroC && x.a == 8 && decide (r.length ≤ 2000) && chainW p m z (x :: r)) = true := h
    simp only [Bool.and_eq_true, beq_iff_eq, decide_eq_true_eq] at h
    obtain ⟨⟨⟨h1, h2⟩, h0⟩, h3⟩ := h
    refine ⟨by simp, by simpa using h0, by simp [h1], by simpa using h2, ?_, fun i hi => ?_⟩
    · have := chain_last (x :: r) z h3
      simpa [List.getD] using this
    · have h4 : i < (x :: r).length := by simp at hi ⊢; omega
      have := chain_at (x :: r) z h3 i h4
      have e1 : (z :: x :: r).getD i zeroC = (z :: x :: r)[i]'(by simp at hi ⊢; omega) := by rw [List.getD, List.getElem?_eq_getElem (by simp at hi ⊢; omega)]; rfl
      have e2 : (z :: x :: r).getD (i + 1) zeroC = (x :: r)[i] := by rw [List.getD, List.getElem?_cons_succ, List.getElem?_eq_getElem h4]; rfl
      rw [e1, e2]; exact this

end Go.Proofs.Ytiocfifgfjkgfaa
