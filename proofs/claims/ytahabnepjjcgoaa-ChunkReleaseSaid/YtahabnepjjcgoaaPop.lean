/- The ones of a number of 64 bits, as they are counted; no program in sight. -/
import Derived.Test.YtahabnepjjcgoaaBitsP
namespace Go.Proofs.Ytahabnepjjcgoaa
open Go.RowKit
set_option linter.unusedVariables false

/-! ### bytes -/
def num : List Nat → Nat
  | [] => 0
  | b :: r => b + 256 * num r
def rep (m : Nat) : Nat → Nat
  | 0 => 0
  | n + 1 => m + 256 * rep m n

theorem and_split (b m y M : Nat) (hb : b < 256) (hm : m < 256) : (b + 256 * y) &&& (m + 256 * M) = (b &&& m) + 256 * (y &&& M) := by
  have hbm : b &&& m < 2 ^ 8 := Nat.and_lt_two_pow _ hm
  refine Nat.eq_of_testBit_eq fun j => ?_
  rw [Nat.testBit_and, Nat.add_comm b, Nat.add_comm m, Nat.add_comm (b &&& m), show (256 : Nat) = 2 ^ 8 from rfl, Nat.testBit_two_pow_mul_add _ hb, Nat.testBit_two_pow_mul_add _ hm, Nat.testBit_two_pow_mul_add _ hbm]
  by_cases h : j < 8
  · rw [if_pos h, if_pos h, if_pos h, Nat.testBit_and]
  · rw [if_neg h, if_neg h, if_neg h, Nat.testBit_and]

def sA (b : Nat) : Nat := (b / 2 &&& 0x55) + (b &&& 0x55)
def sB (c : Nat) : Nat := (c / 4 &&& 0x33) + (c &&& 0x33)
def sC (c : Nat) : Nat := c / 16 + c &&& 0x0F

theorem dec_A : ∀ b < 256, ∀ t < 2, (b / 2 + 128 * t &&& 0x55) = (b / 2 &&& 0x55) := by decide +kernel
theorem dec_A2 : ∀ b < 256, sA b < 256 := by decide +kernel
theorem dec_B : ∀ b < 256, ∀ t < 4, (b / 4 + 64 * t &&& 0x33) = (b / 4 &&& 0x33) := by decide +kernel
theorem dec_B2 : ∀ b < 256, sB (sA b) < 69 ∧ sB (sA b) % 16 ≤ 4 := by decide +kernel
theorem dec_C : ∀ c < 69, ∀ t < 5, (c / 16 + 16 * t + c &&& 0x0F) = sC c := by decide +kernel
theorem dec_P : ∀ b < 256, sC (sB (sA b)) = popL b 8 := by decide +kernel
theorem dec_P8 : ∀ b < 256, popL b 8 ≤ 8 := by decide +kernel

theorem step_A : ∀ (l : List Nat), (∀ b ∈ l, b < 256) → (num l / 2 &&& rep 0x55 l.length) + (num l &&& rep 0x55 l.length) = num (l.map sA)
  | [], _ => rfl
  | b :: r, h => by
    have hb := h b List.mem_cons_self
    have ih := step_A r fun x hx => h x (List.mem_cons_of_mem _ hx)
    show ((b + 256 * num r) / 2 &&& (0x55 + 256 * rep 0x55 r.length)) + ((b + 256 * num r) &&& (0x55 + 256 * rep 0x55 r.length)) = sA b + 256 * num (r.map sA)
    rw [← ih, show (b + 256 * num r) / 2 = (b / 2 + 128 * (num r % 2)) + 256 * (num r / 2) by omega, and_split _ _ _ _ (by omega) (by omega), and_split _ _ _ _ hb (by omega), dec_A b hb _ (by omega)]
    unfold sA; omega
theorem step_B : ∀ (l : List Nat), (∀ b ∈ l, b < 256) → (num l / 4 &&& rep 0x33 l.length) + (num l &&& rep 0x33 l.length) = num (l.map sB)
  | [], _ => rfl
  | b :: r, h => by
    have hb := h b List.mem_cons_self
    have ih := step_B r fun x hx => h x (List.mem_cons_of_mem _ hx)
    show ((b + 256 * num r) / 4 &&& (0x33 + 256 * rep 0x33 r.length)) + ((b + 256 * num r) &&& (0x33 + 256 * rep 0x33 r.length)) = sB b + 256 * num (r.map sB)
    rw [← ih, show (b + 256 * num r) / 4 = (b / 4 + 64 * (num r % 4)) + 256 * (num r / 4) by omega, and_split _ _ _ _ (by omega) (by omega), and_split _ _ _ _ hb (by omega), dec_B b hb _ (by omega)]
    unfold sB; omega
theorem num_low : ∀ (l : List Nat), (∀ b ∈ l, b < 69 ∧ b % 16 ≤ 4) → num l % 16 ≤ 4
  | [], _ => by decide
  | b :: r, h => by
    have := (h b List.mem_cons_self).2
    show (b + 256 * num r) % 16 ≤ 4
    omega
theorem step_C : ∀ (l : List Nat), (∀ b ∈ l, b < 69 ∧ b % 16 ≤ 4) → (num l / 16 + num l &&& rep 0x0F l.length) = num (l.map sC)
  | [], _ => rfl
  | b :: r, h => by
    have hb := h b List.mem_cons_self
    have hr := num_low r fun x hx => h x (List.mem_cons_of_mem _ hx)
    have ih := step_C r fun x hx => h x (List.mem_cons_of_mem _ hx)
    show ((b + 256 * num r) / 16 + (b + 256 * num r) &&& (0x0F + 256 * rep 0x0F r.length)) = sC b + 256 * num (r.map sC)
    rw [← ih, show (b + 256 * num r) / 16 + (b + 256 * num r) = (b / 16 + 16 * (num r % 16) + b) + 256 * (num r / 16 + num r) by omega, and_split _ _ _ _ (by omega) (by omega), dec_C b hb.1 _ (by omega)]

theorem popL_split (y n : Nat) : ∀ (i b : Nat), b < 2 ^ i → popL (b + 2 ^ i * y) (i + n) = popL b i + popL y n
  | 0, b, h => by
    have : b = 0 := by simpa using h
    subst this
    simp [popL]
  | i + 1, b, h => by
    have e : b + 2 ^ (i + 1) * y = b + 2 * (2 ^ i * y) := by rw [Nat.pow_succ, Nat.mul_comm (2 ^ i) 2, Nat.mul_assoc]
    have ih := popL_split y n i (b / 2) (by rw [Nat.pow_succ] at h; omega)
    rw [e, show i + 1 + n = (i + n) + 1 by omega]
    generalize 2 ^ i * y = z at *
    show (b + 2 * z) % 2 + popL ((b + 2 * z) / 2) (i + n) = b % 2 + popL (b / 2) i + popL y n
    rw [show (b + 2 * z) / 2 = b / 2 + z by omega, ih]
    omega
theorem popL_byte (b y n : Nat) (hb : b < 256) : popL (b + 256 * y) (n + 8) = popL b 8 + popL y n := by
  have := popL_split y n 8 b hb
  rwa [Nat.add_comm 8 n] at this
theorem popL_num : ∀ (l : List Nat), (∀ b ∈ l, b < 256) → popL (num l) (8 * l.length) = (l.map fun b => popL b 8).sum
  | [], _ => rfl
  | b :: r, h => by
    have ih := popL_num r fun x hx => h x (List.mem_cons_of_mem _ hx)
    show popL (b + 256 * num r) (8 * r.length + 8) = _
    rw [popL_byte b _ _ (h b List.mem_cons_self), ih, List.map_cons, List.sum_cons]

def toL : Nat → Nat → List Nat
  | 0, _ => []
  | n + 1, x => x % 256 :: toL n (x / 256)
theorem num_toL : ∀ (n x : Nat), x < 256 ^ n → num (toL n x) = x
  | 0, x, h => by
    have : x = 0 := by simpa using h
    rw [this]; rfl
  | n + 1, x, h => by
    have ih := num_toL n (x / 256) (Nat.div_lt_of_lt_mul (by rw [Nat.mul_comm, ← Nat.pow_succ]; exact h))
    show x % 256 + 256 * num (toL n (x / 256)) = x
    rw [ih]; omega
theorem toL_lt : ∀ (n x : Nat), ∀ b ∈ toL n x, b < 256
  | 0, _, _, h => by cases h
  | n + 1, x, b, h => by
    rcases List.mem_cons.1 h with h | h
    · rw [h]; exact Nat.mod_lt _ (by omega)
    · exact toL_lt n _ b h

/-- a number of 64 bits as eight bytes. -/
theorem bytes8 (x : Nat) (h : x < 2 ^ 64) : ∃ b0 b1 b2 b3 b4 b5 b6 b7, x = num [b0, b1, b2, b3, b4, b5, b6, b7] ∧ ∀ b ∈ [b0, b1, b2, b3, b4, b5, b6, b7], b < 256 :=
  ⟨_, _, _, _, _, _, _, _, (num_toL 8 x h).symm, toL_lt 8 x⟩

theorem num_ltK (K : Nat) (hK : K ≤ 256) : ∀ (l : List Nat), l ≠ [] → (∀ b ∈ l, b < K) → num l < K * 256 ^ (l.length - 1)
  | [], h, _ => absurd rfl h
  | [b], _, h => by
    have := h b List.mem_cons_self
    show b + 256 * 0 < K * 1
    omega
  | b :: c :: r, _, h => by
    have hb := h b List.mem_cons_self
    have ih := num_ltK K hK (c :: r) (by simp) fun x hx => h x (List.mem_cons_of_mem _ hx)
    show b + 256 * num (c :: r) < K * 256 ^ (r.length + 1)
    have ih' : num (c :: r) < K * 256 ^ r.length := ih
    rw [Nat.pow_succ, ← Nat.mul_assoc]
    generalize K * 256 ^ r.length = q at *
    omega

theorem num_div {b : Nat} {r : List Nat} (h : b < 256) : num (b :: r) / 256 = num r := by
  show (b + 256 * num r) / 256 = num r
  omega

theorem fold8 (p0 p1 p2 p3 p4 p5 p6 p7 : Nat) (h : p0 ≤ 8 ∧ p1 ≤ 8 ∧ p2 ≤ 8 ∧ p3 ≤ 8 ∧ p4 ≤ 8 ∧ p5 ≤ 8 ∧ p6 ≤ 8 ∧ p7 ≤ 8) {c : Nat} (hc : c = num [p0, p1, p2, p3, p4, p5, p6, p7]) :
    (c + c / 256 + (c + c / 256) / 65536 + (c + c / 256 + (c + c / 256) / 65536) / 4294967296) % 128 = p0 + (p1 + (p2 + (p3 + (p4 + (p5 + (p6 + (p7 + 0))))))) := by
  have h1 : c / 256 = num [p1, p2, p3, p4, p5, p6, p7] := by rw [hc]; exact num_div (by omega)
  have h2 : c + c / 256 = num [p0 + p1, p1 + p2, p2 + p3, p3 + p4, p4 + p5, p5 + p6, p6 + p7, p7] := by
    rw [h1, hc]; simp only [num]; omega
  clear h1 hc
  generalize c + c / 256 = d at *
  have h3 : d / 65536 = num [p2 + p3, p3 + p4, p4 + p5, p5 + p6, p6 + p7, p7] := by
    rw [h2, show (65536 : Nat) = 256 * 256 from rfl, ← Nat.div_div_eq_div_mul, num_div (by omega), num_div (by omega)]
  have h4 : d + d / 65536 = num [p0 + p1 + (p2 + p3), p1 + p2 + (p3 + p4), p2 + p3 + (p4 + p5), p3 + p4 + (p5 + p6), p4 + p5 + (p6 + p7), p5 + p6 + p7, p6 + p7, p7] := by
    rw [h3, h2]; simp only [num]; omega
  clear h3 h2
  generalize d + d / 65536 = e at *
  have h5 : e / 4294967296 = num [p4 + p5 + (p6 + p7), p5 + p6 + p7, p6 + p7, p7] := by
    rw [h4, show (4294967296 : Nat) = 256 * 256 * 256 * 256 from rfl, ← Nat.div_div_eq_div_mul, ← Nat.div_div_eq_div_mul, ← Nat.div_div_eq_div_mul, num_div (by omega), num_div (by omega), num_div (by omega), num_div (by omega)]
  rw [h5, h4]
  have e1 : ∀ (b : Nat) (r : List Nat), num (b :: r) = b + 256 * num r := fun _ _ => rfl
  rw [e1, e1 (p4 + p5 + (p6 + p7))]
  generalize num [p1 + p2 + (p3 + p4), p2 + p3 + (p4 + p5), p3 + p4 + (p5 + p6), p4 + p5 + (p6 + p7), p5 + p6 + p7, p6 + p7, p7] = Y
  generalize num [p5 + p6 + p7, p6 + p7, p7] = Z
  omega

/-- the ones of a number of 64 bits, as they are counted. -/
theorem pop64 (x : Nat) (h : x < 2 ^ 64) : ∃ a b c : Nat, (x / 2 &&& 6148914691236517205) + (x &&& 6148914691236517205) = a ∧ (a / 4 &&& 3689348814741910323) + (a &&& 3689348814741910323) = b ∧
    (b / 16 + b &&& 1085102592571150095) = c ∧ a < 2 ^ 64 ∧ b < 2 ^ 63 ∧ b / 16 + b < 2 ^ 64 ∧ c < 2 ^ 60 ∧ (c + c / 256 + (c + c / 256) / 65536 + (c + c / 256 + (c + c / 256) / 65536) / 4294967296) % 128 = popL x 64 := by
  obtain ⟨b0, b1, b2, b3, b4, b5, b6, b7, hx, hb⟩ := bytes8 x h
  subst hx
  have hA := step_A _ hb
  have hb2 : ∀ b ∈ [b0, b1, b2, b3, b4, b5, b6, b7].map sA, b < 256 := by
    intro b hbm
    obtain ⟨c, hc, rfl⟩ := List.mem_map.1 hbm
    exact dec_A2 c (hb c hc)
  have hB := step_B _ hb2
  have hb3 : ∀ b ∈ ([b0, b1, b2, b3, b4, b5, b6, b7].map sA).map sB, b < 69 ∧ b % 16 ≤ 4 := by
    intro b hbm
    obtain ⟨c, hc, rfl⟩ := List.mem_map.1 hbm
    obtain ⟨d, hd, rfl⟩ := List.mem_map.1 hc
    exact dec_B2 d (hb d hd)
  have hC := step_C _ hb3
  have hP := popL_num _ hb
  have l8 : [b0, b1, b2, b3, b4, b5, b6, b7].length = 8 := rfl
  rw [List.length_map, l8] at hB
  rw [List.length_map, List.length_map, l8] at hC
  rw [l8] at hA hP
  rw [show rep 0x55 8 = 6148914691236517205 by decide] at hA
  rw [show rep 0x33 8 = 3689348814741910323 by decide] at hB
  rw [show rep 0x0F 8 = 1085102592571150095 by decide] at hC
  have k1 := num_ltK 256 (by omega) _ (by simp) hb2
  have k2 := num_ltK 69 (by omega) _ (by simp) (fun b h => (hb3 b h).1)
  have hb4 : ∀ b ∈ (([b0, b1, b2, b3, b4, b5, b6, b7].map sA).map sB).map sC, b < 9 := by
    intro b hbm
    obtain ⟨c, hc, rfl⟩ := List.mem_map.1 hbm
    obtain ⟨d, hd, rfl⟩ := List.mem_map.1 hc
    obtain ⟨e, he, rfl⟩ := List.mem_map.1 hd
    rw [dec_P e (hb e he)]
    have := dec_P8 e (hb e he)
    omega
  have k3 := num_ltK 9 (by omega) _ (by simp) hb4
  simp only [List.length_map, l8] at k1 k2 k3
  refine ⟨_, _, _, hA, hB, hC, by omega, by omega, by omega, by omega, ?_⟩
  clear k1 k2 k3 hb4
  · have hq : ∀ b ∈ [b0, b1, b2, b3, b4, b5, b6, b7], sC (sB (sA b)) ≤ 8 := fun b hbm => by rw [dec_P b (hb b hbm)]; exact dec_P8 b (hb b hbm)
    have he : ∀ b ∈ [b0, b1, b2, b3, b4, b5, b6, b7], popL b 8 = sC (sB (sA b)) := fun b hbm => (dec_P b (hb b hbm)).symm
    rw [show (64 : Nat) = 8 * 8 from rfl, hP]
    simp only [List.map_cons, List.map_nil, num, List.mem_cons, List.not_mem_nil, or_false, forall_eq_or_imp, forall_eq, List.sum_cons, List.sum_nil] at hq he ⊢
    rw [he.1, he.2.1, he.2.2.1, he.2.2.2.1, he.2.2.2.2.1, he.2.2.2.2.2.1, he.2.2.2.2.2.2.1, he.2.2.2.2.2.2.2]
    generalize sC (sB (sA b0)) = p0 at *
    generalize sC (sB (sA b1)) = p1 at *
    generalize sC (sB (sA b2)) = p2 at *
    generalize sC (sB (sA b3)) = p3 at *
    generalize sC (sB (sA b4)) = p4 at *
    generalize sC (sB (sA b5)) = p5 at *
    generalize sC (sB (sA b6)) = p6 at *
    generalize sC (sB (sA b7)) = p7 at *
    exact fold8 p0 p1 p2 p3 p4 p5 p6 p7 (by omega) rfl

end Go.Proofs.Ytahabnepjjcgoaa
