/- Rows of bits one behind the other, and their summaries; no program in sight. -/
import Derived.Test.YtbfnadfbanhgcaaSumsP
import Derived.Test.YtbfnadfbanhgcaaAwake
namespace Go.Proofs.Ytbfnadfbanhgcaa
open Go.RowKit
set_option linter.unusedVariables false

theorem endS_h (f : Nat → Bool) (k : Nat) (h : f k = true) : endS f (k + 1) = 0 := by show (if f k = true then 0 else _) = 0; rw [if_pos h]
theorem endS_o (f : Nat → Bool) (k : Nat) (h : f k = false) : endS f (k + 1) = endS f k + 1 := by show (if f k = true then 0 else _) = _; rw [if_neg (by rw [h]; decide)]
theorem maxS_h (f : Nat → Bool) (k : Nat) (h : f k = true) : maxS f (k + 1) = maxS f k := by show (if f k = true then _ else _) = _; rw [if_pos h]
theorem maxS_o (f : Nat → Bool) (k : Nat) (h : f k = false) : maxS f (k + 1) = max (maxS f k) (endS f k + 1) := by
  show (if f k = true then _ else if maxS f k < endS f k + 1 then _ else _) = _
  rw [if_neg (by rw [h]; decide)]
  split <;> omega
theorem startS_h (f : Nat → Bool) (k : Nat) (h : f k = true) : startS f (k + 1) = startS f k := by show (if f k = true then _ else _) = _; rw [if_pos h]
theorem startS_o (f : Nat → Bool) (k : Nat) (h : f k = false) : startS f (k + 1) = if endS f k = k then k + 1 else startS f k := by
  show (if f k = true then _ else if endS f k = k then _ else _) = _; rw [if_neg (by rw [h]; decide)]

/-- the bits from a place on. -/
def from_ (F : Nat → Bool) (a : Nat) : Nat → Bool := fun i => F (a + i)
theorem start_full (f : Nat → Bool) (k : Nat) : startS f k = k ↔ endS f k = k := by
  obtain ⟨s1, s2⟩ := startS_spec f k
  obtain ⟨e1, e2⟩ := endS_spec f k
  have hs := startS_le f k
  have he := endS_le f k
  constructor
  · intro h
    by_cases h0 : endS f k = k
    · exact h0
    · have hh := e2.resolve_left h0
      rw [s1 _ (by omega)] at hh; cases hh
  · intro h
    refine s2.resolve_right fun ⟨h1, h2⟩ => ?_
    rw [e1 _ (by omega) h1] at h2
    cases h2
theorem endS_add (F : Nat → Bool) (a : Nat) : ∀ j, endS F (a + j) = if endS (from_ F a) j = j then endS F a + j else endS (from_ F a) j
  | 0 => by simp [endS]
  | j + 1 => by
    have ih := endS_add F a j
    have hl := endS_le (from_ F a) j
    cases h : F (a + j)
    · have h' : from_ F a j = false := h
      rw [show a + (j + 1) = a + j + 1 from rfl, endS_o F _ h, endS_o _ _ h', ih]
      by_cases e : endS (from_ F a) j = j
      · rw [if_pos e, if_pos (by omega)]; omega
      · rw [if_neg e, if_neg (by omega)]
    · have h' : from_ F a j = true := h
      rw [show a + (j + 1) = a + j + 1 from rfl, endS_h F _ h, endS_h _ _ h', if_neg (by omega)]
theorem startS_add (F : Nat → Bool) (a : Nat) : ∀ j, startS F (a + j) = if startS F a = a then a + startS (from_ F a) j else startS F a
  | 0 => by
    show startS F a = if startS F a = a then a + 0 else startS F a
    split <;> omega
  | j + 1 => by
    have ih := startS_add F a j
    have hl := startS_le (from_ F a) j
    have hl2 := endS_le (from_ F a) j
    have hla := endS_le F a
    have ea := endS_add F a j
    have hsf := start_full F a
    cases h : F (a + j)
    · have h' : from_ F a j = false := h
      rw [show a + (j + 1) = a + j + 1 from rfl, startS_o F _ h, startS_o _ _ h', ih, ea]
      by_cases e : startS F a = a
      · have e2 := hsf.1 e
        rw [if_pos e, if_pos e]
        by_cases e3 : endS (from_ F a) j = j
        · rw [if_pos e3, if_pos (by omega), if_pos e3]; omega
        · rw [if_neg e3, if_neg (by omega), if_neg e3]
      · rw [if_neg e, if_neg e]
        have e2 : endS F a ≠ a := fun x => e (hsf.2 x)
        by_cases e3 : endS (from_ F a) j = j
        · rw [if_pos e3, if_neg (by omega)]
        · rw [if_neg e3]
          by_cases h0 : a = 0
          · subst h0; exact absurd (by simp [startS]) e
          · rw [if_neg (by omega)]
    · have h' : from_ F a j = true := h
      rw [show a + (j + 1) = a + j + 1 from rfl, startS_h F _ h, startS_h _ _ h', ih]
theorem maxS_add (F : Nat → Bool) (a : Nat) : ∀ j, maxS F (a + j) = max (max (maxS F a) (maxS (from_ F a) j)) (if startS (from_ F a) j = 0 then maxS F a else endS F a + startS (from_ F a) j)
  | 0 => by simp [maxS, startS]
  | j + 1 => by
    have ih := maxS_add F a j
    have hl := startS_le (from_ F a) j
    have hl2 := endS_le (from_ F a) j
    have ea := endS_add F a j
    have hsf := start_full (from_ F a) j
    cases h : F (a + j)
    · have h' : from_ F a j = false := h
      rw [show a + (j + 1) = a + j + 1 from rfl, maxS_o F _ h, maxS_o _ _ h', startS_o _ _ h', ih, ea]
      by_cases e : endS (from_ F a) j = j
      · have e2 := hsf.2 e
        rw [if_pos e, if_pos e, if_neg (show ¬ (j + 1 = 0) by omega)]
        by_cases e0 : startS (from_ F a) j = 0
        · rw [if_pos e0]; omega
        · rw [if_neg e0]; omega
      · rw [if_neg e, if_neg e]
        by_cases e0 : startS (from_ F a) j = 0
        · rw [if_pos e0]; omega
        · rw [if_neg e0]; omega
    · have h' : from_ F a j = true := h
      rw [show a + (j + 1) = a + j + 1 from rfl, maxS_h F _ h, maxS_h _ _ h', startS_h _ _ h', ih]

theorem run_max (f : Nat → Bool) (k p n : Nat) (h : p + n ≤ k) (hc : ∀ j, p ≤ j → j < p + n → f j = false) : n ≤ maxS f k := (maxS_spec f k).2 p n h hc
theorem end_max (f : Nat → Bool) (k : Nat) : endS f k ≤ maxS f k := end_le_max f k

/-- the summary of so many bits. -/
def smF (f : Nat → Bool) (k : Nat) : Sm := ⟨(startS f k : Nat), (maxS f k : Nat), (endS f k : Nat)⟩
theorem merge_one (F : Nat → Bool) (i : Nat) : mergeStep 512 (smF F (512 * i)) i (smF (from_ F (512 * i)) 512) = smF F (512 * (i + 1)) := by
  have e1 := endS_add F (512 * i) 512
  have e2 := startS_add F (512 * i) 512
  have e3 := maxS_add F (512 * i) 512
  have hsf := start_full (from_ F (512 * i)) 512
  have he := end_max F (512 * i)
  unfold mergeStep smF
  rw [show 512 * (i + 1) = 512 * i + 512 by omega, e1, e2, e3]
  dsimp only
  congr 1
  · by_cases h : startS F (512 * i) = 512 * i
    · rw [if_pos h, if_pos (by omega)]; omega
    · rw [if_neg h, if_neg (by omega)]
  · by_cases h0 : startS (from_ F (512 * i)) 512 = 0
    · rw [if_pos h0]
      (repeat' split) <;> omega
    · rw [if_neg h0]
      (repeat' split) <;> omega
  · by_cases h : endS (from_ F (512 * i)) 512 = 512
    · rw [if_pos h, if_pos (by have := hsf.2 h; omega)]; omega
    · rw [if_neg h, if_neg (fun hh => h (hsf.1 (by omega)))]
def rowsL (F : Nat → Bool) : List Sm := [smF (from_ F 0) 512, smF (from_ F 512) 512, smF (from_ F 1024) 512]
theorem rows_merge (F : Nat → Bool) : mergeTo 512 (rowsL F) 3 = smF F 1536 := by
  have h0 := merge_one F 0
  have h1 := merge_one F 1
  have h2 := merge_one F 2
  show mergeStep 512 (mergeStep 512 (mergeStep 512 ⟨0, 0, 0⟩ (0 : Nat) _) (1 : Nat) _) (2 : Nat) _ = _
  have z : (⟨0, 0, 0⟩ : Sm) = smF F (512 * 0) := rfl
  rw [z]
  show mergeStep 512 (mergeStep 512 (mergeStep 512 (smF F (512 * 0)) (0 : Nat) (smF (from_ F (512 * 0)) 512)) (1 : Nat) (smF (from_ F (512 * 1)) 512)) (2 : Nat) (smF (from_ F (512 * 2)) 512) = _
  rw [h0, h1, h2]
theorem smF_right (f : Nat → Bool) : rightB (startS f 512 : Nat) (maxS f 512 : Nat) (endS f 512 : Nat) 512 = true := by
  unfold rightB
  refine decide_eq_true ?_
  have hsf := start_full f 512
  have hm := maxS_le f 512
  have hsm := start_le_max f 512
  have hem := end_le_max f 512
  obtain ⟨s1, s2⟩ := startS_spec f 512
  obtain ⟨e1, e2⟩ := endS_spec f 512
  rcases s2 with h | ⟨h, hb⟩
  · left
    have := hsf.1 h
    omega
  · right
    have hlt : startS f 512 + endS f 512 < 512 := by
      refine Nat.lt_of_not_le fun hh => ?_
      rw [e1 _ (by omega) h] at hb
      cases hb
    have hml : maxS f 512 < 512 := by
      refine Nat.lt_of_not_le fun hh => ?_
      obtain ⟨p, hp, hc⟩ := (maxS_spec f 512).1
      rw [hc _ (by omega) (by omega)] at hb
      cases hb
    omega
theorem rows_right (F : Nat → Bool) : rightsB (rowsL F) 512 = true := by
  unfold rightsB rowsL
  simp only [List.all_cons, List.all_nil, Bool.and_true]
  have h := fun f => smF_right f
  unfold smF
  rw [h, h, h]
  rfl

/-! the first place of so many clear bits -/
structure FirstAt (F : Nat → Bool) (n p : Nat) : Prop where
  clear_ : ∀ j, p ≤ j → j < p + n → F j = false
  least : ∀ q, q < p → ∃ j, q ≤ j ∧ j < q + n ∧ F j = true
theorem FirstAt.one {F : Nat → Bool} {n p q : Nat} (h : FirstAt F n p) (h' : FirstAt F n q) : p = q := by
  rcases Nat.lt_trichotomy p q with hlt | e | hlt
  · obtain ⟨j, h1, h2, h3⟩ := h'.least p hlt
    rw [h.clear_ j h1 h2] at h3; cases h3
  · exact e
  · obtain ⟨j, h1, h2, h3⟩ := h.least q hlt
    rw [h'.clear_ j h1 h2] at h3; cases h3
theorem hit_of {F : Nat → Bool} {K n q : Nat} (hm : maxS F K < n) (hq : q + n ≤ K) : ∃ j, q ≤ j ∧ j < q + n ∧ F j = true := by
  refine Classical.byContradiction fun hh => ?_
  have := run_max F K q n hq fun j h1 h2 => by
    cases hf : F j
    · rfl
    · exact absurd ⟨j, h1, h2, hf⟩ hh
  omega
def firstN (F : Nat → Bool) (n : Int) : Nat → Int
  | 0 => -1
  | k + 1 => if F k = true then firstN F n k else if ((endS F k + 1 : Nat) : Int) = n ∧ firstN F n k < 0 then (k : Int) - n + 1 else firstN F n k
theorem firstN_spec (F : Nat → Bool) (n : Nat) (hn : 1 ≤ n) : ∀ K, (firstN F n K = -1 ∧ maxS F K < n) ∨ ∃ p : Nat, firstN F n K = p ∧ p + n ≤ K ∧ FirstAt F n p
  | 0 => .inl ⟨rfl, by show 0 < n; omega⟩
  | K + 1 => by
    have ih := firstN_spec F n hn K
    have he := endS_le F K
    have hem := end_max F K
    obtain ⟨e1, -⟩ := endS_spec F K
    show ((if F K = true then _ else _) = (-1 : Int) ∧ _) ∨ ∃ p : Nat, (if F K = true then _ else _) = (p : Int) ∧ _
    cases hf : F K
    · rw [if_neg (by decide)]
      rcases ih with ⟨i1, i2⟩ | ⟨p, i1, i2, i3⟩
      · by_cases h : endS F K + 1 = n
        · right
          rw [if_pos (by omega)]
          refine ⟨K + 1 - n, by omega, by omega, ⟨fun j h1 h2 => ?_, fun q hq => hit_of i2 (by omega)⟩⟩
          by_cases hj : j = K
          · subst hj; exact hf
          · exact e1 j (by omega) (by omega)
        · left
          rw [if_neg (by omega), maxS_o F K hf]
          exact ⟨i1, by omega⟩
      · right
        rw [if_neg (by omega)]
        exact ⟨p, i1, by omega, i3⟩
    · rw [if_pos rfl]
      rcases ih with ⟨i1, i2⟩ | ⟨p, i1, i2, i3⟩
      · left
        rw [maxS_h F K hf]
        exact ⟨i1, i2⟩
      · exact .inr ⟨p, i1, by omega, i3⟩
theorem clear_end (F : Nat → Bool) (K p : Nat) (hp : p ≤ K) (h : ∀ j, p ≤ j → j < K → F j = false) : K - p ≤ endS F K := by
  obtain ⟨-, e2⟩ := endS_spec F K
  have := endS_le F K
  refine Nat.le_of_not_lt fun hh => ?_
  rcases e2 with e | e
  · omega
  · rw [h _ (by omega) (by omega)] at e; cases e
theorem clear_start (f : Nat → Bool) (K m : Nat) (hm : m ≤ K) (h : ∀ j, j < m → f j = false) : m ≤ startS f K := by
  obtain ⟨-, s2⟩ := startS_spec f K
  refine Nat.le_of_not_lt fun hh => ?_
  rcases s2 with e | ⟨e1, e2⟩
  · omega
  · rw [h _ hh] at e2; cases e2

/-- one row further. -/
theorem fit_one (F : Nat → Bool) (i n : Nat) (hn : 1 ≤ n) (rest : List Sm) (hm : maxS F (512 * i) < n) :
    (∃ p a : Nat, fitsRec 512 n (smF (from_ F (512 * i)) 512 :: rest) i (endS F (512 * i) : Nat) = some (a : Int) ∧ FirstAt F n p ∧ p + n ≤ 512 * (i + 1) ∧ a ≤ p ∧ (a = p ∨ (a % 512 = 0 ∧ p < a + 512))) ∨
    (fitsRec 512 n (smF (from_ F (512 * i)) 512 :: rest) i (endS F (512 * i) : Nat) = fitsRec 512 n rest ((i + 1 : Nat) : Int) (endS F (512 * (i + 1)) : Nat) ∧ maxS F (512 * (i + 1)) < n) := by
  have e1 := endS_add F (512 * i) 512
  have e3 := maxS_add F (512 * i) 512
  have hsf := start_full (from_ F (512 * i)) 512
  have hs := startS_le (from_ F (512 * i)) 512
  have hr := endS_le F (512 * i)
  have hsm := start_le_max (from_ F (512 * i)) 512
  rw [show 512 * i + 512 = 512 * (i + 1) by omega] at e1 e3
  obtain ⟨r1, r2⟩ := endS_spec F (512 * i)
  obtain ⟨s1, -⟩ := startS_spec (from_ F (512 * i)) 512
  by_cases hA : 0 < endS F (512 * i) ∧ n ≤ endS F (512 * i) + startS (from_ F (512 * i)) 512
  · left
    rw [fits_hit (by show (0 : Int) < _ ∧ _ ≤ ((startS (from_ F (512 * i)) 512 : Nat) : Int); omega)]
    refine ⟨512 * i - endS F (512 * i), 512 * i - endS F (512 * i), by congr 1; omega, ⟨fun j h1 h2 => ?_, fun q hq => ?_⟩, by omega, Nat.le_refl _, .inl rfl⟩
    · by_cases hj : j < 512 * i
      · exact r1 j h1 hj
      · have := s1 (j - 512 * i) (by omega)
        unfold from_ at this
        rwa [show 512 * i + (j - 512 * i) = j by omega] at this
    · by_cases hq2 : q + n ≤ 512 * i
      · exact hit_of hm hq2
      · rcases r2 with r2 | r2
        · omega
        · exact ⟨_, by omega, by omega, r2⟩
  · by_cases hB : n ≤ maxS (from_ F (512 * i)) 512
    · left
      rw [fits_own (by show ¬ ((0 : Int) < _ ∧ _ ≤ ((startS (from_ F (512 * i)) 512 : Nat) : Int)); omega) (by show (n : Int) ≤ ((maxS (from_ F (512 * i)) 512 : Nat) : Int); omega)]
      rcases firstN_spec F n hn (512 * (i + 1)) with ⟨-, h⟩ | ⟨p, -, h2, h3⟩
      · omega
      · have hp : 512 * i ≤ p := by
          refine Nat.le_of_not_lt fun hlt => ?_
          by_cases h4 : p + n ≤ 512 * i
          · have := run_max F (512 * i) p n h4 h3.clear_
            omega
          · have h5 := clear_end F (512 * i) p (by omega) fun j a b => h3.clear_ j a (by omega)
            have h6 := clear_start (from_ F (512 * i)) 512 (p + n - 512 * i) (by omega) fun j hj => h3.clear_ _ (by omega) (by omega)
            omega
        exact ⟨p, 512 * i, by congr 1; omega, h3, h2, hp, .inr ⟨by omega, by omega⟩⟩
    · right
      rw [fits_on (by show ¬ ((0 : Int) < _ ∧ _ ≤ ((startS (from_ F (512 * i)) 512 : Nat) : Int)); omega) (by show ¬ ((n : Int) ≤ ((maxS (from_ F (512 * i)) 512 : Nat) : Int)); omega)]
      refine ⟨?_, ?_⟩
      · have e : (if (smF (from_ F (512 * i)) 512).s = 512 then ((endS F (512 * i) : Nat) : Int) + 512 else (smF (from_ F (512 * i)) 512).e) = ((endS F (512 * (i + 1)) : Nat) : Int) := by
          rw [e1]
          show (if ((startS (from_ F (512 * i)) 512 : Nat) : Int) = 512 then _ else ((endS (from_ F (512 * i)) 512 : Nat) : Int)) = _
          by_cases h : endS (from_ F (512 * i)) 512 = 512
          · rw [if_pos h, if_pos (by have := hsf.2 h; omega)]; omega
          · rw [if_neg h, if_neg (fun hh => h (hsf.1 (by omega)))]
        rw [e]
        rfl
      · rw [e3]
        by_cases h0 : startS (from_ F (512 * i)) 512 = 0
        · rw [if_pos h0]; omega
        · rw [if_neg h0]; omega

/-- what Fits answers, beside the first place. -/
def fitOk (o : Option Int) (first : Int) : Prop := (o = none ∧ first = -1) ∨ ∃ a : Nat, ∃ p : Nat, o = some (a : Int) ∧ first = p ∧ a ≤ p ∧ p < 1536 ∧ (a = p ∨ (a % 512 = 0 ∧ p < a + 512))
theorem fit_hit {F : Nat → Bool} {n p a m : Nat} {o : Option Int} (hn : 1 ≤ n) (ho : o = some (a : Int)) (hp : FirstAt F n p) (hm : p + n ≤ m) (h15 : m ≤ 1536) (ha : a ≤ p) (h : a = p ∨ (a % 512 = 0 ∧ p < a + 512)) : fitOk o (firstN F n 1536) := by
  rcases firstN_spec F n hn 1536 with ⟨-, h2⟩ | ⟨q, h1, h2, h3⟩
  · have := run_max F 1536 p n (by omega) hp.clear_
    omega
  · obtain rfl := hp.one h3
    exact .inr ⟨a, p, ho, h1, ha, by omega, h⟩
theorem rows_fit (F : Nat → Bool) (n : Nat) (hn : 1 ≤ n) : fitOk (fitsRec 512 n (rowsL F) 0 0) (firstN F n 1536) := by
  have h0 : maxS F (512 * 0) < n := by show 0 < n; omega
  rcases fit_one F 0 n hn [smF (from_ F 512) 512, smF (from_ F 1024) 512] h0 with ⟨p, a, e, hp, h1, h2, h3⟩ | ⟨e, h1⟩
  · exact fit_hit hn e hp h1 (by omega) h2 h3
  have e : fitsRec 512 n (rowsL F) 0 0 = _ := e
  rw [e]
  rcases fit_one F 1 n hn [smF (from_ F 1024) 512] h1 with ⟨p, a, e, hp, h1, h2, h3⟩ | ⟨e, h1⟩
  · exact fit_hit hn e hp h1 (by omega) h2 h3
  have e : fitsRec 512 n [smF (from_ F 512) 512, smF (from_ F 1024) 512] ((0 + 1 : Nat) : Int) (endS F (512 * (0 + 1)) : Nat) = _ := e
  rw [e]
  rcases fit_one F 2 n hn [] h1 with ⟨p, a, e, hp, h1, h2, h3⟩ | ⟨e, h1⟩
  · exact fit_hit hn e hp h1 (by omega) h2 h3
  have e : fitsRec 512 n [smF (from_ F 1024) 512] ((1 + 1 : Nat) : Int) (endS F (512 * (1 + 1)) : Nat) = _ := e
  rw [e]
  left
  refine ⟨rfl, ?_⟩
  rcases firstN_spec F n hn 1536 with ⟨h, -⟩ | ⟨q, -, h2, h3⟩
  · exact h
  · have := run_max F 1536 q n h2 h3.clear_
    have h1 : maxS F 1536 < n := h1
    omega

end Go.Proofs.Ytbfnadfbanhgcaa
