/- What is added to a cell by tasks that only add, and a task that awaits the sum: the plain law. -/
import Derived.Test.YtfgfbmmidijgoaaTasks
namespace Go.Proofs.Ytfgfbmmidijgoaa
open Go.RowKit
set_option linter.unusedVariables false

def addsL : List St → Int
  | [] => 0
  | x :: r => (if x.op = 3 then x.b else 0) + addsL r
def addsT : List (List St) → Int
  | [] => 0
  | t :: r => addsL t + addsT r
theorem addsL_append : ∀ a b : List St, addsL (a ++ b) = addsL a + addsL b
  | [], b => by simp [addsL]
  | x :: a, b => by
    show _ + addsL (a ++ b) = _ + addsL a + addsL b
    rw [addsL_append a b]; omega
theorem addsT_append : ∀ a b : List (List St), addsT (a ++ b) = addsT a + addsT b
  | [], b => by simp [addsT]
  | t :: a, b => by
    show addsL t + addsT (a ++ b) = addsL t + addsT a + addsT b
    rw [addsT_append a b]; omega
theorem addsT_set : ∀ (ts : List (List St)) (i : Nat) (x : St) (r : List St), i < ts.length → ts.getD i [] = x :: r → addsT (ts.set i r) + (if x.op = 3 then x.b else 0) = addsT ts
  | [], _, _, _, h, _ => absurd h (Nat.not_lt_zero _)
  | t :: q, 0, x, r, _, h => by
    have : t = x :: r := h
    subst this
    show addsL r + addsT q + _ = (_ + addsL r) + addsT q
    omega
  | t :: q, i + 1, x, r, h, e => by
    have := addsT_set q i x r (by simpa using h) e
    show addsL t + addsT (q.set i r) + _ = addsL t + addsT q
    omega
/-- no step adds less than nothing. -/
def Ups (t : List St) : Prop := ∀ x, x ∈ t → x.op = 3 → 1 ≤ x.b
theorem addsL_nonneg : ∀ t : List St, Ups t → 0 ≤ addsL t
  | [], _ => Int.le_refl _
  | x :: r, h => by
    have h1 := addsL_nonneg r fun y hy => h y (List.mem_cons_of_mem _ hy)
    show 0 ≤ (if x.op = 3 then x.b else 0) + addsL r
    split
    · rename_i e
      have := h x (by simp) e
      omega
    · omega
theorem addsT_nonneg : ∀ ts : List (List St), (∀ i, Ups (ts.getD i [])) → 0 ≤ addsT ts
  | [], _ => Int.le_refl _
  | t :: r, h => by
    have h1 := addsT_nonneg r fun i => h (i + 1)
    have h2 := addsL_nonneg t (h 0)
    show 0 ≤ addsL t + addsT r
    omega
theorem addsT_zero : ∀ ts : List (List St), (∀ i, i < ts.length → addsL (ts.getD i []) = 0) → addsT ts = 0
  | [], _ => rfl
  | t :: r, h => by
    have h1 := addsT_zero r fun i hi => h (i + 1) (by simpa using hi)
    have h2 : addsL t = 0 := h 0 (by simp)
    show addsL t + addsT r = 0
    omega

/-- tasks of adds to cell 5. -/
def AddT (t : List St) : Prop := ∀ x, x ∈ t → x.op = 3 ∧ x.a = 5 ∧ 1 ≤ x.b ∧ x.b ≤ 1000
theorem AddT.bound : ∀ t : List St, AddT t → 0 ≤ addsL t ∧ addsL t ≤ 1000 * t.length
  | [], _ => ⟨Int.le_refl _, Int.le_refl _⟩
  | x :: r, h => by
    have h1 := AddT.bound r fun y hy => h y (List.mem_cons_of_mem _ hy)
    have h2 := h x (by simp)
    show 0 ≤ (if x.op = 3 then x.b else 0) + addsL r ∧ (if x.op = 3 then x.b else 0) + addsL r ≤ 1000 * ((r.length + 1 : Nat) : Int)
    rw [if_pos h2.1]
    omega
theorem AddT.bounds : ∀ ts : List (List St), (∀ t, t ∈ ts → AddT t) → 0 ≤ addsT ts ∧ addsT ts ≤ 1000 * total ts
  | [], _ => ⟨Int.le_refl _, Int.le_refl _⟩
  | t :: r, h => by
    have h1 := AddT.bounds r fun y hy => h y (List.mem_cons_of_mem _ hy)
    have h2 := AddT.bound t (h t (by simp))
    show 0 ≤ addsL t + addsT r ∧ addsL t + addsT r ≤ 1000 * ((t.length + total r : Nat) : Int)
    omega

def tlT (sum : Int) : List St := [⟨4, 5, sum⟩, ⟨5, 1, 0⟩]
structure CellsI (last n : Nat) (sum : Int) (k : Nat) (s : Sc) : Prop where
  over : s.over = false
  len : s.ts.length = last + 1
  add : ∀ i, i < last → AddT (s.ts.getD i [])
  tail : s.ts.getD last [] = tlT sum ∨ ((s.ts.getD last [] = [⟨5, 1, 0⟩] ∨ s.ts.getD last [] = []) ∧ addsT s.ts = 0)
  cell : (s.cl 5).getD 0 + addsT s.ts = sum
  c0 : 0 ≤ (s.cl 5).getD 0
  small : sum ≤ 200000
  tot : total s.ts + k = n + 2
  said : s.out.length + saysT s.ts = 1

theorem sStep_cl (s : Sc) (i : Nat) (x : St) (r : List St) : (sStep s i x r).cl = if x.op = 3 then updM s.cl x.a (some (IntKind.i64.wrap ((s.cl x.a).getD 0 + x.b))) else s.cl := by
  show (stepD s i x).cl = _
  unfold stepD
  by_cases h1 : x.op = 1
  · rw [if_pos h1, if_neg (by omega)]; rfl
  by_cases h2 : x.op = 2
  · rw [if_neg h1, if_pos h2, if_neg (by omega)]; rfl
  rw [if_neg h1, if_neg h2]
  by_cases h3 : x.op = 3
  · rw [if_pos h3, if_pos h3]; rfl
  rw [if_neg h3, if_neg h3]
  by_cases h4 : x.op = 4
  · rw [if_pos h4]
  · rw [if_neg h4]; rfl

section
variable {last n k : Nat} {sum : Int} {s : Sc}
theorem CellsI.ups (h : CellsI last n sum k s) (i : Nat) : Ups (s.ts.getD i []) := by
  intro x hx e
  by_cases hi : i < last
  · exact (h.add i hi x hx).2.2.1
  · by_cases h2 : i = last
    · subst h2
      rcases h.tail with ht | ⟨ht | ht, -⟩ <;> rw [ht] at hx
      · simp [tlT] at hx
        rcases hx with rfl | rfl <;> cases e
      · simp at hx
        subst hx; cases e
      · cases hx
    · have := h.len
      rw [List.getD_eq_getElem?_getD, List.getElem?_eq_none (by omega)] at hx
      cases hx
theorem CellsI.rest (h : CellsI last n sum k s) : 0 ≤ addsT s.ts := addsT_nonneg _ h.ups
theorem wait4 {s : Sc} {x : St} (h : x.op = 4) : waitsB s x = decide ((s.cl x.a).getD 0 < x.b) := by
  unfold waitsB; rw [if_neg (by omega), if_pos h]
theorem wait_no {s : Sc} {x : St} (h1 : x.op ≠ 1) (h4 : x.op ≠ 4) : waitsB s x = false := by
  unfold waitsB; rw [if_neg h1, if_neg h4]
theorem total_nil : ∀ ts : List (List St), (∀ i, i < ts.length → ts.getD i [] = []) → total ts = 0
  | [], _ => rfl
  | t :: r, h => by
    have h1 := total_nil r fun i hi => h (i + 1) (by simpa using hi)
    have h2 : t = [] := h 0 (by simp)
    subst h2
    show 0 + total r = 0
    omega
theorem CellsI.ne (h : CellsI last n sum k s) (hk : k < n + 2) : enL s s.ts.length ≠ [] := by
  intro he
  have hno : ∀ i, i < s.ts.length → enB s i = false := fun i hi => by
    have : ¬ i ∈ enL s s.ts.length := by rw [he]; simp
    unfold enL at this
    rw [List.mem_filter] at this
    have h2 : ¬ enB s i = true := fun e => this ⟨by simpa using hi, e⟩
    simpa using h2
  have hl := h.len
  have hfirst : ∀ i, i < last → s.ts.getD i [] = [] := fun i hi => by
    cases ht : s.ts.getD i [] with
    | nil => rfl
    | cons x r =>
      have h1 := hno i (by omega)
      rw [enB_cons h.over ht] at h1
      have h2 := h.add i hi
      rw [ht] at h2
      have h3 := h2 x (by simp)
      rw [wait_no (by omega) (by omega)] at h1
      cases h1
  have hadd : s.ts.getD last [] = tlT sum → addsT s.ts = 0 := fun e => addsT_zero _ fun i hi => by
    by_cases hi2 : i < last
    · rw [hfirst i hi2]; rfl
    · obtain rfl : i = last := by omega
      rw [e]; rfl
  have h1 := hno last (by omega)
  rcases h.tail with ht | ⟨ht | ht, -⟩
  · rw [enB_cons h.over (ht.trans (show tlT sum = ⟨4, 5, sum⟩ :: [⟨5, 1, 0⟩] from rfl)), wait4 rfl] at h1
    have h2 := h.cell
    rw [hadd ht] at h2
    have h3 : ((s.cl 5).getD 0) = sum := by omega
    simp [h3] at h1
  · rw [enB_cons h.over ht, wait_no (by show (5 : Int) ≠ 1; omega) (by show (5 : Int) ≠ 4; omega)] at h1
    cases h1
  · have h2 := total_nil s.ts fun i hi => by
      by_cases hi2 : i < last
      · exact hfirst i hi2
      · obtain rfl : i = last := by omega
        exact ht
    have := h.tot
    omega
theorem CellsI.go (h : CellsI last n sum k s) (hk : k < n + 2) (pick : Int) :
    ∃ i : Nat, i ≤ last ∧ (goR s pick).1 = i ∧ (goR s pick).2.1 = 0 ∧ (i = last → (s.cl 5).getD 0 = sum) ∧ CellsI last n sum (k + 1) (goR s pick).2.2 := by
  obtain ⟨i, x, r, -, -, hx, hw, hi, hg⟩ := goR_some h.over (h.ne hk) pick
  have hl := h.len
  have h0 := h.rest
  have hcell := h.cell
  have hsmall := h.small
  have ht := h.tot
  have hsaid := h.said
  have t1 := sStep_total hi hx
  have t2 := saysT_set s.ts i x r hi hx
  have t3 := addsT_set s.ts i x r hi hx
  have hget : ∀ j, (sStep s i x r).ts.getD j [] = if j = i then r else s.ts.getD j [] := fun j => by rw [sStep_ts, getD_set _ _ _ _ _ hi]
  have hov : (sStep s i x r).over = false := (sStep_over s i x r).trans h.over
  have hlen : (sStep s i x r).ts.length = last + 1 := by rw [sStep_ts, List.length_set]; exact hl
  have hcl := sStep_cl s i x r
  have hout := sStep_out s i x r
  have hts := sStep_ts s i x r
  by_cases hil : i < last
  · have hadd := h.add i hil
    rw [hx] at hadd
    obtain ⟨o3, oa, ob, ob2⟩ := hadd x (by simp)
    rw [if_neg (by omega)] at hg
    rw [hg]
    rw [if_pos o3] at t3 hcl
    rw [if_neg (by omega)] at t2
    rw [if_pos (by omega)] at hout
    have hr : AddT r := fun y hy => hadd y (List.mem_cons_of_mem _ hy)
    have hrest : 0 ≤ addsT (s.ts.set i r) := addsT_nonneg _ fun j => by
      rw [getD_set _ _ _ _ _ hi]
      split
      · intro y hy e; exact (hr y hy).2.2.1
      · exact h.ups j
    have hwrap : IntKind.i64.wrap ((s.cl x.a).getD 0 + x.b) = (s.cl 5).getD 0 + x.b := by
      rw [oa, IntKind.wrap_i64]
      have := h.c0
      omega
    have hcl5 : ((sStep s i x r).cl 5).getD 0 = (s.cl 5).getD 0 + x.b := by
      rw [hcl, hwrap, oa]
      unfold updM
      rw [if_pos rfl]; rfl
    refine ⟨i, by omega, rfl, rfl, fun e => by omega, hov, hlen, fun j hj => ?_, ?_, ?_, ?_, hsmall, by show total (sStep s i x r).ts + (k + 1) = _; omega, ?_⟩
    · show AddT ((sStep s i x r).ts.getD j [])
      rw [hget]
      split
      · exact hr
      · exact h.add j hj
    · show (sStep s i x r).ts.getD last [] = _ ∨ _
      rw [hget, if_neg (by omega)]
      rcases h.tail with e | ⟨e, e0⟩
      · exact .inl e
      · exfalso; omega
    · show ((sStep s i x r).cl 5).getD 0 + addsT (sStep s i x r).ts = sum
      rw [hcl5, hts]; omega
    · show 0 ≤ ((sStep s i x r).cl 5).getD 0
      rw [hcl5]
      have := h.c0
      omega
    · show (sStep s i x r).out.length + saysT (sStep s i x r).ts = 1
      rw [hts, hout]; omega
  · obtain rfl : i = last := by omega
    have hsum : (s.cl 5).getD 0 = sum ∧ addsT s.ts = 0 := by
      rcases h.tail with e | ⟨-, e⟩
      · rw [hx] at e
        obtain ⟨rfl, -⟩ := List.cons.inj (e.trans (show tlT sum = ⟨4, 5, sum⟩ :: [⟨5, 1, 0⟩] from rfl))
        rw [wait4 rfl] at hw
        have hw2 : ¬ ((s.cl 5).getD 0 < sum) := of_decide_eq_false hw
        omega
      · omega
    have hx45 : (x.op = 4 ∧ r = [⟨5, 1, 0⟩]) ∨ (x.op = 5 ∧ r = []) := by
      rcases h.tail with e | ⟨e | e, -⟩
      · rw [hx] at e
        obtain ⟨rfl, rfl⟩ := List.cons.inj (e.trans (show tlT sum = ⟨4, 5, sum⟩ :: [⟨5, 1, 0⟩] from rfl))
        exact .inl ⟨rfl, rfl⟩
      · rw [hx] at e
        obtain ⟨rfl, rfl⟩ := List.cons.inj e
        exact .inr ⟨rfl, rfl⟩
      · rw [hx] at e; cases e
    have o3 : x.op ≠ 3 := by omega
    rw [if_neg (by omega)] at hg
    rw [hg]
    rw [if_neg o3] at t3 hcl
    have hz : addsT (s.ts.set i r) = 0 := by omega
    refine ⟨i, Nat.le_refl _, rfl, rfl, fun _ => hsum.1, hov, hlen, fun j hj => ?_, ?_, ?_, ?_, hsmall, by show total (sStep s i x r).ts + (k + 1) = _; omega, ?_⟩
    · show AddT ((sStep s i x r).ts.getD j [])
      rw [hget, if_neg (by omega)]
      exact h.add j hj
    · show (sStep s i x r).ts.getD i [] = _ ∨ (((sStep s i x r).ts.getD i [] = _ ∨ (sStep s i x r).ts.getD i [] = _) ∧ addsT (sStep s i x r).ts = 0)
      rw [hget, if_pos rfl, hts]
      exact .inr ⟨hx45.elim (fun e => .inl e.2) (fun e => .inr e.2), hz⟩
    · show ((sStep s i x r).cl 5).getD 0 + addsT (sStep s i x r).ts = sum
      rw [hcl, hts]; omega
    · show 0 ≤ ((sStep s i x r).cl 5).getD 0
      rw [hcl]
      exact h.c0
    · show (sStep s i x r).out.length + saysT (sStep s i x r).ts = 1
      rw [hts, hout]
      rcases hx45 with ⟨o, -⟩ | ⟨o, -⟩
      · rw [if_pos (.inr (.inr (.inr o)))]; rw [if_neg (by omega)] at t2; omega
      · rw [if_neg (by omega), List.length_append]; rw [if_pos o] at t2; show s.out.length + 1 + _ = _; omega
theorem CellsI.done (h : CellsI last n sum (n + 2) s) (pick : Int) : goR s pick = (0, 22, s) := goR_done h.over (left_total (by have := h.tot; omega)) pick
theorem CellsI.end_ (h : CellsI last n sum (n + 2) s) : s.out.length = 1 ∧ (s.cl 5).getD 0 = sum := by
  have ht := h.tot
  have h0 : total s.ts = 0 := by omega
  have h2 := saysT_le s.ts
  have h3 := h.said
  have h4 := addsT_zero s.ts fun i _ => by rw [total_zero s.ts h0 i]; rfl
  have h5 := h.cell
  exact ⟨by omega, by omega⟩
theorem CellsI.start {ts : List (List St)} (hl : ts.length = last) (ht : total ts = n) (hs : addsT ts = sum) (h : ∀ t, t ∈ ts → AddT t) (hn : n ≤ 200) (hsay : saysT ts = 0) : CellsI last n sum 0 (sc0 (ts ++ [tlT sum])) := by
  have hb := AddT.bounds ts h
  subst hl
  have e1 : addsT (ts ++ [tlT sum]) = sum := by
    rw [addsT_append]
    show addsT ts + ((0 : Int) + (0 + 0) + 0) = sum
    omega
  refine ⟨rfl, ?_, fun i hi => ?_, .inl ?_, ?_, Int.le_refl _, by omega, ?_, ?_⟩
  · show (ts ++ [tlT sum]).length = _
    rw [List.length_append]; rfl
  · show AddT ((ts ++ [tlT sum]).getD i [])
    rw [List.getD_eq_getElem?_getD, List.getElem?_append_left hi, List.getElem?_eq_getElem hi]
    exact h _ (List.getElem_mem hi)
  · show (ts ++ [tlT sum]).getD ts.length [] = _
    rw [List.getD_eq_getElem?_getD, List.getElem?_append_right (Nat.le_refl _), Nat.sub_self]; rfl
  · show (0 : Int) + addsT (ts ++ [tlT sum]) = sum
    omega
  · show total (ts ++ [tlT sum]) + 0 = n + 2
    rw [total_append, ht]; rfl
  · show 0 + saysT (ts ++ [tlT sum]) = 1
    rw [saysT_append, hsay]; rfl
theorem addT_says : ∀ t : List St, AddT t → saysL t = 0
  | [], _ => rfl
  | x :: r, h => by
    have h1 := addT_says r fun y hy => h y (List.mem_cons_of_mem _ hy)
    have h2 := h x (by simp)
    show (if x.op = 5 then 1 else 0) + saysL r = 0
    rw [if_neg (by omega), h1]
theorem addT_saysT : ∀ ts : List (List St), (∀ t, t ∈ ts → AddT t) → saysT ts = 0
  | [], _ => rfl
  | t :: r, h => by
    have h1 := addT_saysT r fun y hy => h y (List.mem_cons_of_mem _ hy)
    have h2 := addT_says t (h t (by simp))
    show saysL t + saysT r = 0
    omega
theorem addT_ok {ts : List (List St)} (h : ∀ t, t ∈ ts → AddT t) (sum : Int) : okTs (ts ++ [tlT sum]) = true := by
  unfold okTs
  rw [List.all_append, Bool.and_eq_true]
  refine ⟨?_, rfl⟩
  rw [List.all_eq_true]
  intro t ht
  rw [List.all_eq_true]
  intro x hx
  have := h t ht x hx
  unfold okSt
  exact decide_eq_true (by omega)
end

end Go.Proofs.Ytfgfbmmidijgoaa
