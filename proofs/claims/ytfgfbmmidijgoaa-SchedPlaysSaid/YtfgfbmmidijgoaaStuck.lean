/- The plain law of SchedStuck. -/
import Derived.Test.YtfgfbmmidijgoaaRowS
namespace Go.Proofs.Ytfgfbmmidijgoaa
open Go.RowKit
set_option linter.unusedVariables false

def stA : List St := [⟨1, 1, 0⟩, ⟨1, 2, 0⟩, ⟨2, 2, 0⟩, ⟨2, 1, 0⟩]
def stB : List St := [⟨1, 2, 0⟩, ⟨1, 1, 0⟩, ⟨2, 1, 0⟩, ⟨2, 2, 0⟩]
/-- who holds lock 1, lock 2, when x and y steps are left. -/
def l1 (x y : Nat) : Option Int := if x = 1 ∨ x = 2 ∨ x = 3 then some 0 else if y = 2 then some 1 else none
def l2 (x y : Nat) : Option Int := if x = 2 then some 0 else if y = 1 ∨ y = 2 ∨ y = 3 then some 1 else none
def okXY (x y : Nat) : Bool := decide (x ≤ 4 ∧ y ≤ 4 ∧ ¬ ((x = 1 ∨ x = 2 ∨ x = 3) ∧ y = 2) ∧ ¬ (x = 2 ∧ (y = 1 ∨ y = 2 ∨ y = 3)))
structure StI (x y : Nat) (s : Sc) : Prop where
  ts : s.ts = [stA.drop (4 - x), stB.drop (4 - y)]
  over : s.over = false
  k1 : s.lk 1 = l1 x y
  k2 : s.lk 2 = l2 x y
theorem StI.start : StI 4 4 (sc0 [stA, stB]) := ⟨rfl, rfl, rfl, rfl⟩
theorem enL_two {s : Sc} (h : s.ts.length = 2) {i : Nat} (hi : i < 2) (he : enB s i = true) : enL s s.ts.length ≠ [] := by
  rw [h]
  refine List.ne_nil_of_mem (a := i) ?_
  unfold enL
  rw [List.mem_filter]
  exact ⟨by simpa using hi, he⟩
theorem goR_stuck {s : Sc} (ho : s.over = false) (hl : leftB s.ts = true) (he : enL s s.ts.length = []) (pick : Int) : goR s pick = (0, 21, s) := by
  unfold goR
  rw [if_neg (by rw [ho]; simp), if_neg (by rw [hl]; simp), he]
  rfl

theorem st_cases {x y : Nat} (h : okXY x y = true) : (x, y) ∈ [(0, 0), (0, 1), (0, 2), (0, 3), (0, 4), (1, 0), (1, 1), (1, 3), (1, 4), (2, 0), (2, 4), (3, 0), (3, 1), (3, 3), (3, 4), (4, 0), (4, 1), (4, 2), (4, 3), (4, 4)] := by
  unfold okXY at h
  have h := of_decide_eq_true h
  have hx : x = 0 ∨ x = 1 ∨ x = 2 ∨ x = 3 ∨ x = 4 := by omega
  have hy : y = 0 ∨ y = 1 ∨ y = 2 ∨ y = 3 ∨ y = 4 := by omega
  rcases hx with rfl | rfl | rfl | rfl | rfl <;> rcases hy with rfl | rfl | rfl | rfl | rfl <;> first | decide | (exfalso; omega)

theorem st_len {x y : Nat} {s : Sc} (h : StI x y s) : s.ts.length = 2 := by rw [h.ts]; rfl
theorem st_e0 {x y : Nat} {s : Sc} (h : StI x y s) : s.ts.getD 0 [] = stA.drop (4 - x) := by rw [h.ts]; rfl
theorem st_e1 {x y : Nat} {s : Sc} (h : StI x y s) : s.ts.getD 1 [] = stB.drop (4 - y) := by rw [h.ts]; rfl
/-- would that step wait? -/
def wB (x y : Nat) (st : St) : Bool := if st.op = 1 then (if st.a = 1 then l1 x y else l2 x y).isSome else false
theorem wB_eq {x y : Nat} {s : Sc} (h : StI x y s) {st : St} (h1 : st.op = 1 ∨ st.op = 2) (h2 : st.a = 1 ∨ st.a = 2) : waitsB s st = wB x y st := by
  unfold waitsB wB
  rcases h1 with h1 | h1 <;> rcases h2 with h2 | h2 <;> simp [h1, h2, h.k1, h.k2]
/-- the two tasks' next steps. -/
theorem st_next {t : List St} (ht : t = stA ∨ t = stB) {k : Nat} {st : St} {r : List St} (e : t.drop k = st :: r) : (st.op = 1 ∨ st.op = 2) ∧ (st.a = 1 ∨ st.a = 2) := by
  have hm : st ∈ t := List.mem_of_mem_drop (i := k) (by rw [e]; simp)
  rcases ht with rfl | rfl
  · simp [stA] at hm
    rcases hm with rfl | rfl | rfl | rfl <;> simp
  · simp [stB] at hm
    rcases hm with rfl | rfl | rfl | rfl <;> simp

theorem st_ne {x y : Nat} {s : Sc} (h : StI x y s) (hok : okXY x y = true) (h00 : ¬ (x = 0 ∧ y = 0)) (h33 : ¬ (x = 3 ∧ y = 3)) : enL s s.ts.length ≠ [] := by
  have hl := st_len h
  have hw : ∀ {i : Nat} {t : List St} {k : Nat} {st : St} {r : List St}, i < 2 → s.ts.getD i [] = t.drop k → (t = stA ∨ t = stB) → t.drop k = st :: r → wB x y st = false → enL s s.ts.length ≠ [] := fun hi hg ht e hb => by
    refine enL_two hl hi ?_
    obtain ⟨a1, a2⟩ := st_next ht e
    rw [enB_cons h.over (hg.trans e), wB_eq h a1 a2, hb]; rfl
  have hc := st_cases hok
  simp only [List.mem_cons, List.not_mem_nil, or_false, Prod.mk.injEq] at hc
  rcases hc with ⟨rfl, rfl⟩ | ⟨rfl, rfl⟩ | ⟨rfl, rfl⟩ | ⟨rfl, rfl⟩ | ⟨rfl, rfl⟩ | ⟨rfl, rfl⟩ | ⟨rfl, rfl⟩ | ⟨rfl, rfl⟩ | ⟨rfl, rfl⟩ | ⟨rfl, rfl⟩ | ⟨rfl, rfl⟩ | ⟨rfl, rfl⟩ | ⟨rfl, rfl⟩ | ⟨rfl, rfl⟩ | ⟨rfl, rfl⟩ | ⟨rfl, rfl⟩ | ⟨rfl, rfl⟩ | ⟨rfl, rfl⟩ | ⟨rfl, rfl⟩ | ⟨rfl, rfl⟩ <;>
    first
      | exact absurd ⟨rfl, rfl⟩ h00
      | exact absurd ⟨rfl, rfl⟩ h33
      | exact hw (i := 0) (by omega) (st_e0 h) (.inl rfl) rfl rfl
      | exact hw (i := 1) (by omega) (st_e1 h) (.inr rfl) rfl rfl

theorem st_go {x y : Nat} {s : Sc} (h : StI x y s) (hok : okXY x y = true) (h00 : ¬ (x = 0 ∧ y = 0)) (h33 : ¬ (x = 3 ∧ y = 3)) (pick : Int) :
    ∃ x' y', okXY x' y' = true ∧ x' + y' + 1 = x + y ∧ (goR s pick).2.1 = 0 ∧ StI x' y' (goR s pick).2.2 := by
  obtain ⟨i, st, r, -, -, hx, hw, hi, hg⟩ := goR_some h.over (st_ne h hok h00 h33) pick
  rw [st_len h] at hi
  have hc := st_cases hok
  have hov := h.over
  have k1 := h.k1
  have k2 := h.k2
  simp only [List.mem_cons, List.not_mem_nil, or_false, Prod.mk.injEq] at hc
  rcases (show i = 0 ∨ i = 1 by omega) with rfl | rfl
  · have e := (st_e0 h).symm.trans hx
    obtain ⟨a1, a2⟩ := st_next (.inl rfl) e
    rw [wB_eq h a1 a2] at hw
    have hts := h.ts
    refine ⟨x - 1, y, ?_⟩
    rcases hc with ⟨rfl, rfl⟩ | ⟨rfl, rfl⟩ | ⟨rfl, rfl⟩ | ⟨rfl, rfl⟩ | ⟨rfl, rfl⟩ | ⟨rfl, rfl⟩ | ⟨rfl, rfl⟩ | ⟨rfl, rfl⟩ | ⟨rfl, rfl⟩ | ⟨rfl, rfl⟩ | ⟨rfl, rfl⟩ | ⟨rfl, rfl⟩ | ⟨rfl, rfl⟩ | ⟨rfl, rfl⟩ | ⟨rfl, rfl⟩ | ⟨rfl, rfl⟩ | ⟨rfl, rfl⟩ | ⟨rfl, rfl⟩ | ⟨rfl, rfl⟩ | ⟨rfl, rfl⟩ <;>
    first
      | (exfalso; revert e; simp [stA]; done)
      | (obtain ⟨rfl, rfl⟩ := List.cons.inj e
         first
          | (exfalso; revert hw; decide)
          | (rw [if_neg (by simp [k1, k2, l1, l2])] at hg
             rw [hg]
             exact ⟨by decide, by omega, rfl, ⟨by show s.ts.set 0 _ = _; rw [hts]; rfl, hov, by first | rfl | exact k1, by first | rfl | exact k2⟩⟩))
  · have e := (st_e1 h).symm.trans hx
    obtain ⟨a1, a2⟩ := st_next (.inr rfl) e
    rw [wB_eq h a1 a2] at hw
    have hts := h.ts
    refine ⟨x, y - 1, ?_⟩
    rcases hc with ⟨rfl, rfl⟩ | ⟨rfl, rfl⟩ | ⟨rfl, rfl⟩ | ⟨rfl, rfl⟩ | ⟨rfl, rfl⟩ | ⟨rfl, rfl⟩ | ⟨rfl, rfl⟩ | ⟨rfl, rfl⟩ | ⟨rfl, rfl⟩ | ⟨rfl, rfl⟩ | ⟨rfl, rfl⟩ | ⟨rfl, rfl⟩ | ⟨rfl, rfl⟩ | ⟨rfl, rfl⟩ | ⟨rfl, rfl⟩ | ⟨rfl, rfl⟩ | ⟨rfl, rfl⟩ | ⟨rfl, rfl⟩ | ⟨rfl, rfl⟩ | ⟨rfl, rfl⟩ <;>
    first
      | (exfalso; revert e; simp [stB]; done)
      | (obtain ⟨rfl, rfl⟩ := List.cons.inj e
         first
          | (exfalso; revert hw; decide)
          | (rw [if_neg (by simp [k1, k2, l1, l2])] at hg
             rw [hg]
             exact ⟨by decide, by omega, rfl, ⟨by show s.ts.set 1 _ = _; rw [hts]; rfl, hov, by first | rfl | exact k1, by first | rfl | exact k2⟩⟩))

theorem st_done {s : Sc} (h : StI 0 0 s) (pick : Int) : goR s pick = (0, 22, s) := goR_done h.over (by rw [h.ts]; rfl) pick
theorem st_stuck {s : Sc} (h : StI 3 3 s) : enL s s.ts.length = [] := by
  rw [st_len h]
  show (List.range 2).filter (enB s) = []
  rw [show List.range 2 = [0, 1] from rfl, List.filter_cons, List.filter_cons, enB_cons h.over ((st_e0 h).trans (show _ = ⟨1, 2, 0⟩ :: [⟨2, 2, 0⟩, ⟨2, 1, 0⟩] from rfl)), enB_cons h.over ((st_e1 h).trans (show _ = ⟨1, 1, 0⟩ :: [⟨2, 1, 0⟩, ⟨2, 2, 0⟩] from rfl)), wB_eq h (.inl rfl) (.inr rfl), wB_eq h (.inl rfl) (.inl rfl)]
  rfl
theorem st_stuck_go {s : Sc} (h : StI 3 3 s) (pick : Int) : goR s pick = (0, 21, s) := goR_stuck h.over (by rw [h.ts]; rfl) (st_stuck h) pick

end Go.Proofs.Ytfgfbmmidijgoaa
