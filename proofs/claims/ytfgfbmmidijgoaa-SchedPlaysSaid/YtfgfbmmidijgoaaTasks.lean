/- Tasks that a law lays, one by one. -/
import Derived.Test.YtfgfbmmidijgoaaDisc
import Derived.Test.YtfgfbmmidijgoaaStuckW
namespace Go.Proofs.Ytfgfbmmidijgoaa
open Go.RowKit
set_option linter.unusedVariables false

structure TasksAt (W w : World) (v : Value) (vals : List Value) (ts : List (List St)) : Prop where
  ext : Ext W w
  own : w.ownsRow W.heap.size 23 1 v ts.length vals
  rows : ∀ i, i < ts.length → StRow w (fun k => W.heap.size ≤ k ∧ k < w.heap.size) (vals.getD i undef) (ts.getD i [])
theorem TasksAt.start (W : World) : TasksAt W W (.slice none 0 0) [] [] := ⟨Ext.refl _, owns_nil _ _ _ _, fun i hi => absurd hi (Nat.not_lt_zero _)⟩
theorem TasksAt.later {W w w' : World} {v : Value} {vals : List Value} {ts : List (List St)} (h : TasksAt W w v vals ts) (hx : Ext w w') : TasksAt W w' v vals ts :=
  ⟨h.ext.trans hx, owns_later h.own hx.below, fun i hi => ((h.rows i hi).later (fun g hg => hg.2) hx).mono fun g hg => ⟨hg.1, Nat.lt_of_lt_of_le hg.2 hx.size⟩⟩
theorem TasksAt.add {W w1 w2 : World} {v v' u : Value} {vals : List Value} {ts : List (List St)} {t : List St} {cs : Array Value} (h : TasksAt W w1 v vals ts) (hu : StRow w1 (fun k => W.heap.size ≤ k ∧ k < w1.heap.size) u t)
    (hown : w2.ownsRow W.heap.size 23 1 v' (ts.length + 1) (vals ++ [u])) (hc : Chg (fun i => v.ownBlock = some i) (w1.alloc (.cells cs 23)) w2) : TasksAt W w2 v' (vals ++ [u]) (ts ++ [t]) := by
  have hcw : Chg (fun i => v.ownBlock = some i) w1 w2 := ((Chg.refl (fun i => v.ownBlock = some i) w1).alloc _ _).trans hc fun i hi => .inl hi
  have hvl : vals.length = ts.length := by have := h.own.1; omega
  have hsz := hcw.size
  have hkeep : ∀ {u : Value} {t : List St}, StRow w1 (fun k => W.heap.size ≤ k ∧ k < w1.heap.size) u t → StRow w2 (fun k => W.heap.size ≤ k ∧ k < w2.heap.size) u t := fun hh =>
    (hh.same fun g hg hT => hcw.block g hg.2 fun e => (hT.ne (own_hasT h.own e) (by decide)) rfl).mono fun g hg => ⟨hg.1, by omega⟩
  refine ⟨hcw.ext h.ext fun i hi => (owns_lt h.own i hi).1, by rw [List.length_append]; exact hown, fun i hi => ?_⟩
  rw [List.length_append] at hi
  have hi : i < ts.length + 1 := hi
  by_cases e : i < ts.length
  · have e1 : (vals ++ [u]).getD i undef = vals.getD i undef := by rw [List.getD_eq_getElem?_getD, List.getElem?_append_left (by omega), ← List.getD_eq_getElem?_getD]
    have e2 : (ts ++ [t]).getD i [] = ts.getD i [] := by rw [List.getD_eq_getElem?_getD, List.getElem?_append_left (by omega), ← List.getD_eq_getElem?_getD]
    rw [e1, e2]
    exact hkeep (h.rows i e)
  · obtain rfl : i = ts.length := by omega
    have e1 : (vals ++ [u]).getD ts.length undef = u := by rw [List.getD_eq_getElem?_getD, List.getElem?_append_right (by omega), hvl]; simp
    have e2 : (ts ++ [t]).getD ts.length [] = t := by rw [List.getD_eq_getElem?_getD, List.getElem?_append_right (by omega)]; simp
    rw [e1, e2]
    exact hkeep hu
theorem TasksAt.tsin {W w : World} {v : Value} {vals : List Value} {ts : List (List St)} (h : TasksAt W w v vals ts) : TsIn w v ts :=
  tsin_own h.own rfl fun i hi => (h.rows i hi).mono fun g hg => hg.2

theorem total_append : ∀ a b : List (List St), total (a ++ b) = total a + total b
  | [], b => by simp [total]
  | t :: a, b => by
    show t.length + total (a ++ b) = t.length + total a + total b
    rw [total_append a b]; omega
/-- how often something is said. -/
def saysL : List St → Nat
  | [] => 0
  | x :: r => (if x.op = 5 then 1 else 0) + saysL r
def saysT : List (List St) → Nat
  | [] => 0
  | t :: r => saysL t + saysT r
theorem saysT_append : ∀ a b : List (List St), saysT (a ++ b) = saysT a + saysT b
  | [], b => by simp [saysT]
  | t :: a, b => by
    show saysL t + saysT (a ++ b) = saysL t + saysT a + saysT b
    rw [saysT_append a b]; omega
theorem saysT_set : ∀ (ts : List (List St)) (i : Nat) (x : St) (r : List St), i < ts.length → ts.getD i [] = x :: r → saysT (ts.set i r) + (if x.op = 5 then 1 else 0) = saysT ts
  | [], _, _, _, h, _ => absurd h (Nat.not_lt_zero _)
  | t :: q, 0, x, r, _, h => by
    have : t = x :: r := h
    subst this
    show saysL r + saysT q + _ = (_ + saysL r) + saysT q
    omega
  | t :: q, i + 1, x, r, h, e => by
    have := saysT_set q i x r (by simpa using h) e
    show saysL t + saysT (q.set i r) + _ = saysL t + saysT q
    omega
theorem saysL_le : ∀ t : List St, saysL t ≤ t.length
  | [] => Nat.le_refl _
  | x :: r => by
    have := saysL_le r
    show (if x.op = 5 then 1 else 0) + saysL r ≤ r.length + 1
    split <;> omega
theorem saysT_le : ∀ ts : List (List St), saysT ts ≤ total ts
  | [] => Nat.le_refl _
  | t :: r => by
    have := saysT_le r
    have := saysL_le t
    show saysL t + saysT r ≤ t.length + total r
    omega

end Go.Proofs.Ytfgfbmmidijgoaa
