/- Rows of steps and rows of tasks of a law's own; single steps of a scheduler. -/
import Derived.Test.YtfgfbmmidijgoaaSchG
namespace Go.Proofs.Ytfgfbmmidijgoaa
open Go.RowKit
set_option linter.unusedVariables false

theorem src_many (w : World) (cs : List Value) (t : TypeId) (size m : Nat) (h : cs.length = m * size) : Src (w.alloc (.cells cs.toArray t)) size (.slice (some ⟨w.heap.size, 0, none⟩) m m) m cs :=
  .inr ⟨_, _, rfl, h, fun j u hu => by
    rw [Addr.add_lit, Nat.zero_add, cell_new]
    simpa using hu⟩
theorem tsin_blk {w : World} {g n : Nat} {cs : Array Value} {ts : List (List St)} (h : Blk w g 23 cs) (hn : n = ts.length) (hr : ∀ i, i < ts.length → ∃ u, cs[i]? = some u ∧ StRow w (fun k => k < w.heap.size) u (ts.getD i [])) (cap : Nat) : TsIn w (.slice (some ⟨g, 0, none⟩) n cap) ts := by
  subst hn
  refine ⟨_, cap, rfl, fun i hi => ?_⟩
  obtain ⟨u, hu, hs⟩ := hr i hi
  exact ⟨g, 0, u, rfl, by rw [Nat.zero_add, h.cell]; exact hu, h.lt, hs⟩
theorem tsin_own {w : World} {B n : Nat} {v : Value} {vals : List Value} {ts : List (List St)} (h : w.ownsRow B 23 1 v n vals) (hn : n = ts.length) (hr : ∀ i, i < ts.length → StRow w (fun k => k < w.heap.size) (vals.getD i undef) (ts.getD i [])) : TsIn w v ts := by
  subst hn
  have hvl : vals.length = ts.length := by have := h.1; omega
  obtain ⟨p, cap, rfl, -, -, hp⟩ := owns_form h
  refine ⟨p, cap, rfl, fun i hi => ?_⟩
  rcases hp with hp | ⟨g, rfl, -, hg⟩
  · omega
  · refine ⟨g, 0, vals.getD i undef, rfl, ?_, hg, hr i hi⟩
    rw [Nat.zero_add, h.cellAt i (by omega), List.getD_eq_getElem?_getD, List.getElem?_eq_getElem (by omega)]
    rfl

theorem enL_none {s : Sc} (h : s.over = true) (n : Nat) : enL s n = [] := by
  unfold enL
  rw [List.filter_eq_nil_iff]
  intro i _
  simp [enB, h]
theorem enB_cons {s : Sc} {i : Nat} {x : St} {r : List St} (ho : s.over = false) (h : s.ts.getD i [] = x :: r) : enB s i = !waitsB s x := by
  unfold enB; rw [ho, h]; rfl
theorem enB_nil {s : Sc} {i : Nat} (h : s.ts.getD i [] = []) : enB s i = false := by
  unfold enB; rw [h]; simp
theorem goR_over {s : Sc} (h : s.over = true) (pick : Int) : goR s pick = (0, 20, s) := if_pos h
theorem goR_done {s : Sc} (ho : s.over = false) (h : leftB s.ts = false) (pick : Int) : goR s pick = (0, 22, s) := by
  unfold goR; rw [if_neg (by rw [ho]; simp), if_pos h]
/-- what Go does when some task may go. -/
theorem goR_some {s : Sc} (ho : s.over = false) (hne : enL s s.ts.length ≠ []) (pick : Int) :
    ∃ i x r, i ∈ enL s s.ts.length ∧ (enL s s.ts.length)[(pick % ((enL s s.ts.length).length : Int)).toNat]? = some i ∧ s.ts.getD i [] = x :: r ∧ waitsB s x = false ∧ i < s.ts.length ∧
      goR s pick = if x.op = 2 ∧ s.lk x.a ≠ some (i : Int) then ((i : Int), 20, { s with over := true }) else ((i : Int), 0, sStep s i x r) := by
  have hpos : 0 < (enL s s.ts.length).length := List.length_pos_iff.2 hne
  have h1 := Int.emod_lt_of_pos pick (b := ((enL s s.ts.length).length : Int)) (by omega)
  have h2 := Int.emod_nonneg pick (b := ((enL s s.ts.length).length : Int)) (by omega)
  have hk : (pick % ((enL s s.ts.length).length : Int)).toNat < (enL s s.ts.length).length := by omega
  have hi := List.getElem?_eq_getElem hk
  obtain ⟨hen, hiN, -⟩ := enL_mem hi
  obtain ⟨x, r, hx, hw, -, -⟩ := enB_head hen
  have hl : leftB s.ts = true := leftB_yes hiN (by rw [hx]; simp)
  refine ⟨_, x, r, List.getElem_mem hk, hi, hx, hw, hiN, ?_⟩
  conv => lhs; unfold goR
  rw [if_neg (by rw [ho]; simp), if_neg (by rw [hl]; simp), hi]
  dsimp only
  rw [hx]
theorem goR_one {s : Sc} {x : St} {r : List St} (h : s.ts = [x :: r]) (ho : s.over = false) (hw : waitsB s x = false) (pick : Int) :
    goR s pick = if x.op = 2 ∧ s.lk x.a ≠ some (0 : Int) then (0, 20, { s with over := true }) else (0, 0, sStep s 0 x r) := by
  have hd : s.ts.getD 0 [] = x :: r := by rw [h]; rfl
  have he : enL s s.ts.length = [0] := by
    rw [h]
    show (List.range 1).filter (enB s) = [0]
    rw [show List.range 1 = [0] from rfl, List.filter_cons, enB_cons ho hd, hw]
    rfl
  obtain ⟨i, x', r', hm, -, hx, -, -, hg⟩ := goR_some ho (by rw [he]; simp) pick
  rw [he] at hm
  obtain rfl : i = 0 := by simpa using hm
  rw [hd] at hx
  injection hx with e1 e2
  subst e1; subst e2
  exact hg

end Go.Proofs.Ytfgfbmmidijgoaa
