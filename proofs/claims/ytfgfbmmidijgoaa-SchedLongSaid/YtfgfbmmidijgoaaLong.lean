/- As many tasks and steps as there may be: the plain law, and the rows in memory. -/
import Derived.Test.YtfgfbmmidijgoaaTasks
namespace Go.Proofs.Ytfgfbmmidijgoaa
open Go.RowKit
set_option linter.unusedVariables false

structure LongI (N k : Nat) (ts : List (List St)) : Prop where
  len : ts.length = N
  tot : total ts = k
  some_ : ∀ i, i < N → (0 < (ts.getD i []).length ↔ i < k)
  all : ∀ i x, x ∈ ts.getD i [] → x.op = 5 ∧ 0 ≤ x.a ∧ x.a ≤ 20000 ∧ x.b = 0
theorem total_snoc : ∀ (ts : List (List St)) (i : Nat) (x : St), i < ts.length → total (ts.set i (ts.getD i [] ++ [x])) = total ts + 1
  | [], _, _, h => absurd h (Nat.not_lt_zero _)
  | t :: q, 0, x, _ => by
    show (t ++ [x]).length + total q = t.length + total q + 1
    rw [List.length_append]; show t.length + 1 + _ = _; omega
  | t :: q, i + 1, x, h => by
    have := total_snoc q i x (by simpa using h)
    show t.length + total (q.set i (q.getD i [] ++ [x])) = t.length + total q + 1
    omega
theorem total_blank : ∀ N : Nat, total (List.replicate N []) = 0
  | 0 => rfl
  | N + 1 => by
    show 0 + total (List.replicate N []) = 0
    rw [total_blank N]
theorem blank_get (N i : Nat) : (List.replicate N ([] : List St)).getD i [] = [] := by
  rw [List.getD_eq_getElem?_getD, List.getElem?_replicate]
  split <;> rfl
theorem LongI.start (N : Nat) : LongI N 0 (List.replicate N []) :=
  ⟨List.length_replicate, total_blank N, fun i hi => by rw [blank_get]; simp, fun i x hx => by rw [blank_get] at hx; cases hx⟩
theorem LongI.step {N k : Nat} {ts : List (List St)} (h : LongI N k ts) (hN : 0 < N) (hk : k ≤ 20000) : LongI N (k + 1) (ts.set (k % N) (ts.getD (k % N) [] ++ [⟨5, k, 0⟩])) := by
  have hl := h.len
  have hr : k % N < N := Nat.mod_lt _ hN
  have hr2 : k % N ≤ k := Nat.mod_le _ _
  refine ⟨by rw [List.length_set]; exact hl, by rw [total_snoc _ _ _ (by omega), h.tot], fun i hi => ?_, fun i x hx => ?_⟩
  · rw [getD_set _ _ _ _ _ (by omega)]
    by_cases e : i = k % N
    · rw [if_pos e, List.length_append]
      constructor
      · intro _; omega
      · intro _; show 0 < _ + 1; omega
    · rw [if_neg e, h.some_ i hi]
      constructor
      · intro _; omega
      · intro _
        refine Nat.lt_of_le_of_ne (by omega) fun e2 => e ?_
        subst e2
        exact (Nat.mod_eq_of_lt hi).symm
  · rw [getD_set _ _ _ _ _ (by omega)] at hx
    split at hx
    · rcases List.mem_append.1 hx with hx | hx
      · exact h.all _ x hx
      · obtain rfl : x = ⟨5, k, 0⟩ := by simpa using hx
        exact ⟨rfl, by show (0 : Int) ≤ k; omega, by show (k : Int) ≤ 20000; omega, rfl⟩
    · exact h.all _ x hx
theorem LongI.ok {N k : Nat} {ts : List (List St)} (h : LongI N k ts) : okTs ts = true := by
  unfold okTs
  rw [List.all_eq_true]
  intro t ht
  obtain ⟨i, hi, rfl⟩ := List.getElem_of_mem ht
  rw [List.all_eq_true]
  intro x hx
  have := h.all i x (by rw [List.getD_eq_getElem?_getD, List.getElem?_eq_getElem hi]; exact hx)
  exact decide_eq_true (by omega)
theorem LongI.wf {N k : Nat} {ts : List (List St)} (h : LongI N k ts) : ∀ i x, x ∈ ts.getD i [] → (Lit.int .i64 x.a).wf = true ∧ (Lit.int .i64 x.b).wf = true := by
  intro i x hx
  obtain ⟨-, h0, h1, h2⟩ := h.all i x hx
  rw [h2]
  exact ⟨by simp [Lit.wf, IntKind.min, IntKind.max, IntKind.signed, IntKind.bits]; omega, by decide⟩
theorem filter_lt_len (k : Nat) : ∀ N : Nat, ((List.range N).filter fun i => decide (i < k)).length = min N k
  | 0 => by simp
  | N + 1 => by
    rw [List.range_succ, List.filter_append, List.length_append, filter_lt_len k N, List.filter_cons]
    by_cases h : N < k
    · rw [if_pos (decide_eq_true h)]
      show _ + 1 = _
      omega
    · rw [if_neg (by simpa using h)]
      show _ + 0 = _
      omega
theorem LongI.en {N k : Nat} {ts : List (List St)} (h : LongI N k ts) : (enL (sc0 ts) (sc0 ts).ts.length).length = min N k := by
  rw [show (sc0 ts).ts.length = N from h.len, ← filter_lt_len k N]
  unfold enL
  congr 1
  refine List.filter_congr fun i hi => ?_
  have hi : i < N := by simpa using hi
  have h1 := h.some_ i hi
  have h2 := h.all i
  have e : (sc0 ts).ts.getD i [] = ts.getD i [] := rfl
  cases ht : ts.getD i [] with
  | nil =>
    rw [ht] at h1
    rw [enB_nil (e.trans ht)]
    exact (decide_eq_false (fun hh => by have := h1.2 hh; simp at this)).symm
  | cons x r =>
    rw [ht] at h1 h2
    obtain ⟨o, -⟩ := h2 x (by simp)
    rw [enB_cons rfl (e.trans ht)]
    rw [show decide (i < k) = true from decide_eq_true (h1.1 (by simp))]
    unfold waitsB
    rw [if_neg (by omega), if_neg (by omega)]; rfl

/-! in memory -/
def vl (V : Nat → Value) (n : Nat) : Array Value := (List.range n).toArray.map V
theorem vl_size (V : Nat → Value) (n : Nat) : (vl V n).size = n := by unfold vl; simp
theorem vl_get (V : Nat → Value) (n j : Nat) (h : j < n) : (vl V n)[j]? = some (V j) := by unfold vl; simp [h]
def updV (V : Nat → Value) (r : Nat) (x : Value) : Nat → Value := fun j => if j = r then x else V j
theorem vl_set (V : Nat → Value) (n r : Nat) (x : Value) (h : r < n) : (vl V n).setIfInBounds r x = vl (updV V r x) n := by
  refine Array.ext_getElem? fun j => ?_
  by_cases hj : j < n
  · rw [vl_get _ n j hj]
    unfold updV
    by_cases e : r = j
    · subst e; simp [vl_size, h]
    · rw [Array.getElem?_setIfInBounds_ne e, vl_get _ n j hj, if_neg (fun x => e x.symm)]
  · rw [Array.getElem?_eq_none (by rw [Array.size_setIfInBounds, vl_size]; omega), Array.getElem?_eq_none (by rw [vl_size]; omega)]
theorem vl_made (n : Nat) : madeCells (Value.slice none 0 0).cells (n * 1) = vl (fun _ => .slice none 0 0) n := by
  refine Array.ext_getElem? fun j => ?_
  by_cases hj : j < n
  · rw [vl_get _ n j hj]
    unfold madeCells
    simp [hj, Value.cells, Nat.mod_one]
  · rw [Array.getElem?_eq_none (by rw [size_madeCells]; omega), Array.getElem?_eq_none (by rw [vl_size]; omega)]
theorem make_rows (n : Nat) (hn : n ≤ 1000) (w : World) : (Instr.makeSlice 22 (.int .i64 n) (.int .i64 n)).run Try.prog w = .ok (.slice (some ⟨w.heap.size, 0, none⟩) n n) (w.alloc (.cells (vl (fun _ => .slice none 0 0) n) 23)) := by
  obtain ⟨i0, hi, hz0, hz1, hz2⟩ := info_parts row_info
  have := run_make (P := Try.prog) w 22 23 i0 _ Try.underlying22 hi hz0 .i64 .i64 n n (by omega) (by omega) (by rw [hz2]; omega) (by omega)
  rw [hz1] at this
  simp only [Int.toNat_natCast] at this
  rwa [vl_made] at this

structure LongAt (W w : World) (g N : Nat) (V : Nat → Value) (ts : List (List St)) : Prop where
  ext : Ext W w
  lo : W.heap.size ≤ g
  blk : Blk w g 23 (vl V N)
  rows : ∀ i, i < N → w.ownsRow (g + 1) 25 3 (V i) (ts.getD i []).length (stsL (ts.getD i []))
  apart : ∀ i j b, i < N → j < N → i ≠ j → (V i).ownBlock = some b → (V j).ownBlock ≠ some b
theorem LongAt.start (W : World) (N : Nat) : LongAt W (W.alloc (.cells (vl (fun _ => .slice none 0 0) N) 23)) W.heap.size N (fun _ => .slice none 0 0) (List.replicate N []) := by
  refine ⟨(Ext.refl W).alloc _ _, Nat.le_refl _, Blk.new W _ _, fun i hi => ?_, fun i j b _ _ _ h => by cases h⟩
  rw [blank_get]
  exact owns_nil _ _ _ _
theorem LongAt.step {W w w2 : World} {g N r : Nat} {V : Nat → Value} {ts : List (List St)} {v' : Value} {x : St} {cs : Array Value} (h : LongAt W w g N V ts) (hl : ts.length = N) (hr : r < N)
    (hown : w2.ownsRow (g + 1) 25 3 v' ((ts.getD r []).length + 1) (stsL (ts.getD r []) ++ stL x)) (hc : Chg (fun b => (V r).ownBlock = some b) (w.alloc (.cells cs 25)) w2)
    (hb : v'.ownBlock = (V r).ownBlock ∨ v'.ownBlock = some (w.alloc (.cells cs 25)).heap.size) : LongAt W (w2.setCell ⟨g, r, none⟩ v') g N (updV V r v') (ts.set r (ts.getD r [] ++ [x])) ∧ w2.cell? ⟨g, r, none⟩ = some (V r) ∧ w2.frozen? ⟨g, r, none⟩ = false ∧ g < w2.heap.size := by
  have hcw : Chg (fun b => (V r).ownBlock = some b) w w2 := ((Chg.refl (fun b => (V r).ownBlock = some b) w).alloc _ _).trans hc fun i hi => .inl hi
  have hng : ∀ i, i < N → (V i).ownBlock ≠ some g := fun i hi e => by
    have := (owns_lt (h.rows i hi) g e).1
    omega
  have hblk : Blk w2 g 23 (vl V N) := h.blk.chg hcw (hng r hr)
  have hsz : w.heap.size < (w.alloc (.cells cs 25)).heap.size := by rw [World.size_alloc]; omega
  have hv'g : v'.ownBlock ≠ some g := fun e => by
    have := (owns_lt hown g e).1
    omega
  have hold : ∀ i, i < N → i ≠ r → ∀ b, (V i).ownBlock = some b → v'.ownBlock ≠ some b := fun i hi e b hb1 hb2 => by
    rcases hb with hb | hb
    · exact h.apart i r b hi hr e hb1 (hb ▸ hb2)
    · rw [hb] at hb2
      injection hb2 with hb2
      have := (owns_lt (h.rows i hi) b hb1).2
      omega
  refine ⟨⟨(hcw.ext h.ext fun i hi => ?_).setCell h.lo _, h.lo, ?_, fun i hi => ?_, fun i j b hi hj hne hb1 => ?_⟩, ?_, hblk.frozen r, hblk.lt⟩
  · have := (owns_lt (h.rows r hr) i hi).1
    have := h.lo
    omega
  · rw [← vl_set V N r v' hr]
    exact hblk.set_ r v'
  · unfold updV
    rw [getD_set _ _ _ _ _ (by omega)]
    by_cases e : i = r
    · rw [if_pos e, if_pos e, List.length_append, stsL_append]
      refine owns_blocks (w := w2) ?_ fun k hk => Below.heap_setCell w2 _ _ k fun e => hv'g (by rw [hk, e])
      exact hown
    · rw [if_neg e, if_neg e]
      refine owns_blocks (w := w2) ?_ fun k hk => Below.heap_setCell w2 _ _ k fun e => hng i hi (by rw [hk, e])
      exact owns_chg (h.rows i hi) hcw fun b hb1 hb2 => h.apart i r b hi hr e hb1 hb2
  · unfold updV at hb1 ⊢
    by_cases e1 : i = r
    · rw [if_pos e1] at hb1
      rw [if_neg (by omega)]
      intro hb2
      exact hold j hj (by omega) b hb2 hb1
    · rw [if_neg e1] at hb1
      by_cases e2 : j = r
      · rw [if_pos e2]
        exact hold i hi e1 b hb1
      · rw [if_neg e2]
        exact h.apart i j b hi hj hne hb1
  · rw [hblk.cell, vl_get V N r hr]
theorem LongAt.tsin {W w : World} {g N : Nat} {V : Nat → Value} {ts : List (List St)} (h : LongAt W w g N V ts) (hl : ts.length = N) : TsIn w (.slice (some ⟨g, 0, none⟩) N N) ts :=
  tsin_blk h.blk hl.symm (fun i hi => ⟨V i, vl_get V N i (by omega), strow_own (h.rows i (by omega)) fun b hb => (owns_lt (h.rows i (by omega)) b hb).2⟩) N

end Go.Proofs.Ytfgfbmmidijgoaa
