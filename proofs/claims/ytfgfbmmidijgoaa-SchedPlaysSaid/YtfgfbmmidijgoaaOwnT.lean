/- The contract of own: the tasks in lists of the law's own; what is written over them. -/
import Derived.Test.YtfgfbmmidijgoaaTsIn
import Derived.Test.YtfgfbmmidijgoaaTasks
namespace Go.Proofs.Ytfgfbmmidijgoaa
open Go.RowKit
set_option linter.unusedVariables false

/-- rows of the law's own. -/
structure OwnG (W w : World) (v : Value) (vals : List Value) (ts : List (List St)) : Prop where
  tk : TasksAt W w v vals ts
  rows : ∀ i, i < ts.length → w.ownsRow W.heap.size 25 3 (vals.getD i undef) (ts.getD i []).length (stsL (ts.getD i []))
theorem OwnG.add {W w w1 w2 : World} {v v' u : Value} {vals : List Value} {ts : List (List St)} {t : List St} {cs : Array Value} (h : OwnG W w v vals ts) (hx : Ext w w1) (hu : w1.ownsRow w.heap.size 25 3 u t.length (stsL t))
    (hown : w2.ownsRow W.heap.size 23 1 v' (ts.length + 1) (vals ++ [u])) (hc : Chg (fun i => v.ownBlock = some i) (w1.alloc (.cells cs 23)) w2) : OwnG W w2 v' (vals ++ [u]) (ts ++ [t]) := by
  have h1 := h.tk.later hx
  have hWw := h.tk.ext.size
  have hu' : w1.ownsRow W.heap.size 25 3 u t.length (stsL t) := owns_rebase hu fun g hg => Nat.le_trans hWw (owns_lt hu g hg).1
  refine ⟨h1.add (strow_own hu' fun g hg => owns_lt hu' g hg) hown hc, fun i hi => ?_⟩
  have hcw : Chg (fun i => v.ownBlock = some i) w1 w2 := ((Chg.refl (fun i => v.ownBlock = some i) w1).alloc _ _).trans hc fun i hi => .inl hi
  have hvl : vals.length = ts.length := by have := h.tk.own.1; omega
  have hkeep : ∀ {u : Value} {n : Nat} {xs : List Value}, w1.ownsRow W.heap.size 25 3 u n xs → w2.ownsRow W.heap.size 25 3 u n xs := fun hh =>
    owns_chg hh hcw fun g hg e => ((own_hasT hh hg).ne (own_hasT h1.own e) (by decide)) rfl
  rw [List.length_append] at hi
  have hi : i < ts.length + 1 := hi
  by_cases e : i < ts.length
  · have e1 : (vals ++ [u]).getD i undef = vals.getD i undef := by rw [List.getD_eq_getElem?_getD, List.getElem?_append_left (by omega), ← List.getD_eq_getElem?_getD]
    have e2 : (ts ++ [t]).getD i [] = ts.getD i [] := by rw [List.getD_eq_getElem?_getD, List.getElem?_append_left (by omega), ← List.getD_eq_getElem?_getD]
    rw [e1, e2]
    exact hkeep (owns_later (h.rows i e) hx.below)
  · obtain rfl : i = ts.length := by omega
    have e1 : (vals ++ [u]).getD ts.length undef = u := by rw [List.getD_eq_getElem?_getD, List.getElem?_append_right (by omega), hvl]; simp
    have e2 : (ts ++ [t]).getD ts.length [] = t := by rw [List.getD_eq_getElem?_getD, List.getElem?_append_right (by omega)]; simp
    rw [e1, e2]
    exact hkeep hu'

theorem tk_take {l : Tk} {k : Nat} (h : k < l.len) : (tkN l).take (k + 1) = (tkN l).take k ++ [l.z k] := by
  rw [List.take_succ_eq_append_getElem (by rw [tkN_len]; exact h)]
  congr 2
  have := tkN_get l h
  rw [List.getD_eq_getElem?_getD, List.getElem?_eq_getElem (by rw [tkN_len]; exact h)] at this
  exact this
theorem tk_take_len {l : Tk} {k : Nat} (h : k ≤ l.len) : ((tkN l).take k).length = k := by
  rw [List.length_take, tkN_len]; omega

set_option maxRecDepth 20000 in
set_option maxHeartbeats 4000000 in
theorem own_any (W w : World) (v : Value) (l : Tk) (hW : Ext W w) (h : TkIn W v l) (h4 : l.len + total (tkN l) ≤ 400) :
    Calls Try.prog 20 #[v] w fun e w' => ∃ v' vals, e = .returned v' ∧ OwnG w w' v' vals (tkN l) := by
  obtain ⟨i0, hi0, hz0, hz1, hz2⟩ := info_parts row_info
  obtain ⟨i1, hi1, hy0, hy1, hy2⟩ := info_parts step_info
  obtain ⟨-, p, cap, rfl, hr⟩ := h
  have HR := Lib.hid hr
  have HT4 := Lib.hid h4
  have hl4 : l.len ≤ 400 := by omega
  clear hr h4
  go_enter Try.func20, Try.ntmps20
  go_wp2
  go_loopw [3, 4] (fun v i wr => ∃ (k : Nat) (vals : List Value), k ≤ l.len ∧ i = .int .i64 k ∧ Hid (OwnG w wr v vals ((tkN l).take k))) (fun _ i _ => l.len - (intOf i).toNat)
  case atStart => exact ⟨0, _, by omega, rfl, Lib.hid ⟨TasksAt.start w, fun i hi => absurd hi (Nat.not_lt_zero _)⟩⟩
  case round =>
    obtain ⟨k, vals, hk, rfl, hR⟩ := hrel
    have HO : Hid (wr.ownsRow w.heap.size 23 1 _ k vals) := Lib.hid (by have := hR.out.tk.own; rwa [tk_take_len hk] at this)
    obtain ⟨pv, capv, rfl, -, -, -⟩ := owns_form HO.out
    by_cases hlt : k < l.len
    · obtain ⟨b, off, u, rfl, hb, hc, hst, -, -⟩ := HR.out k hlt
      obtain ⟨pu, capu, rfl, -⟩ := id hst
      have HX := Lib.hid (hW.trans hR.out.tk.ext)
      have c0 := (HX.out.cell b (off + k) hb).trans hc
      have hbw := Nat.lt_of_lt_of_le hb HX.out.size
      have HST := Lib.hid (hst.later HX.out)
      have htl : (l.z k).length ≤ 400 := by
        have := total_le (tkN l) k
        rw [tkN_get l hlt] at this
        have := HT4.out
        omega
      have hsz : w.heap.size ≤ wr.heap.size := hR.out.tk.ext.size
      have HTK := Lib.hid (tk_take hlt)
      clear hc hst
      generalize hz : l.z k = t at *
      clear hz
      go_wp2_with (first | (at_builtin; refine wpList_append_all wr.heap.size _ rfl (.tmp 12) (.tmp 16) 23 rfl 25 i1 _ 3 24 Try.underlying23 hi1 hy0 hy1 hy2 rfl (by decide) (.slice (some ⟨wr.heap.size, 0, none⟩) 0 0) 0 [] (by rfl) (by exact owns_empty wr wr.heap.size 25 3 (Nat.le_refl _)) (.slice pu t.length capu) t.length (stsL t) (by rfl) (by exact src_later (stin_any HST.out) ((Ext.refl _).alloc _ _) (by decide)) (stsL_one t) (by unfold maxLen; omega) (by omega) (by simp) ?_) | fail)
      intro v5 w5 hown hchg _
      have HX5 := Lib.hid (hchg.ext ((Ext.refl wr).alloc #[] 25) fun i hi => by simp [Value.ownBlock] at hi; omega)
      have HU5 : Hid (w5.ownsRow wr.heap.size 25 3 v5 t.length (stsL t)) := Lib.hid (by simpa using hown)
      obtain ⟨p5, cap5, rfl, -, -, -⟩ := owns_form HU5.out
      have hs5 := HX5.out.size
      clear hown hchg
      go_wp2_with (first | (at_builtin; refine wpList_append_all w.heap.size _ rfl (.tmp 11) (.tmp 18) 22 rfl 23 i0 _ 1 24 Try.underlying22 hi0 hz0 hz1 hz2 rfl (by decide) _ _ _ (by rfl) (by exact owns_later HO.out ((HX5.out.alloc _ _).below)) (.slice (some ⟨w5.heap.size, 0, none⟩) 1 1) 1 [.slice p5 t.length cap5] (by rfl) (by exact src_one w5 [.slice p5 t.length cap5] _ 1 rfl) (by intro u hu; simp at hu; subst hu; rfl) (by unfold maxLen; omega) (by omega) (by simp; omega) ?_) | fail)
      intro v6 w6 hown hchg _
      have HN : Hid (OwnG w w6 v6 (vals ++ [.slice p5 t.length cap5]) ((tkN l).take (k + 1))) := Lib.hid (by
        rw [HTK.out]
        exact hR.out.add HX5.out HU5.out (by rw [tk_take_len hk]; exact hown) hchg)
      obtain ⟨p6, cap6, rfl, -, -, -⟩ := owns_form hown
      clear hown hchg HO
      go_wp2_with fail
      go_roundw
      case rel => exact ⟨k + 1, _, by omega, by go_num, HN⟩
      case measure => simp [intOf]; omega
    · obtain rfl : k = l.len := by omega
      have HN : Hid (OwnG w wr (.slice pv l.len capv) vals (tkN l)) := Lib.hid (by
        have := hR.out
        rwa [List.take_of_length_le (by rw [tkN_len]; exact Nat.le_refl _)] at this)
      clear hR HO
      go_wp2_with fail
      go_ret
      exact ⟨_, _, rfl, HN.out⟩

/-! ### the rows, whatever lies in them -/
/-- a law's rows of steps can be written to; their blocks are R's. -/
structure Wr (w : World) (R : Nat → Prop) (v : Value) (ls : List Nat) : Prop where
  rows : ∃ p cap, v = .slice p ls.length cap ∧ ∀ i, i < ls.length → ∃ g pu capu, p = some ⟨g, 0, none⟩ ∧ g < w.heap.size ∧ HasT w g 23 ∧ w.cell? ⟨g, i, none⟩ = some (.slice pu (ls.getD i 0) capu) ∧
    (ls.getD i 0 = 0 ∨ ∃ b cs, pu = some ⟨b, 0, none⟩ ∧ R b ∧ Blk w b 25 cs ∧ ls.getD i 0 * 3 ≤ cs.size)
theorem Wr.later {w w' : World} {R : Nat → Prop} {v : Value} {ls : List Nat} (h : Wr w R v ls) (hx : Ext w w') : Wr w' R v ls := by
  obtain ⟨p, cap, e, hr⟩ := h.rows
  refine ⟨p, cap, e, fun i hi => ?_⟩
  obtain ⟨g, pu, capu, e2, hg, hT, hc, hb⟩ := hr i hi
  refine ⟨g, pu, capu, e2, Nat.lt_of_lt_of_le hg hx.size, hT.same (hx.below.block g hg), (hx.cell g _ hg).trans hc, ?_⟩
  rcases hb with hb | ⟨b, cs, e3, hR, hB, hs⟩
  · exact .inl hb
  · exact .inr ⟨b, cs, e3, hR, hB.later hx, hs⟩
/-- a cell of a row is written. -/
theorem Wr.set {w : World} {R : Nat → Prop} {v : Value} {ls : List Nat} {b0 o : Nat} {cs0 : Array Value} (h : Wr w R v ls) (hB0 : Blk w b0 25 cs0) (u : Value) : Wr (w.setCell ⟨b0, o, none⟩ u) R v ls := by
  obtain ⟨p, cap, e, hr⟩ := h.rows
  refine ⟨p, cap, e, fun i hi => ?_⟩
  obtain ⟨g, pu, capu, e2, hg, hT, hc, hb⟩ := hr i hi
  have hne : g ≠ b0 := hT.ne hB0.hasT (by decide)
  have hblk := Below.heap_setCell w ⟨b0, o, none⟩ u g hne
  refine ⟨g, pu, capu, e2, by rw [World.size_setCell]; exact hg, hT.same hblk, (World.cell?_of_block hblk).trans hc, ?_⟩
  rcases hb with hb | ⟨b, cs, e3, hR, hB, hs⟩
  · exact .inl hb
  · by_cases hbb : b = b0
    · subst hbb
      exact .inr ⟨b, _, e3, hR, hB.set_ o u, by simpa using hs⟩
    · exact .inr ⟨b, cs, e3, hR, hB.far (p := ⟨b0, o, none⟩) hbb u, hs⟩
theorem OwnG.wr {W w : World} {v : Value} {vals : List Value} {ts : List (List St)} (h : OwnG W w v vals ts) : Wr w (fun k => W.heap.size ≤ k ∧ k < w.heap.size) v (ts.map List.length) := by
  have hvl : vals.length = ts.length := by have := h.tk.own.1; omega
  have hl : (ts.map List.length).length = ts.length := List.length_map _
  have hT := fun g hg => own_hasT h.tk.own (g := g) hg
  obtain ⟨p, cap, rfl, -, -, hp⟩ := owns_form h.tk.own
  refine ⟨p, cap, by rw [hl], fun i hi => ?_⟩
  rw [hl] at hi
  have hgi : (ts.map List.length).getD i 0 = (ts.getD i []).length := by
    rw [List.getD_eq_getElem?_getD, List.getElem?_map, List.getD_eq_getElem?_getD, List.getElem?_eq_getElem hi]; rfl
  rcases hp with hp | ⟨g, rfl, -, hg⟩
  · omega
  have hro := h.rows i hi
  have hcell := h.tk.own.cellAt i (by omega)
  have hgv : vals[i]? = some (vals.getD i undef) := by
    rw [List.getD_eq_getElem?_getD, List.getElem?_eq_getElem (by omega)]; rfl
  rw [hgv] at hcell
  generalize vals.getD i undef = u at *
  have hown := hro
  obtain ⟨pu, capu, rfl, -, -, -⟩ := owns_form hro
  refine ⟨g, pu, capu, rfl, hg, hT g rfl, by rw [hgi]; exact hcell, ?_⟩
  rw [hgi]
  rcases hown.2 with ⟨e, h0⟩ | ⟨b, cap', cur, e, hb, hh, hnc, hcm, hcs, htk⟩
  · exact .inl h0
  · cases e
    have hlt := owns_lt hown b rfl
    refine .inr ⟨b, cur, rfl, hlt, hh, ?_⟩
    omega

end Go.Proofs.Ytfgfbmmidijgoaa
