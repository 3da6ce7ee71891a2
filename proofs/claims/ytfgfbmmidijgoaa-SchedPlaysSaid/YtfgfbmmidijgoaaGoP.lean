/- What a step of a task leaves: facts for the walk of Go. -/
import Derived.Test.YtfgfbmmidijgoaaCatch
namespace Go.Proofs.Ytfgfbmmidijgoaa
open Go.RowKit
set_option linter.unusedVariables false

theorem total_set : ∀ (ts : List (List St)) (i : Nat) (x : St) (r : List St), i < ts.length → ts.getD i [] = x :: r → total (ts.set i r) + 1 = total ts
  | [], _, _, _, h, _ => absurd h (Nat.not_lt_zero _)
  | t :: q, 0, x, r, _, h => by
    have : t = x :: r := h
    subst this
    show r.length + total q + 1 = (r.length + 1) + total q
    omega
  | t :: q, i + 1, x, r, h, e => by
    have := total_set q i x r (by simpa using h) e
    show t.length + total (q.set i r) + 1 = t.length + total q
    omega
theorem getD_set {α : Type} (l : List α) (i j : Nat) (v d : α) (hi : i < l.length) : (l.set i v).getD j d = if j = i then v else l.getD j d := by
  rw [List.getD_eq_getElem?_getD, List.getD_eq_getElem?_getD, List.getElem?_set]
  by_cases e : j = i
  · subst e; simp [hi]
  · rw [if_neg (fun x => e x.symm), if_neg e]

/-- the step of task i is gone. -/
def sGone (s : Sc) (i : Nat) (r : List St) : Sc := { s with ts := s.ts.set i r, pend := 0 }

theorem SchAt.step {w : World} {b : Nat} {F : Nat → Prop} {s : Sc} {sv : Value} {vals : List Value} {bl bc nl nc gt capt i : Nat} {x : St} {r : List St} {g off cap : Nat} {a' : Addr} (h : SchAt w b F s (.slice (some ⟨gt, 0, none⟩) s.ts.length capt) sv vals bl bc nl nc) (hlt : ∀ k, F k → k < w.heap.size)
    (hi : i < s.ts.length) (hx : s.ts.getD i [] = x :: r) (hr : StRow w F (.slice (some ⟨g, off, none⟩) (r.length + 1) cap) (x :: r)) (ha : r ≠ [] → a' = ⟨g, off + 3, none⟩) :
    SchAt (w.setCell ⟨gt, i, none⟩ (.slice (some a') r.length (cap - 1))) b F (sGone s i r) (.slice (some ⟨gt, 0, none⟩) s.ts.length capt) sv (vals.set i (.slice (some a') r.length (cap - 1))) bl bc nl nc := by
  have hT : HasT w gt 23 := own_hasT h.ts rfl
  have hgb := (owns_lt h.ts gt rfl).1
  have hc : Chg (fun k => k = gt) w (w.setCell ⟨gt, i, none⟩ (.slice (some a') r.length (cap - 1))) := (Chg.refl (fun k => k = gt) w).setCell (p := ⟨gt, i, none⟩) (.inl rfl) _
  have hst := (h.ts.stored i (.slice (some a') r.length (cap - 1))).1
  have hlen : (s.ts.set i r).length = s.ts.length := List.length_set ..
  have hvl : vals.length = s.ts.length := by have := h.ts.1; omega
  have keep : ∀ {v : Value} {t : List St}, StRow w F v t → StRow (w.setCell ⟨gt, i, none⟩ (.slice (some a') r.length (cap - 1))) F v t := fun h1 => h1.same fun k hk hkT => hc.block k (hlt k hk) (hkT.ne hT (by decide))
  refine ⟨h.blk.chg hc (by omega), by show World.ownsRow _ (b + 1) 23 1 _ (s.ts.set i r).length _; rw [hlen]; exact hst, fun j hj => ?_, h.lk.chg hc (h.lk.ne_t hT), h.cl.chg hc (h.cl.ne_t hT), h.ne, owns_chg h.said hc fun k hk => (own_hasT h.said hk).ne hT (by decide), ⟨?_, Nat.zero_le _, by show (s.ts.set i r).length ≤ 64; rw [hlen]; exact h.fits.wide, fun j y hy => ?_⟩, h.fb, h.fbl, h.fbc, h.ftv, h.fsv⟩
  · have hj' : j < s.ts.length := by
      have : j < (s.ts.set i r).length := hj
      omega
    show StRow _ F ((vals.set i _).getD j undef) ((s.ts.set i r).getD j [])
    rw [getD_set _ _ _ _ _ (by omega), getD_set _ _ _ _ _ hi]
    by_cases e : j = i
    · rw [if_pos e, if_pos e]
      exact keep (hr.tail ha)
    · rw [if_neg e, if_neg e]
      exact keep (h.rows j hj')
  · have h1 := h.fits.few
    have h2 := h.fits.pend
    have h3 := total_set s.ts i x r hi hx
    show nl + nc + s.out.length + total (s.ts.set i r) ≤ 10000 + 0
    omega
  · have hy' : y ∈ (s.ts.set i r).getD j [] := hy
    rw [getD_set _ _ _ _ _ hi] at hy'
    by_cases e : j = i
    · rw [if_pos e] at hy'
      exact h.fits.ok i y (by rw [hx]; exact List.mem_cons_of_mem _ hy')
    · rw [if_neg e] at hy'
      exact h.fits.ok j y hy'

/-- behind a step: the task's row is shorter, and the law's result cell is written. -/
theorem turned_step {w W w5 : World} {b : Nat} {F : Nat → Prop} {s1 : Sc} {sv : Value} {vals : List Value} {bl bc nl nc gt capt i q : Nat} {x : St} {r : List St} {g off cap : Nat} {a' : Addr} (hx : Ext w W) (hlt : ∀ k, F k → k < w.heap.size) (hq : w.heap.size ≤ q) (hqW : q < W.heap.size) (hc : Chg F W w5)
    (h : SchAt w5 b (Grew F W w5) s1 (.slice (some ⟨gt, 0, none⟩) s1.ts.length capt) sv vals bl bc nl nc) (hl5 : ∀ k, Grew F W w5 k → k < w5.heap.size)
    (hi : i < s1.ts.length) (hxr : s1.ts.getD i [] = x :: r) (hr : StRow w5 (Grew F W w5) (.slice (some ⟨g, off, none⟩) (r.length + 1) cap) (x :: r)) (ha : r ≠ [] → a' = ⟨g, off + 3, none⟩) (n : Nat) (u : Value) :
    Turned w b F (sGone s1 i r) (((w5.setCell ⟨gt, i, none⟩ (.slice (some a') r.length (cap - 1))).setCell ⟨q, 0, none⟩ u).drewN n) := by
  have h6 := h.step hl5 hi hxr hr ha
  have hgF : Grew F W w5 gt := h.ftv gt rfl
  have e6 : (w5.setCell ⟨gt, i, none⟩ (.slice (some a') r.length (cap - 1))).heap.size = w5.heap.size := World.size_setCell _ _ _
  have hqF : ∀ k, Grew F W w5 k → ¬ k = q := fun k hk e => by
    subst e
    rcases hk with hk | hk
    · have := hlt k hk; omega
    · omega
  have hcq : Chg (fun k => k = q) (w5.setCell ⟨gt, i, none⟩ (.slice (some a') r.length (cap - 1))) (((w5.setCell ⟨gt, i, none⟩ (.slice (some a') r.length (cap - 1))).setCell ⟨q, 0, none⟩ u).drewN n) :=
    ((Chg.refl (fun k => k = q) _).setCell (p := ⟨q, 0, none⟩) (.inl rfl) u).drewN n
  have h7 := h6.chg (by rw [e6]; exact hl5) hcq hqF
  have hfin : (((w5.setCell ⟨gt, i, none⟩ (.slice (some a') r.length (cap - 1))).setCell ⟨q, 0, none⟩ u).drewN n).heap.size = w5.heap.size := by
    show ((w5.setCell ⟨gt, i, none⟩ (.slice (some a') r.length (cap - 1))).setCell ⟨q, 0, none⟩ u).heap.size = _
    rw [World.size_setCell, e6]
  have hWw := hx.size
  have hW5 := hc.size
  refine ⟨⟨⟨_, _, _, _, _, _, _, h7.mono fun k hk => ?_⟩, fun k hk => ?_⟩, ?_⟩
  · rcases hk with hk | hk
    · exact .inl hk
    · exact .inr (by rw [hfin]; omega)
  · rw [hfin]
    rcases hk with hk | hk
    · have := hlt k hk; omega
    · rw [hfin] at hk; exact hk.2
  · have c1 : Chg F w w5 := (Chg.of_ext hx F).trans hc fun i hi => .inl hi
    have c2 : Chg (Grew F W w5) w5 (w5.setCell ⟨gt, i, none⟩ (.slice (some a') r.length (cap - 1))) := (Chg.refl _ _).setCell (p := ⟨gt, i, none⟩) (.inl hgF) _
    refine (c1.trans c2 fun k hk => ?_).trans hcq fun k hk => .inr (by omega)
    rcases hk with hk | hk
    · exact .inl hk
    · exact .inr (by omega)

/-- an unlock of what is not held: all is over. -/
theorem turned_over {w W : World} {b : Nat} {F : Nat → Prop} {s : Sc} {q : Nat} (hx : Ext w W) (h : SchIs W b F s) (hlt : ∀ k, F k → k < w.heap.size) (hq : w.heap.size ≤ q) (u : Value) (c : Array Value) (t : TypeId) :
    Turned w b F { s with over := true } (((W.setCell ⟨b, 4, none⟩ (.bool true)).setCell ⟨q, 0, none⟩ u).alloc (.cells c t)) := by
  obtain ⟨⟨tv, sv, vals, bl, bc, nl, nc, h1⟩, h2⟩ := h
  have hcb : Chg (fun k => k = b) W (W.setCell ⟨b, 4, none⟩ (.bool true)) := (Chg.refl (fun k => k = b) W).setCell (p := ⟨b, 4, none⟩) (.inl rfl) _
  have hb := h1.blk.set_ 4 (.bool true)
  have h3 : SchAt (W.setCell ⟨b, 4, none⟩ (.bool true)) b F { s with over := true } tv sv vals bl bc nl nc :=
    ⟨hb, owns_chg h1.ts hcb fun g hg e => by have := (owns_lt h1.ts g hg).1; omega, fun i hi => (h1.rows i hi).same fun g hF hT => hcb.block g (h2 g hF) (hT.ne h1.blk.hasT (by decide)), h1.lk.chg hcb (h1.lk.ne_t h1.blk.hasT), h1.cl.chg hcb (h1.cl.ne_t h1.blk.hasT), h1.ne, owns_chg h1.said hcb fun g hg e => by have := (owns_lt h1.said g hg).1; omega, ⟨h1.fits.few, h1.fits.pend, h1.fits.wide, h1.fits.ok⟩, h1.fb, h1.fbl, h1.fbc, h1.ftv, h1.fsv⟩
  have hcq : Chg (fun k => k = q) (W.setCell ⟨b, 4, none⟩ (.bool true)) (((W.setCell ⟨b, 4, none⟩ (.bool true)).setCell ⟨q, 0, none⟩ u).alloc (.cells c t)) := ((Chg.refl (fun k => k = q) _).setCell (p := ⟨q, 0, none⟩) (.inl rfl) u).alloc _ _
  have eb : (W.setCell ⟨b, 4, none⟩ (.bool true)).heap.size = W.heap.size := World.size_setCell _ _ _
  have h4 := h3.chg (by rw [eb]; exact h2) hcq fun k hk e => by have := hlt k hk; omega
  have hs := hcq.size
  have hxs := hx.size
  refine ⟨⟨⟨_, _, _, _, _, _, _, h4.mono fun k hk => .inl hk⟩, fun k hk => hk.elim (fun hk => by have := hlt k hk; omega) (·.2)⟩, ?_⟩
  refine ((Chg.of_ext hx F).trans (hcb.mono fun k hk => .inl (hk ▸ h1.fb)) fun k hk => .inl hk).trans hcq fun k hk => .inr (by omega)

end Go.Proofs.Ytfgfbmmidijgoaa
