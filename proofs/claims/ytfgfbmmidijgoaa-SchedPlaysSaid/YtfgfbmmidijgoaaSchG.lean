/- A scheduler that a law made, beside blocks of the law's own: all its calls. -/
import Derived.Test.YtfgfbmmidijgoaaNew
namespace Go.Proofs.Ytfgfbmmidijgoaa
open Go.RowKit
set_option linter.unusedVariables false

/-- what Go answers, and what it leaves. -/
def goR (s : Sc) (pick : Int) : Int × Int × Sc :=
  if s.over = true then (0, 20, s) else if leftB s.ts = false then (0, 22, s) else
  match (enL s s.ts.length)[(pick % ((enL s s.ts.length).length : Int)).toNat]? with
  | none => (0, 21, s)
  | some i => match s.ts.getD i [] with
    | [] => (0, 21, s)
    | x :: r => if x.op = 2 ∧ s.lk x.a ≠ some (i : Int) then ((i : Int), 20, { s with over := true }) else ((i : Int), 0, sStep s i x r)

theorem turned_self {w w' : World} {b : Nat} {F : Nat → Prop} {s : Sc} (h : SchIs w b F s) (hx : Ext w w') : Turned w b F s w' := by
  refine ⟨?_, Chg.of_ext hx F⟩
  obtain ⟨⟨tv, sv, vals, bl, bc, nl, nc, h1⟩, h2⟩ := h.later hx
  exact ⟨⟨tv, sv, vals, bl, bc, nl, nc, h1.mono fun k hk => .inl hk⟩, fun k hk => hk.elim (h2 k) (·.2)⟩

theorem go_any (b : Nat) (F : Nat → Prop) (s : Sc) (pick : Int) (w : World) (h : SchIs w b F s) (h0 : s.pend = 0) :
    Calls Try.prog 14 #[.pointer (some ⟨b, 0, none⟩), .int .i64 pick] w fun e w' => e = .returned (.tuple #[.int .i64 (goR s pick).1, .int .i64 (goR s pick).2.1]) ∧ Turned w b F (goR s pick).2.2 w' := by
  unfold goR
  by_cases ho : s.over = true
  · rw [if_pos ho]
    exact (go_over b F s pick w h ho).mono fun e w' he => ⟨he.1, turned_self h he.2⟩
  rw [if_neg ho]
  have ho : s.over = false := by simpa using ho
  by_cases hl : leftB s.ts = false
  · rw [if_pos hl]
    exact (go_done b F s pick w h ho hl).mono fun e w' he => ⟨he.1, turned_self h he.2⟩
  rw [if_neg hl]
  have hl : leftB s.ts = true := by simpa using hl
  cases hk : (enL s s.ts.length)[(pick % ((enL s s.ts.length).length : Int)).toNat]? with
  | none =>
    have he : enL s s.ts.length = [] := by
      cases hE : enL s s.ts.length with
      | nil => rfl
      | cons x r =>
        rw [hE] at hk
        rw [List.getElem?_eq_none_iff] at hk
        have h1 := Int.emod_lt_of_pos pick (b := (((x :: r).length : Nat) : Int)) (by rw [List.length_cons]; omega)
        have h2 := Int.emod_nonneg pick (b := (((x :: r).length : Nat) : Int)) (by rw [List.length_cons]; omega)
        omega
    exact (go_stuck b F s pick w h ho hl he).mono fun e w' he => ⟨he.1, turned_self h he.2⟩
  | some i =>
    obtain ⟨hen, hiN, hkn⟩ := enL_mem hk
    obtain ⟨x, r, hx, -, -, -⟩ := enB_head hen
    dsimp only
    rw [hx]
    dsimp only
    by_cases hb : x.op = 2 ∧ s.lk x.a ≠ some (i : Int)
    · rw [if_pos hb]
      exact go_bad b F s pick w h _ _ i rfl rfl hk x r hx hb.1 hb.2
    · rw [if_neg hb]
      exact go_step b F s pick w h h0 _ _ i rfl rfl hk x r hx fun e => Classical.byContradiction fun hh => hb ⟨e, hh⟩

theorem goR_pend {s : Sc} (h : s.pend = 0) (pick : Int) : (goR s pick).2.2.pend = 0 := by
  unfold goR
  split
  · exact h
  split
  · exact h
  split
  · exact h
  split
  · exact h
  split
  · exact h
  · rfl

structure SchG (W w : World) (b : Nat) (R : Nat → Prop) (s : Sc) : Prop where
  is : ∃ F, SchIs w b F s ∧ (∀ k, F k → W.heap.size ≤ k) ∧ ∀ k, R k → ¬ F k
  lt : ∀ k, R k → k < w.heap.size
  ext : Ext W w
  p0 : s.pend = 0
/-- the blocks R stay. -/
def Kept (R : Nat → Prop) (w w' : World) : Prop := ∀ k, R k → w'.heap[k]? = w.heap[k]?

section
variable {W w w' : World} {b : Nat} {s s' : Sc} {R : Nat → Prop}

theorem SchG.later (h : SchG W w b R s) (hx : Ext w w') : SchG W w' b R s := by
  obtain ⟨⟨F, h1, h2, h3⟩, h4, h5, h6⟩ := h
  exact ⟨⟨F, h1.later hx, h2, h3⟩, fun k hk => Nat.lt_of_lt_of_le (h4 k hk) hx.size, h5.trans hx, h6⟩
theorem SchG.kept (h : SchG W w b R s) (hx : Ext w w') : Kept R w w' := fun k hk => hx.below.block k (h.lt k hk)
theorem SchG.fewer {R' : Nat → Prop} (h : SchG W w b R s) (hR : ∀ k, R' k → R k) : SchG W w b R' s := by
  obtain ⟨⟨F, h1, h2, h3⟩, h4, h5, h6⟩ := h
  exact ⟨⟨F, h1, h2, fun k hk => h3 k (hR k hk)⟩, fun k hk => h4 k (hR k hk), h5, h6⟩
/-- what changes the law's own blocks alone leaves the scheduler. -/
theorem SchG.chg {R' : Nat → Prop} (h : SchG W w b R s) (hc : Chg R w w') (hW : ∀ k, R k → W.heap.size ≤ k) (hR : ∀ k, R' k → R k ∨ w.heap.size ≤ k) (hlt : ∀ k, R' k → k < w'.heap.size) : SchG W w' b R' s := by
  obtain ⟨⟨F, h1, h2, h3⟩, h4, h5, h6⟩ := h
  refine ⟨⟨F, h1.chg hc fun k hk hr => h3 k hr hk, h2, fun k hk hf => (hR k hk).elim (fun hr => h3 k hr hf) fun hl => ?_⟩, hlt, hc.ext h5 hW, h6⟩
  have := h1.lt k hf
  omega

theorem g_new (hW : Ext W w) (hR : ∀ k, R k → k < w.heap.size) (ts : List (List St)) (v : Value) (h : TsIn w v ts) (hn : ts.length ≤ 1000) (ht : total ts ≤ 20000) (hwf : ∀ i x, x ∈ ts.getD i [] → (Lit.int .i64 x.a).wf = true ∧ (Lit.int .i64 x.b).wf = true) (h64 : ts.length ≤ 64) (h4 : total ts ≤ 10000) (hok : okTs ts = true) :
    Calls Try.prog 11 #[v] w fun r w' => ∃ b, r = .returned (.tuple #[.pointer (some ⟨b, 0, none⟩), .int .i64 0]) ∧ SchG W w' b R (sc0 ts) ∧ Ext w w' := by
  refine (new_any ts v w h hn ht hwf).mono ?_
  rintro r w' ⟨hx, hp⟩
  rw [if_neg (by omega), if_neg (by rw [hok]; simp)] at hp
  obtain ⟨b, rfl, hs⟩ := hp
  exact ⟨b, rfl, ⟨⟨_, hs, fun k hk => Nat.le_trans hW.size hk.1, fun k hk hf => by have := hR k hk; omega⟩, fun k hk => Nat.lt_of_lt_of_le (hR k hk) hx.size, hW.trans hx, rfl⟩, hx⟩
theorem g_go (h : SchG W w b R s) (pick : Int) :
    Calls Try.prog 14 #[.pointer (some ⟨b, 0, none⟩), .int .i64 pick] w fun e w' => e = .returned (.tuple #[.int .i64 (goR s pick).1, .int .i64 (goR s pick).2.1]) ∧ SchG W w' b R (goR s pick).2.2 ∧ Kept R w w' := by
  obtain ⟨⟨F, h1, h2, h3⟩, h4, h5, h6⟩ := h
  refine (go_any b F s pick w h1 h6).mono ?_
  rintro e w' ⟨rfl, hT, hC⟩
  refine ⟨rfl, ⟨⟨_, hT, fun k hk => hk.elim (h2 k) fun hh => Nat.le_trans h5.size hh.1, fun k hk hf => hf.elim (h3 k hk) fun hh => ?_⟩, fun k hk => Nat.lt_of_lt_of_le (h4 k hk) hC.size, hC.ext h5 h2, goR_pend h6 pick⟩, fun k hk => hC.block k (h4 k hk) (h3 k hk)⟩
  have := h4 k hk
  omega
theorem g_enabled (h : SchG W w b R s) : Calls Try.prog 13 #[.pointer (some ⟨b, 0, none⟩)] w fun r w' => ∃ v, r = .returned v ∧ w'.ownsRow w.heap.size 3 1 v (enL s s.ts.length).length (ints (enL s s.ts.length)) ∧ Ext w w' := by
  obtain ⟨F, h1, -⟩ := h.is
  refine (enabled_any b F s w h1).mono ?_
  rintro r w' ⟨v, rfl, hR⟩
  exact ⟨v, rfl, hR.row, hR.ext⟩
theorem g_said (h : SchG W w b R s) : Calls Try.prog 15 #[.pointer (some ⟨b, 0, none⟩)] w fun r w' => ∃ v, r = .returned v ∧ w'.ownsRow w.heap.size 3 1 v s.out.length (s.out.map (Value.int .i64)) ∧ Ext w w' := by
  obtain ⟨F, h1, -⟩ := h.is
  refine (said_any b F s w h1).mono ?_
  rintro r w' ⟨v, rfl, hR⟩
  exact ⟨v, rfl, hR.row, hR.ext⟩
theorem g_cell (h : SchG W w b R s) (c : Int) (hc : (Lit.int .i64 c).wf = true) : Calls Try.prog 17 #[.pointer (some ⟨b, 0, none⟩), .int .i64 c] w fun r w' => r = .returned (.int .i64 ((s.cl c).getD 0)) ∧ Ext w w' := by
  obtain ⟨F, h1, -⟩ := h.is
  exact cell_any b F s c hc w h1
theorem g_holder (h : SchG W w b R s) (c : Int) (hc : (Lit.int .i64 c).wf = true) : Calls Try.prog 16 #[.pointer (some ⟨b, 0, none⟩), .int .i64 c] w fun r w' => r = .returned (.tuple #[.int .i64 ((s.lk c).getD 0), .bool (s.lk c).isSome]) ∧ Ext w w' := by
  obtain ⟨F, h1, -⟩ := h.is
  exact holder_any b F s c hc w h1
theorem g_left (h : SchG W w b R s) (i : Int) (hi : (Lit.int .i64 i).wf = true) : Calls Try.prog 18 #[.pointer (some ⟨b, 0, none⟩), .int .i64 i] w fun r w' => r = .returned (.tuple #[.int .i64 (leftI s i).1, .int .i64 (leftI s i).2]) ∧ Ext w w' := by
  obtain ⟨F, h1, -⟩ := h.is
  exact leftOf_any b F s i hi w h1
end

/-! ### awake -/
def awT : List St := [⟨1, 0, 0⟩, ⟨5, 1, 0⟩, ⟨2, 0, 0⟩]
theorem aw_in (w : World) : TsIn ((w.alloc (.cells #[.int .i64 1, .int .i64 0, .int .i64 0, .int .i64 5, .int .i64 1, .int .i64 0, .int .i64 2, .int .i64 0, .int .i64 0] 25)).alloc (.cells #[.slice (some ⟨w.heap.size, 0, none⟩) 3 3, .slice (some ⟨w.heap.size, 0, none⟩) 3 3] 23)) (.slice (some ⟨w.heap.size + 1, 0, none⟩) 2 2) [awT, awT] := by
  have h0 : Blk ((w.alloc (.cells #[.int .i64 1, .int .i64 0, .int .i64 0, .int .i64 5, .int .i64 1, .int .i64 0, .int .i64 2, .int .i64 0, .int .i64 0] 25)).alloc (.cells #[.slice (some ⟨w.heap.size, 0, none⟩) 3 3, .slice (some ⟨w.heap.size, 0, none⟩) 3 3] 23)) w.heap.size 25 #[.int .i64 1, .int .i64 0, .int .i64 0, .int .i64 5, .int .i64 1, .int .i64 0, .int .i64 2, .int .i64 0, .int .i64 0] := (Blk.new w _ _).alloc _
  have h1 := Blk.new (w.alloc (.cells #[.int .i64 1, .int .i64 0, .int .i64 0, .int .i64 5, .int .i64 1, .int .i64 0, .int .i64 2, .int .i64 0, .int .i64 0] 25)) 23 #[.slice (some ⟨w.heap.size, 0, none⟩) 3 3, .slice (some ⟨w.heap.size, 0, none⟩) 3 3]
  rw [World.size_alloc] at h1
  have hr : StRow ((w.alloc (.cells #[.int .i64 1, .int .i64 0, .int .i64 0, .int .i64 5, .int .i64 1, .int .i64 0, .int .i64 2, .int .i64 0, .int .i64 0] 25)).alloc (.cells #[.slice (some ⟨w.heap.size, 0, none⟩) 3 3, .slice (some ⟨w.heap.size, 0, none⟩) 3 3] 23)) (fun k => k < ((w.alloc (.cells #[.int .i64 1, .int .i64 0, .int .i64 0, .int .i64 5, .int .i64 1, .int .i64 0, .int .i64 2, .int .i64 0, .int .i64 0] 25)).alloc (.cells #[.slice (some ⟨w.heap.size, 0, none⟩) 3 3, .slice (some ⟨w.heap.size, 0, none⟩) 3 3] 23)).heap.size) (.slice (some ⟨w.heap.size, 0, none⟩) 3 3) awT :=
    ⟨_, 3, rfl, Nat.le_refl _, by unfold maxLen; omega, .inr ⟨w.heap.size, 0, rfl, h0.lt, h0.hasT, fun j hj => by rw [Nat.zero_add, h0.cell, ← Array.getElem?_toList]; rfl⟩⟩
  refine ⟨_, 2, rfl, fun i hi => ⟨w.heap.size + 1, 0, .slice (some ⟨w.heap.size, 0, none⟩) 3 3, rfl, ?_, h1.lt, ?_⟩⟩
  · rw [h1.cell]
    match i, hi with
    | 0, _ => rfl
    | 1, _ => rfl
  · match i, hi with
    | 0, _ => exact hr
    | 1, _ => exact hr

theorem aw_wf : ∀ i x, x ∈ [awT, awT].getD i [] → (Lit.int .i64 x.a).wf = true ∧ (Lit.int .i64 x.b).wf = true := by
  intro i x hx
  match i with
  | 0 => simp [awT] at hx; rcases hx with rfl | rfl | rfl <;> exact ⟨by decide, by decide⟩
  | 1 => simp [awT] at hx; rcases hx with rfl | rfl | rfl <;> exact ⟨by decide, by decide⟩
  | i + 2 => simp at hx

def awS : Sc := (goR (sc0 [awT, awT]) 1).2.2
theorem aw_go {W w : World} {b : Nat} {R : Nat → Prop} (h : SchG W w b R (sc0 [awT, awT])) :
    Calls Try.prog 14 #[.pointer (some ⟨b, 0, none⟩), .int .i64 1] w fun e w' => e = .returned (.tuple #[.int .i64 1, .int .i64 0]) ∧ SchG W w' b R awS :=
  (g_go h 1).mono fun e w' he => ⟨he.1.trans (by kernel_rfl), he.2.1⟩
theorem aw_enabled {W w : World} {b : Nat} {R : Nat → Prop} (h : SchG W w b R awS) : Calls Try.prog 13 #[.pointer (some ⟨b, 0, none⟩)] w fun r w' => ∃ g cap, r = .returned (.slice (some ⟨g, 0, none⟩) 1 cap) ∧ g < w'.heap.size ∧ w'.cell? ⟨g, 0, none⟩ = some (.int .i64 1) ∧ Ext w w' := by
  refine (g_enabled h).mono ?_
  rintro r w' ⟨v, rfl, ho, hx⟩
  have e : enL awS awS.ts.length = [1] := by kernel_rfl
  rw [e] at ho
  obtain ⟨p, cap, rfl, h1, h2, hp⟩ := owns_form ho
  rcases hp with hp | ⟨g, rfl, h3, h4⟩
  · cases hp
  · exact ⟨g, cap, rfl, h4, ho.cellAt 0 (by decide), hx⟩
theorem aw_holder {W w : World} {b : Nat} {R : Nat → Prop} (h : SchG W w b R awS) : Calls Try.prog 16 #[.pointer (some ⟨b, 0, none⟩), .int .i64 0] w fun r w' => r = .returned (.tuple #[.int .i64 1, .bool true]) ∧ Ext w w' :=
  (g_holder h 0 (by decide)).mono fun r w' he => ⟨he.1.trans (by kernel_rfl), he.2⟩

set_option maxRecDepth 20000 in
set_option maxHeartbeats 2000000 in
theorem awake_any (W : World) : Calls Try.prog 12 #[] W fun r w' => r = .returned (.bool true) ∧ Ext W w' := by
  go_enter Try.func12, Try.ntmps12
  go_wp2_with (first
    | (go_at_call 11; refine (g_new (W := W) (R := fun _ => False) (((Ext.refl _).alloc _ _).alloc _ _) (fun _ h => h.elim) [awT, awT] _ (aw_in W) (by decide) (by decide) aw_wf (by decide) (by decide) (by decide)).mono ?_; rintro r w1 ⟨b, rfl, h, -⟩; have H1 := Lib.hid h; clear h)
    | (go_at_call 14; refine (aw_go H1.out).mono ?_; rintro r w2 ⟨rfl, h⟩; have H2 := Lib.hid h; clear h H1)
    | (go_at_call 13; refine (aw_enabled H2.out).mono ?_; rintro r w3 ⟨gl, capl, rfl, hgl, c0, hx⟩; have H3 := Lib.hid (H2.out.later hx); clear hx H2)
    | (go_at_call 16; refine (aw_holder H3.out).mono ?_; rintro r w4 ⟨rfl, hx⟩; have H4 := Lib.hid (H3.out.later hx); have c4 := (hx.cell _ _ hgl).trans c0; have hgl4 := Nat.lt_of_lt_of_le hgl hx.size; clear hx H3))
  go_ret
  exact ⟨rfl, H4.out.ext⟩

end Go.Proofs.Ytfgfbmmidijgoaa
