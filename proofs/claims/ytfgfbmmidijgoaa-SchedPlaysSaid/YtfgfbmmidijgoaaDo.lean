/- The contract of a scheduler's do. -/
import Derived.Test.YtfgfbmmidijgoaaEnab
import Derived.Test.YtfgfbmmidijgoaaStepA
namespace Go.Proofs.Ytfgfbmmidijgoaa
open Go.RowKit
set_option linter.unusedVariables false

def sLock (s : Sc) (i : Nat) (x : St) : Sc := { s with lk := updM s.lk x.a (some (i : Int)), pend := 1 }
def sFree (s : Sc) (x : St) : Sc := { s with lk := updM s.lk x.a none, pend := 1 }
def sAdd (s : Sc) (x : St) : Sc := { s with cl := updM s.cl x.a (some (IntKind.i64.wrap ((s.cl x.a).getD 0 + x.b))), pend := 1 }
def sSay (s : Sc) (x : St) : Sc := { s with out := s.out ++ [x.a], pend := 1 }

theorem wf_small {n : Nat} (h : n ≤ 1000000) : (Lit.int .i64 (n : Int)).wf = true := by
  simp [Lit.wf, IntKind.min, IntKind.max, IntKind.signed, IntKind.bits]; omega
theorem wf_wrap (x : Int) : (Lit.int .i64 (IntKind.i64.wrap x)).wf = true := by
  rw [IntKind.wrap_i64]
  simp [Lit.wf, IntKind.min, IntKind.max, IntKind.signed, IntKind.bits]; omega

section
variable {w w' : World} {b : Nat} {F : Nat → Prop} {s : Sc} {tv sv : Value} {vals : List Value} {bl bc nl nc : Nat}

/-- the world with the step's box: what is known stays. -/
theorem SchAt.later (h : SchAt w b F s tv sv vals bl bc nl nc) (hlt : ∀ k, F k → k < w.heap.size) (hx : Ext w w') : SchAt w' b F s tv sv vals bl bc nl nc :=
  h.chg hlt (Chg.of_ext hx (fun _ => False)) fun _ _ h => h

/-- only the map of locks has turned. -/
theorem SchAt.lk_turned (h : SchAt w b F s tv sv vals bl bc nl nc) (h0 : s.pend = 0) (hlt : ∀ k, F k → k < w.heap.size) {n' : Nat} {f : Int → Option Int} (hm : IMap w' bl n' f) (hc : Chg (fun k => k = bl) w w') (hn : n' ≤ nl + 1) : SchAt w' b F { s with lk := f, pend := 1 } tv sv vals bl bc n' nc := by
  have hb : ¬ b = bl := fun e => h.lk.ne_t h.blk.hasT e.symm
  refine ⟨h.blk.chg hc hb, owns_chg h.ts hc fun g hg e => h.lk.ne_t (own_hasT h.ts hg) e.symm, fun i hi => (h.rows i hi).same fun g hF hT => hc.block g (hlt g hF) fun e => h.lk.ne_t hT e.symm, hm, h.cl.chg hc fun e => h.ne e.symm, h.ne, owns_chg h.said hc fun g hg e => h.lk.ne_t (own_hasT h.said hg) e.symm, ⟨?_, Nat.le_refl _, h.fits.wide, h.fits.ok⟩, h.fb, h.fbl, h.fbc, h.ftv, h.fsv⟩
  have := h.fits.few
  show n' + nc + s.out.length + total s.ts ≤ 10000 + 1
  omega
/-- only the map of cells has turned. -/
theorem SchAt.cl_turned (h : SchAt w b F s tv sv vals bl bc nl nc) (h0 : s.pend = 0) (hlt : ∀ k, F k → k < w.heap.size) {n' : Nat} {f : Int → Option Int} (hm : IMap w' bc n' f) (hc : Chg (fun k => k = bc) w w') (hn : n' ≤ nc + 1) : SchAt w' b F { s with cl := f, pend := 1 } tv sv vals bl bc nl n' := by
  have hb : ¬ b = bc := fun e => h.cl.ne_t h.blk.hasT e.symm
  refine ⟨h.blk.chg hc hb, owns_chg h.ts hc fun g hg e => h.cl.ne_t (own_hasT h.ts hg) e.symm, fun i hi => (h.rows i hi).same fun g hF hT => hc.block g (hlt g hF) fun e => h.cl.ne_t hT e.symm, h.lk.chg hc fun e => h.ne e, hm, h.ne, owns_chg h.said hc fun g hg e => h.cl.ne_t (own_hasT h.said hg) e.symm, ⟨?_, Nat.le_refl _, h.fits.wide, h.fits.ok⟩, h.fb, h.fbl, h.fbc, h.ftv, h.fsv⟩
  have := h.fits.few
  show nl + n' + s.out.length + total s.ts ≤ 10000 + 1
  omega
/-- a step that leaves all as it was. -/
theorem SchAt.waited (h : SchAt w b F s tv sv vals bl bc nl nc) (h0 : s.pend = 0) : SchAt w b F { s with pend := 1 } tv sv vals bl bc nl nc :=
  ⟨h.blk, h.ts, h.rows, h.lk, h.cl, h.ne, h.said, ⟨by have := h.fits.few; show nl + nc + s.out.length + total s.ts ≤ 10000 + 1; omega, Nat.le_refl _, h.fits.wide, h.fits.ok⟩, h.fb, h.fbl, h.fbc, h.ftv, h.fsv⟩
theorem turned_at {w1 : World} {s' : Sc} (hlt : ∀ k, F k → k < w.heap.size) (hx : Ext w w1) (h : SchAt w' b F s' tv sv vals bl bc nl nc) (hc : Chg F w1 w') : Turned w b F s' w' := by
  have hs := Nat.le_trans hx.size hc.size
  exact ⟨⟨⟨tv, sv, vals, bl, bc, nl, nc, h.mono fun k hk => .inl hk⟩, fun k hk => hk.elim (fun hk => Nat.lt_of_lt_of_le (hlt k hk) hs) (·.2)⟩, (Chg.of_ext hx F).trans hc fun i hi => .inl hi⟩
end

set_option maxHeartbeats 800000 in
theorem do_lock (b : Nat) (F : Nat → Prop) (s : Sc) (i : Nat) (x : St) (w : World) (h : SchIs w b F s) (h0 : s.pend = 0) (hx : x.Ok) (e1 : x.op = 1) (hi : i ≤ 64) :
    Calls Try.prog 31 #[.pointer (some ⟨b, 0, none⟩), .int .i64 i, .agg #[.int .i64 x.op, .int .i64 x.a, .int .i64 x.b]] w fun r w' => r = .returned (.tuple #[]) ∧ Turned w b F (sLock s i x) w' := by
  obtain ⟨⟨tv, sv, vals, bl, bc, nl, nc, h1⟩, h2⟩ := h
  have c1 : w.cell? ⟨b, 1, none⟩ = some (.map (some bl)) := h1.blk.cell 1
  have hb := h1.blk.lt
  rw [e1]
  have hext : Ext w (w.alloc (.cells #[.int .i64 1, .int .i64 x.a, .int .i64 x.b] 25)).drew := ((Ext.refl w).alloc _ _).drew
  have hA := h1.later h2 hext
  have hfew := h1.fits.few
  obtain ⟨w2, hrun, hm, hc⟩ := hA.lk.put (by omega) hx.a (wf_small (n := i) (by omega)) 52 Try.underlying52
  have hT : Turned w b F (sLock s i x) w2 := turned_at h2 hext (hA.lk_turned h0 (fun k hk => Nat.lt_of_lt_of_le (h2 k hk) hext.size) hm hc (Nat.le_refl _)) (hc.mono fun j e => .inl (e ▸ h1.fbl))
  have HT := Lib.hid hT
  clear h1 h2 hext hA hm hc hT e1
  go_enter Try.func31, Try.ntmps31
  go_wp2
  refine wp_region_head 7 (by kernel_rfl) (by kernel_rfl) ?_
  simp only [List.take_succ_cons, List.take_zero, List.drop_succ_cons, List.drop_zero]
  repeat (go_big_quiet_step (fail))
  refine wpQuiet_nil ?_
  go_wp2_with fail
  go_end0
  exact ⟨rfl, HT.out⟩

set_option maxHeartbeats 800000 in
theorem do_free (b : Nat) (F : Nat → Prop) (s : Sc) (i : Nat) (x : St) (w : World) (h : SchIs w b F s) (h0 : s.pend = 0) (hx : x.Ok) (e1 : x.op = 2) (hi : i ≤ 64) (hl : s.lk x.a = some (i : Int)) :
    Calls Try.prog 31 #[.pointer (some ⟨b, 0, none⟩), .int .i64 i, .agg #[.int .i64 x.op, .int .i64 x.a, .int .i64 x.b]] w fun r w' => r = .returned (.tuple #[]) ∧ Turned w b F (sFree s x) w' := by
  obtain ⟨⟨tv, sv, vals, bl, bc, nl, nc, h1⟩, h2⟩ := h
  have c1 : w.cell? ⟨b, 1, none⟩ = some (.map (some bl)) := h1.blk.cell 1
  have hb := h1.blk.lt
  rw [e1]
  have hext : ∀ n, Ext w ((w.alloc (.cells #[.int .i64 2, .int .i64 x.a, .int .i64 x.b] 25)).drewN n) := fun n => ((Ext.refl w).alloc _ _).drewN' n
  have HL := fun n => (h1.lk.later (hext n)).look_ok hx.a 52 Try.underlying52
  rw [hl] at HL
  have hfew := h1.fits.few
  have HD := fun n => (h1.later h2 (hext n)).lk.del hx.a 52 Try.underlying52 0
  have HQ := Lib.hid (fun (n : Nat) (w2 : World) (hm : IMap w2 bl nl (updM s.lk x.a none)) (hc : Chg (fun k => k = bl) ((w.alloc (.cells #[.int .i64 2, .int .i64 x.a, .int .i64 x.b] 25)).drewN n) w2) => show Turned w b F (sFree s x) w2 from
    turned_at h2 (hext n) ((h1.later h2 (hext n)).lk_turned h0 (fun k hk => Nat.lt_of_lt_of_le (h2 k hk) (hext n).size) hm hc (Nat.le_succ _)) (hc.mono fun j e => .inl (e ▸ h1.fbl)))
  have HD := Lib.hid HD
  clear h1 h2 hext e1 hl
  go_enter Try.func31, Try.ntmps31
  go_wp2
  go_quiet (fail)
  go_wp2
  obtain ⟨w2, hrun, hm, hc⟩ := HD.out (nq + 1)
  have HT := Lib.hid (HQ.out _ w2 hm hc)
  clear hm hc
  refine wp_region_head 6 (by kernel_rfl) (by kernel_rfl) ?_
  simp only [List.take_succ_cons, List.take_zero, List.drop_succ_cons, List.drop_zero]
  repeat (go_big_quiet_step (fail))
  refine wpQuiet_nil ?_
  go_wp2_with fail
  go_end0
  exact ⟨rfl, HT.out⟩

set_option maxHeartbeats 800000 in
theorem do_bad (b : Nat) (F : Nat → Prop) (s : Sc) (i : Nat) (x : St) (w : World) (h : SchIs w b F s) (hx : x.Ok) (e1 : x.op = 2) (hi : i ≤ 64) (hl : s.lk x.a ≠ some (i : Int)) :
    Calls Try.prog 31 #[.pointer (some ⟨b, 0, none⟩), .int .i64 i, .agg #[.int .i64 x.op, .int .i64 x.a, .int .i64 x.b]] w fun r w' => r = .panicked [{ v := .iface 58 (.agg #[]), recovered := false }] ∧ Ext w w' := by
  obtain ⟨⟨tv, sv, vals, bl, bc, nl, nc, h1⟩, h2⟩ := h
  have c1 : w.cell? ⟨b, 1, none⟩ = some (.map (some bl)) := h1.blk.cell 1
  have hb := h1.blk.lt
  rw [e1]
  have hext : ∀ n, Ext w ((w.alloc (.cells #[.int .i64 2, .int .i64 x.a, .int .i64 x.b] 25)).drewN n) := fun n => ((Ext.refl w).alloc _ _).drewN' n
  have HL := fun n => (h1.lk.later (hext n)).look_ok hx.a 52 Try.underlying52
  clear h1 h2 hext e1
  generalize s.lk x.a = l at *
  cases l with
  | none =>
    clear hl
    go_enter Try.func31, Try.ntmps31
    go_wp2
    go_quiet (fail)
    go_wp2
    exact ⟨rfl, rfl, ((Ext.refl _).alloc _ _).drewN' _⟩
  | some j =>
    have k1 : (j != (i : Int)) = true := by simpa using fun e => hl (by rw [e])
    have k2 : (j == (i : Int)) = false := by simpa using fun e => hl (by rw [e])
    clear hl
    go_enter Try.func31, Try.ntmps31
    go_wp2
    go_quiet (fail)
    go_wp2
    exact ⟨rfl, rfl, ((Ext.refl _).alloc _ _).drewN' _⟩

set_option maxHeartbeats 800000 in
theorem do_add (b : Nat) (F : Nat → Prop) (s : Sc) (i : Nat) (x : St) (w : World) (h : SchIs w b F s) (h0 : s.pend = 0) (hx : x.Ok) (e1 : x.op = 3) (hi : i ≤ 64) :
    Calls Try.prog 31 #[.pointer (some ⟨b, 0, none⟩), .int .i64 i, .agg #[.int .i64 x.op, .int .i64 x.a, .int .i64 x.b]] w fun r w' => r = .returned (.tuple #[]) ∧ Turned w b F (sAdd s x) w' := by
  obtain ⟨⟨tv, sv, vals, bl, bc, nl, nc, h1⟩, h2⟩ := h
  have c2 : w.cell? ⟨b, 2, none⟩ = some (.map (some bc)) := h1.blk.cell 2
  have hb := h1.blk.lt
  rw [e1]
  have hext : Ext w (w.alloc (.cells #[.int .i64 3, .int .i64 x.a, .int .i64 x.b] 25)).drew := ((Ext.refl w).alloc _ _).drew
  have hA := h1.later h2 hext
  have hfew := h1.fits.few
  have HL := (hA.cl.look hx.a 52 Try.underlying52).1
  obtain ⟨w2, hrun, hm, hc⟩ := hA.cl.put (by omega) hx.a (wf_wrap ((s.cl x.a).getD 0 + x.b)) 52 Try.underlying52
  have hT : Turned w b F (sAdd s x) w2 := turned_at h2 hext (hA.cl_turned h0 (fun k hk => Nat.lt_of_lt_of_le (h2 k hk) hext.size) hm hc (Nat.le_refl _)) (hc.mono fun j e => .inl (e ▸ h1.fbc))
  have HT := Lib.hid hT
  clear h1 h2 hext hA hm hc hT e1
  generalize (s.cl x.a).getD 0 = c at *
  have ew : IntKind.i64.wrap (c + x.b) = wrap64 (c + x.b) := by rw [IntKind.wrap_i64]; unfold wrap64; rfl
  rw [ew] at hrun
  clear ew
  go_enter Try.func31, Try.ntmps31
  go_wp2
  refine wp_region_head 10 (by kernel_rfl) (by kernel_rfl) ?_
  simp only [List.take_succ_cons, List.take_zero, List.drop_succ_cons, List.drop_zero]
  repeat (go_big_quiet_step (fail))
  refine wpQuiet_nil ?_
  go_wp2_with fail
  go_end0
  exact ⟨rfl, HT.out⟩

set_option maxHeartbeats 800000 in
theorem do_wait (b : Nat) (F : Nat → Prop) (s : Sc) (i : Nat) (x : St) (w : World) (h : SchIs w b F s) (h0 : s.pend = 0) (hx : x.Ok) (e1 : x.op = 4) (hi : i ≤ 64) :
    Calls Try.prog 31 #[.pointer (some ⟨b, 0, none⟩), .int .i64 i, .agg #[.int .i64 x.op, .int .i64 x.a, .int .i64 x.b]] w fun r w' => r = .returned (.tuple #[]) ∧ Turned w b F { s with pend := 1 } w' := by
  obtain ⟨⟨tv, sv, vals, bl, bc, nl, nc, h1⟩, h2⟩ := h
  rw [e1]
  have hext : Ext w (w.alloc (.cells #[.int .i64 4, .int .i64 x.a, .int .i64 x.b] 25)) := (Ext.refl w).alloc _ _
  have HT := Lib.hid (turned_at h2 hext ((h1.later h2 hext).waited h0) (Chg.refl F _))
  clear h1 h2 hext e1
  go_enter Try.func31, Try.ntmps31
  go_wp2
  go_end0
  exact ⟨rfl, HT.out⟩

/-- a word is said: the row has grown, and lies in the span again. -/
theorem SchAt.said_grown {w w1 : World} {b : Nat} {F : Nat → Prop} {s : Sc} {tv sv : Value} {vals : List Value} {bl bc nl nc : Nat} (h : SchAt w b F s tv sv vals bl bc nl nc) (h0 : s.pend = 0) (hlt : ∀ k, F k → k < w.heap.size) {z : Int} {sv' : Value}
    (hown : w1.ownsRow (b + 1) 3 1 sv' (s.out.length + 1) (s.out.map (Value.int .i64) ++ [.int .i64 z])) (hc : Chg (fun i => sv.ownBlock = some i) w w1) (hat : ∀ g, sv'.ownBlock = some g → sv.ownBlock = some g ∨ (w.heap.size ≤ g ∧ g < w1.heap.size)) :
    Turned w b F { s with out := s.out ++ [z], pend := 1 } (w1.setCell ⟨b, 3, none⟩ sv') := by
  have hbs : ∀ g, sv.ownBlock = some g → HasT w g 3 := fun g hg => own_hasT h.said hg
  have hnb : ¬ sv.ownBlock = some b := fun e => (hbs b e).ne h.blk.hasT (by decide) rfl
  have hblk := (h.blk.chg hc hnb).set_ 3 sv'
  have hc2 : Chg (fun i => i = b ∨ sv.ownBlock = some i) w (w1.setCell ⟨b, 3, none⟩ sv') := (hc.mono fun i hi => .inl (.inr hi)).setCell (p := ⟨b, 3, none⟩) (.inl (.inl rfl)) _
  have hcw : Chg (fun i => i = b) w1 (w1.setCell ⟨b, 3, none⟩ sv') := (Chg.refl (fun i => i = b) w1).setCell (p := ⟨b, 3, none⟩) (.inl rfl) _
  have hsz : (w1.setCell ⟨b, 3, none⟩ sv').heap.size = w1.heap.size := World.size_setCell _ _ _
  have hno : ∀ g t, HasT w g t → t ≠ 3 → g ≠ b → ¬ (g = b ∨ sv.ownBlock = some g) := fun g t hT ht hb => by
    rintro (e | e)
    · exact hb e
    · exact (hbs g e).ne hT (fun x => ht x.symm) rfl
  refine ⟨⟨⟨tv, sv', vals, bl, bc, nl, nc, ⟨hblk, owns_chg h.ts hc2 fun g hg => hno g _ (own_hasT h.ts hg) (by decide) (by have := (owns_lt h.ts g hg).1; omega), fun i hi => ((h.rows i hi).same fun g hF hT => hc2.block g (hlt g hF) (hno g _ hT (by decide) (hT.ne h.blk.hasT (by decide)))).mono fun k hk => .inl hk, h.lk.chg hc2 ?_, h.cl.chg hc2 ?_, h.ne, ?_, ⟨?_, Nat.le_refl _, h.fits.wide, h.fits.ok⟩, .inl h.fb, .inl h.fbl, .inl h.fbc, fun g hg => .inl (h.ftv g hg), fun g hg => ?_⟩⟩, fun k hk => ?_⟩, hc2.mono fun i hi => ?_⟩
  · rintro (e | e)
    · exact h.lk.ne_t h.blk.hasT e
    · exact h.lk.ne_t (hbs _ e) rfl
  · rintro (e | e)
    · exact h.cl.ne_t h.blk.hasT e
    · exact h.cl.ne_t (hbs _ e) rfl
  · show World.ownsRow _ (b + 1) 3 1 sv' (s.out ++ [z]).length ((s.out ++ [z]).map (Value.int .i64))
    rw [List.length_append, List.map_append]
    exact owns_chg hown hcw fun g hg e => by have := (owns_lt hown g hg).1; omega
  · have := h.fits.few
    show nl + nc + (s.out ++ [z]).length + total s.ts ≤ 10000 + 1
    rw [List.length_append]
    simp only [List.length_cons, List.length_nil]
    omega
  · rcases hat g hg with e | e
    · exact .inl (h.fsv g e)
    · exact .inr (by rw [hsz]; exact e)
  · rcases hk with hk | hk
    · have := hlt k hk; have := hc.size; rw [hsz]; omega
    · exact hk.2
  · rcases hi with e | e
    · exact .inl (e ▸ h.fb)
    · exact .inl (h.fsv i e)

theorem Turned.ext {w W w' : World} {b : Nat} {F : Nat → Prop} {s' : Sc} (h : Turned W b F s' w') (hx : Ext w W) : Turned w b F s' w' := by
  obtain ⟨⟨⟨tv, sv, vals, bl, bc, nl, nc, h1⟩, h2⟩, h3⟩ := h
  refine ⟨⟨⟨tv, sv, vals, bl, bc, nl, nc, h1.mono fun k hk => hk.imp id fun h => ⟨Nat.le_trans hx.size h.1, h.2⟩⟩, fun k hk => hk.elim (fun hk => h2 k (.inl hk)) (·.2)⟩, (Chg.of_ext hx F).trans h3 fun i hi => .inl hi⟩

theorem SchAt.said_fin {w W w1 : World} {b : Nat} {F : Nat → Prop} {s : Sc} {tv sv : Value} {vals : List Value} {bl bc nl nc : Nat} (h : SchAt w b F s tv sv vals bl bc nl nc) (h0 : s.pend = 0) (hlt : ∀ k, F k → k < w.heap.size) (hx : Ext w W) {z : Int} {sv' : Value}
    (hown : w1.ownsRow (b + 1) 3 1 sv' (s.out.length + 1) (s.out.map (Value.int .i64) ++ [.int .i64 z])) (hc : Chg (fun i => sv.ownBlock = some i) W w1) (hat : sv'.ownBlock = sv.ownBlock ∨ sv'.ownBlock = some W.heap.size) :
    Turned w b F { s with out := s.out ++ [z], pend := 1 } (w1.setCell ⟨b, 3, none⟩ sv') := by
  refine Turned.ext ((h.later hlt hx).said_grown h0 (fun k hk => Nat.lt_of_lt_of_le (hlt k hk) hx.size) hown hc fun g hg => ?_) hx
  rcases hat with e | e
  · exact .inl (e ▸ hg)
  · rw [e] at hg
    injection hg with hg
    have := (owns_lt hown g (by rw [e, hg])).2
    exact .inr ⟨by omega, this⟩
theorem SchAt.said_keep {w W w1 : World} {b : Nat} {F : Nat → Prop} {s : Sc} {tv sv : Value} {vals : List Value} {bl bc nl nc : Nat} (h : SchAt w b F s tv sv vals bl bc nl nc) (hx : Ext w W) (hc : Chg (fun i => sv.ownBlock = some i) W w1) :
    w1.cell? ⟨b, 3, none⟩ = some sv ∧ w1.frozen? ⟨b, 3, none⟩ = false := by
  have hnb : ¬ sv.ownBlock = some b := fun e => (own_hasT h.said e).ne h.blk.hasT (by decide) rfl
  have := (h.blk.later hx).chg hc hnb
  exact ⟨this.cell 3, this.frozen 3⟩

set_option maxHeartbeats 1600000 in
theorem do_say (b : Nat) (F : Nat → Prop) (s : Sc) (i : Nat) (x : St) (w : World) (h : SchIs w b F s) (h0 : s.pend = 0) (hx : x.Ok) (e1 : x.op = 5) (hi : i ≤ 64) :
    Calls Try.prog 31 #[.pointer (some ⟨b, 0, none⟩), .int .i64 i, .agg #[.int .i64 x.op, .int .i64 x.a, .int .i64 x.b]] w fun r w' => r = .returned (.tuple #[]) ∧ Turned w b F (sSay s x) w' := by
  obtain ⟨i0, hi0, hz0, hz1, hz2⟩ := info_parts int_info
  obtain ⟨⟨tv, sv, vals, bl, bc, nl, nc, h1⟩, h2⟩ := h
  have c3 : w.cell? ⟨b, 3, none⟩ = some sv := h1.blk.cell 3
  have fb := h1.blk.frozen
  have hb := h1.blk.lt
  rw [e1]
  have hext : Ext w (w.alloc (.cells #[.int .i64 5, .int .i64 x.a, .int .i64 x.b] 25)).drew := ((Ext.refl w).alloc _ _).drew
  have hfew := h1.fits.few
  have H1 := Lib.hid h1
  have H2 := Lib.hid h2
  clear h1 h2 hext e1
  go_enter Try.func31, Try.ntmps31
  go_wp2
  go_region_law ((refine step_append_all (b + 1) rfl (.tmp 64) (.tmp 67) 31 rfl 3 i0 _ 1 8 Try.underlying31 hi0 hz0 hz1 hz2 rfl (by decide) sv _ _ (by simp [Act.eval]) (owns_later H1.out.said ((((Ext.refl w).alloc _ _).alloc _ _).drew).below) (.slice (some ⟨w.heap.size + 1, 0, none⟩) 1 1) 1 [.int .i64 x.a] (by simp [Act.eval]) (src_blk (t := 3) (cs := #[.int .i64 x.a]) (by have h := Blk.new (w.alloc (.cells #[.int .i64 5, .int .i64 x.a, .int .i64 x.b] 25)) 3 #[.int .i64 x.a]; rw [World.size_alloc] at h; exact h) rfl) (by intro u hu; simp at hu; subst hu; rfl) (by unfold maxLen; omega) (by omega) (by simp; omega) ?_; intro v' w1 hown hchg hat; have hX : Ext w ((w.alloc (.cells #[.int .i64 5, .int .i64 x.a, .int .i64 x.b] 25)).alloc (.cells #[.int .i64 x.a] 3)).drew := (((Ext.refl w).alloc _ _).alloc _ _).drew; have HT := Lib.hid (SchAt.said_fin H1.out h0 H2.out hX hown hchg hat); obtain ⟨c3', fb'⟩ := SchAt.said_keep H1.out hX hchg; obtain ⟨p', cap', rfl, -, -, -⟩ := owns_form hown; clear hown hchg hat hX))
  all_goals (go_wp2; go_end0; exact ⟨rfl, HT.out⟩)

end Go.Proofs.Ytfgfbmmidijgoaa
