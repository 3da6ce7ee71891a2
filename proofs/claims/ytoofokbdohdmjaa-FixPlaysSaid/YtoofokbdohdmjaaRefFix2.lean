/- The contracts of the reference's records: Take of a new one, Give; as their users see them. -/
import Derived.Test.YtoofokbdohdmjaaRefFix
namespace Go.Proofs.Ytoofokbdohdmjaa
open Go.RowKit
set_option linter.unusedVariables false

theorem own_far_set {w : World} {v u : Value} {g o b : Nat} (hn : v.ownBlock ≠ some g) (hb : v.ownBlock = some b) : (w.setCell ⟨g, o, none⟩ u).heap[b]? = w.heap[b]? :=
  Below.heap_setCell _ _ _ _ (fun e => hn (by rw [← show b = g from e]; exact hb))

section
variable {w : World} {B g : Nat} {vo vb : Value} {size : Int} {O : List Bool} {S : List Nat}

/-- the memory behind Take of a new one, from where the row is longer. -/
theorem RefAt.added {w0 w1 : World} {v1 : Value} (h : RefAt w B g vo vb size O []) (hf : O.length < 100000) (hw0 : w0 = (w.setCell ⟨g, 1, none⟩ (.int .i64 ((O.length : Int) + 1))).alloc (.cells #[.bool true] 4))
    (hr : w1.ownsRow B 4 1 v1 (O.length + 1) (O.map .bool ++ [.bool true])) (hc : Chg (fun b => vo.ownBlock = some b) w0 w1) :
    RefAt (w1.setCell ⟨g, 2, none⟩ v1) B g v1 vb size (O ++ [true]) [] ∧ Blk w1 g 63 #[.int .i64 size, .int .i64 ((O.length : Int) + 1), vo, vb] := by
  subst hw0
  have b1 : Blk w1 g 63 #[.int .i64 size, .int .i64 ((O.length : Int) + 1), vo, vb] := ((h.hd.set_ 1 (.int .i64 ((O.length : Int) + 1))).alloc (.cells #[.bool true] 4)).chg hc h.out_ne
  have hb1 : w1.ownsRow B 3 1 vb 0 [] := by
    have hb := h.back
    have h1 := owns_blocks (w1 := w.setCell ⟨g, 1, none⟩ (.int .i64 ((O.length : Int) + 1))) hb (fun b hb' => own_far_set h.back_ne hb')
    exact owns_chg (owns_later h1 ((Ext.refl _).alloc #[.bool true] 4).below) hc (fun b hb' ho => h.rows b ho hb')
  have n1 : v1.ownBlock ≠ some g := own_blk_ne hr b1 (by decide)
  have n2 : vb.ownBlock ≠ some g := h.back_ne
  refine ⟨⟨?_, ?_, ?_, h.base, fun i hi => by simp at hi, by simp; omega⟩, b1⟩
  · have := b1.set_ 2 v1
    have e : (((O ++ [true]).length : Nat) : Int) = (O.length : Int) + 1 := by simp
    rw [e]; exact this
  · rw [List.length_append, List.map_append]
    exact owns_blocks hr fun b hb => own_far_set n1 hb
  · exact owns_blocks hb1 fun b hb => own_far_set n2 hb

theorem rtake_new (h : RefAt w B g vo vb size O []) (hB : B ≤ w.heap.size) (hf : O.length < 100000) : Calls Try.prog 20 #[.pointer (some ⟨g, 0, none⟩)] w fun e w' =>
    e = .returned (.int .i64 ((O.length : Int) + 1)) ∧ ∃ vo', RefAt w' B g vo' vb size (O ++ [true]) [] ∧ (vo'.ownBlock = vo.ownBlock ∨ vo'.ownBlock = some (w.heap.size + 1)) ∧ Chg (RefF g vo vb) w w' := by
  obtain ⟨i0, hi, hz0, hz1, hz2⟩ := info_parts infoBool
  have HH := Lib.hid h
  have c1 := h.hd.cell 1
  have c2 := h.hd.cell 2
  have c3 := h.hd.cell 3
  simp only [List.getElem?_toArray, List.getElem?_cons_succ, List.getElem?_cons_zero] at c1 c2 c3
  have hrow1 := owns_blocks (w1 := w.setCell ⟨g, 1, none⟩ (.int .i64 ((O.length : Int) + 1))) h.out (fun b hb' => own_far_set h.out_ne hb')
  have HRW := Lib.hid hrow1
  obtain ⟨p', cb, hv', hlc', hcm', -⟩ := owns_form h.back
  obtain ⟨p, co, hv, hlc, hcm, -⟩ := owns_form h.out
  have fg := h.hd.frozen
  subst hv hv'
  rw [List.length_nil] at c3
  clear h hrow1
  go_enter Try.func20, Try.ntmps20
  go_wp2_with (first | (at_builtin; refine wpList_append_all B _ rfl (.tmp 50) (.tmp 51) 61 rfl 4 i0 _ 1 1 Try.underlying61 hi hz0 hz1 hz2 rfl (by decide) _ _ _ (by rfl) (by exact owns_later HRW.out ((Ext.refl _).alloc _ _).below) (.slice (some ⟨w.heap.size, 0, none⟩) 1 1) 1 [.bool true] (by rfl) (by have := src_one (w.setCell ⟨g, 1, none⟩ (.int .i64 ((O.length : Int) + 1))) [.bool true] 4 1 rfl; rw [World.size_setCell] at this; exact this) (by intro u hu; simp at hu; subst hu; rfl) (by unfold maxLen; omega) (by omega) (by simp; omega) ?_) | fail)
  intro v1 w1 hown hchg hat
  obtain ⟨hN, b1⟩ := HH.out.added hf rfl hown hchg
  have HN := Lib.hid hN
  have HAT := Lib.hid hat
  have HC := Lib.hid ((((Chg.refl (RefF g (.slice p O.length co) (.slice p' 0 cb)) w).setCell (p := ⟨g, 1, none⟩) (.inl (.inl rfl)) (.int .i64 ((O.length : Int) + 1))).alloc #[.bool true] 4).trans hchg (fun i hi => .inl (.inr (.inl hi))))
  have d1 := b1.cell 1
  have d2 := b1.cell 2
  simp only [List.getElem?_toArray, List.getElem?_cons_succ, List.getElem?_cons_zero] at d1 d2
  have fg1 := b1.frozen
  obtain ⟨p1, cap1, hv1, -, -, -⟩ := owns_form hown
  subst hv1
  clear b1 hown hchg hat hN c1 c2 c3 fg
  go_wp2_with fail
  go_ret
  refine ⟨rfl, _, HN.out, HAT.out, ?_⟩
  exact HC.out.setCell (p := ⟨g, 2, none⟩) (.inl (.inl rfl)) _

theorem rgive_no (d0 : Int) (hid : (Lit.int .i64 d0).wf = true) (h : RefAt w B g vo vb size O S) (hl : liveB O d0 = false) : Calls Try.prog 21 #[.pointer (some ⟨g, 0, none⟩), .int .i64 d0] w fun r w' => r = .returned (.int .i64 31) ∧ w = w' := by
  have HL := rlive_any d0 hid h
  rw [hl] at HL
  have H := Lib.hid HL
  clear h hl HL
  go_enter Try.func21, Try.ntmps21
  go_wp2_with (go_at_call 22; refine H.out.mono ?_; rintro e w1 ⟨rfl, rfl⟩)
  go_ret
  exact ⟨rfl, rfl⟩

theorem rlive_parts {d0 : Int} (hl : liveB O d0 = true) : 1 ≤ d0 ∧ d0 ≤ O.length ∧ d0.toNat - 1 < O.length ∧ O.getD (d0.toNat - 1) false = true := by
  unfold liveB at hl
  simp only [Bool.and_eq_true, decide_eq_true_eq] at hl
  exact ⟨hl.1.1, hl.1.2, by omega, hl.2⟩

/-- the memory behind Give. -/
theorem RefAt.given {i : Nat} {w0 w1 : World} {v1 : Value} {go co : Nat} (h : RefAt w B g (.slice (some ⟨go, 0, none⟩) O.length co) vb size O S) (hi : i < O.length) {d0 : Int} (hid : d0 = (i : Int) + 1)
    (hw0 : w0 = (w.setCell ⟨go, i, none⟩ (.bool false)).alloc (.cells #[.int .i64 d0] 3))
    (hr : w1.ownsRow B 3 1 v1 (S.length + 1) (rowOf S ++ [.int .i64 d0])) (hc : Chg (fun b => vb.ownBlock = some b) w0 w1) :
    RefAt (w1.setCell ⟨g, 3, none⟩ v1) B g (.slice (some ⟨go, 0, none⟩) O.length co) v1 size (O.set i false) (i :: S) ∧ Blk w1 g 63 #[.int .i64 size, .int .i64 O.length, .slice (some ⟨go, 0, none⟩) O.length co, vb] := by
  subst hw0
  have hgo : g ≠ go := fun e => h.out_ne (by rw [e]; rfl)
  have b1 : Blk w1 g 63 #[.int .i64 size, .int .i64 O.length, .slice (some ⟨go, 0, none⟩) O.length co, vb] :=
    ((h.hd.far (p := ⟨go, i, none⟩) hgo (.bool false)).alloc (.cells #[.int .i64 d0] 3)).chg hc h.back_ne
  have ho1 : w1.ownsRow B 4 1 (.slice (some ⟨go, 0, none⟩) O.length co) O.length ((O.set i false).map .bool) := by
    have h1 := (h.out.stored i (.bool false)).1
    rw [map_set_bool] at h1
    exact owns_chg (owns_later h1 ((Ext.refl _).alloc #[.int .i64 d0] 3).below) hc (fun b hb ho => h.rows b hb ho)
  have n1 : v1.ownBlock ≠ some g := own_blk_ne hr b1 (by decide)
  refine ⟨⟨?_, ?_, ?_, h.base, ?_, by rw [List.length_set]; exact h.few⟩, b1⟩
  · have := b1.set_ 3 v1
    rw [List.length_set]; exact this
  · rw [List.length_set]
    exact owns_blocks ho1 fun b hb => Below.heap_setCell _ _ _ _ (fun e => by
      have : go = b := by simpa [Value.ownBlock] using hb
      exact hgo ((show b = g from e).symm.trans this.symm))
  · have e : rowOf (i :: S) = rowOf S ++ [.int .i64 d0] := by rw [hid]; simp [rowOf]
    rw [e]
    exact owns_blocks hr fun b hb => own_far_set n1 hb
  · intro j hj
    rw [List.length_set]
    rcases List.mem_cons.1 hj with rfl | hj
    · exact hi
    · exact h.mem j hj

theorem rgive_yes (d0 : Int) (hid : (Lit.int .i64 d0).wf = true) (h : RefAt w B g vo vb size O S) (hl : liveB O d0 = true) (hB : B ≤ w.heap.size) (hS : S.length ≤ 100000) : Calls Try.prog 21 #[.pointer (some ⟨g, 0, none⟩), .int .i64 d0] w fun r w' =>
    r = .returned (.int .i64 0) ∧ ∃ vb', RefAt w' B g vo vb' size (O.set (d0.toNat - 1) false) ((d0.toNat - 1) :: S) ∧ (vb'.ownBlock = vb.ownBlock ∨ vb'.ownBlock = some (w.heap.size + 1)) ∧ Chg (RefF g vo vb) w w' := by
  obtain ⟨i0, hi0, hz0, hz1, hz2⟩ := info_parts infoInt
  have HL := rlive_any d0 hid h
  rw [hl] at HL
  have H := Lib.hid HL
  obtain ⟨h1, h2, hi, ho⟩ := rlive_parts hl
  have HID := Lib.hid (show d0 = ((d0.toNat - 1 : Nat) : Int) + 1 by omega)
  have hfew := h.few
  have HH := Lib.hid h
  have c2 := h.hd.cell 2
  have c3 := h.hd.cell 3
  simp only [List.getElem?_toArray, List.getElem?_cons_succ, List.getElem?_cons_zero] at c2 c3
  obtain ⟨p', cb, hv', hlc', hcm', -⟩ := owns_form h.back
  obtain ⟨p, co, hv, hlc, hcm, hg⟩ := owns_form h.out
  obtain ⟨go, rfl, -, -⟩ := hg.resolve_left (by omega)
  subst hv hv'
  have e2 := h.out.cellAt (d0.toNat - 1) (by omega)
  have e3 : (O.map Value.bool)[d0.toNat - 1]? = some (.bool (O.getD (d0.toNat - 1) false)) := by simp [List.getD, hi]
  rw [e3, ho] at e2
  have fg := h.hd.frozen
  have fo := fun j => h.out.frozenAt (g := go) j
  have hne : go ≠ g := fun e => h.out_ne (by rw [← e]; rfl)
  have hne' : g ≠ go := fun e => hne e.symm
  have HRW := Lib.hid (owns_blocks (w1 := w.setCell ⟨go, d0.toNat - 1, none⟩ (.bool false)) h.back (fun b hb' => Below.heap_setCell _ _ _ _ (fun e => h.rows go rfl (by rw [← show b = go from e]; exact hb'))))
  have HI := Lib.hid hi
  clear h hl HL ho e3 hg hi
  go_enter Try.func21, Try.ntmps21
  go_wp2_with fail
  refine H.out.mono ?_
  rintro e w1 ⟨rfl, rfl⟩
  go_wp2_with (first | (at_builtin; refine wpList_append_all B _ rfl (.tmp 20) (.tmp 22) 22 rfl 3 i0 _ 1 8 Try.underlying22 hi0 hz0 hz1 hz2 rfl (by decide) _ _ _ (by rfl) (by exact owns_later HRW.out ((Ext.refl _).alloc _ _).below) (.slice (some ⟨w.heap.size, 0, none⟩) 1 1) 1 [.int .i64 d0] (by rfl) (by have := src_one (w.setCell ⟨go, d0.toNat - 1, none⟩ (.bool false)) [.int .i64 d0] 3 1 rfl; rw [World.size_setCell] at this; exact this) (by intro u hu; simp at hu; subst hu; rfl) (by unfold maxLen; omega) (by omega) (by simp; omega) ?_) | fail)
  intro v1 w1 hown hchg hat
  obtain ⟨hN, b1⟩ := HH.out.given HI.out HID.out rfl hown hchg
  have HN := Lib.hid hN
  have HAT := Lib.hid hat
  have HC := Lib.hid ((((Chg.refl (RefF g (.slice (some ⟨go, 0, none⟩) O.length co) (.slice p' S.length cb)) w).setCell (p := ⟨go, d0.toNat - 1, none⟩) (.inl (.inr (.inl rfl))) (.bool false)).alloc #[.int .i64 d0] 3).trans hchg (fun i hi => .inl (.inr (.inr hi))))
  have d3 := b1.cell 3
  simp only [List.getElem?_toArray, List.getElem?_cons_succ, List.getElem?_cons_zero] at d3
  have fg1 := b1.frozen
  obtain ⟨p1, cap1, hv1, -, -, -⟩ := owns_form hown
  subst hv1
  clear b1 hown hchg hat hN c2 c3 fg fo e2
  go_wp2_with fail
  go_ret
  refine ⟨rfl, _, HN.out, HAT.out, ?_⟩
  exact HC.out.setCell (p := ⟨g, 3, none⟩) (.inl (.inl rfl)) _
end

/-! ### as their users see them -/
def RefM (w : World) (B g : Nat) (F : Nat → Prop) (size : Int) (O : List Bool) (S : List Nat) : Prop := ∃ vo vb, RefAt w B g vo vb size O S ∧ F = RefF g vo vb

section
variable {w w' : World} {B g : Nat} {F : Nat → Prop} {size : Int} {O : List Bool} {S : List Nat}

theorem RefAt.keep {vo vb : Value} {G : Nat → Prop} (h : RefAt w B g vo vb size O S) (hc : Chg G w w') (hF : ∀ b, RefF g vo vb b → ¬ G b) : RefAt w' B g vo vb size O S :=
  ⟨h.hd.chg hc (hF _ (.inl rfl)), owns_chg h.out hc (fun b hb => hF _ (.inr (.inl hb))), owns_chg h.back hc (fun b hb => hF _ (.inr (.inr hb))), h.base, h.mem, h.few⟩
theorem RefM.keep {G : Nat → Prop} (h : RefM w B g F size O S) (hc : Chg G w w') (hF : ∀ b, F b → ¬ G b) : RefM w' B g F size O S := by
  obtain ⟨vo, vb, h, rfl⟩ := h
  exact ⟨vo, vb, h.keep hc hF, rfl⟩
theorem RefM.later (h : RefM w B g F size O S) (hx : Ext w w') : RefM w' B g F size O S := h.keep (Chg.of_ext hx (fun _ => False)) (fun _ _ h => h)
theorem RefM.over (h : RefM w B g F size O S) : ∀ b, F b → B ≤ b := by
  obtain ⟨vo, vb, h, rfl⟩ := h
  rintro b (rfl | hb | hb)
  · exact h.base
  · exact (owns_lt h.out b hb).1
  · exact (owns_lt h.back b hb).1
theorem RefM.not {t : TypeId} {b : Nat} {cs : Array Value} (h : RefM w B g F size O S) (hb : Blk w b t cs) (h1 : t ≠ 63) (h2 : t ≠ 4) (h3 : t ≠ 3) : ¬ F b := by
  obtain ⟨vo, vb, h, rfl⟩ := h
  rintro (rfl | hb' | hb')
  · exact h1 (hb.same h.hd).2
  · exact own_blk_ne h.out hb (fun e => h2 e.symm) hb'
  · exact own_blk_ne h.back hb (fun e => h3 e.symm) hb'
/-- the program's records and the reference's share no block. -/
theorem ref_apart {B' g' : Nat} {F' : Nat → Prop} {size' : Int} {O' : List Bool} {S' : List Nat} (h : RefM w B g F size O S) (h' : FixM w B' g' F' size' O' S') : ∀ b, F b → ¬ F' b := by
  obtain ⟨vo, vb, h, rfl⟩ := h
  rintro b (rfl | hb | hb)
  · exact h'.not h.hd (by decide) (by decide) (by decide)
  · exact h'.not_row h.out (by decide) (by decide) (by decide) b hb
  · exact h'.not_row h.back (by decide) (by decide) (by decide) b hb

theorem refTake (h : RefM w B g F size O S) (hB : B ≤ w.heap.size) (hf : O.length < 100000) (hS : S.length ≤ 100000) : Calls Try.prog 20 #[.pointer (some ⟨g, 0, none⟩)] w fun r w' => r = .returned (.int .i64 (takeId O S)) ∧ (∃ F', RefM w' B g F' size (takeO O S) S.tail) ∧ Chg F w w' := by
  obtain ⟨vo, vb, h, rfl⟩ := h
  cases S with
  | nil => exact (rtake_new h hB hf).mono fun _ _ ⟨a, v', b, c, d⟩ => ⟨a, ⟨_, _, _, b, rfl⟩, d⟩
  | cons i r => exact (rtake_old h (by simp at hS; omega)).mono fun _ _ ⟨a, v', b, c, d⟩ => ⟨a, ⟨_, _, _, b, rfl⟩, d⟩
theorem refGive (d0 : Int) (hid : (Lit.int .i64 d0).wf = true) (h : RefM w B g F size O S) (hB : B ≤ w.heap.size) (hS : S.length ≤ 100000) : Calls Try.prog 21 #[.pointer (some ⟨g, 0, none⟩), .int .i64 d0] w fun r w' => r = .returned (.int .i64 (giveE O d0)) ∧ (∃ F', RefM w' B g F' size (giveO O d0) (giveS O S d0)) ∧ Chg F w w' := by
  obtain ⟨vo, vb, h, rfl⟩ := h
  unfold giveE giveO giveS
  cases hl : liveB O d0
  · exact (rgive_no d0 hid h hl).mono fun _ _ ⟨a, b⟩ => ⟨a, ⟨_, vo, vb, b ▸ h, rfl⟩, b ▸ Chg.refl _ _⟩
  · exact (rgive_yes d0 hid h hl hB hS).mono fun _ _ ⟨a, v', b, c, d⟩ => ⟨a, ⟨_, _, _, b, rfl⟩, d⟩
theorem refLive (d0 : Int) (hid : (Lit.int .i64 d0).wf = true) (h : RefM w B g F size O S) : Calls Try.prog 22 #[.pointer (some ⟨g, 0, none⟩), .int .i64 d0] w fun r w' => r = .returned (.bool (liveB O d0)) ∧ w = w' := by
  obtain ⟨vo, vb, h, rfl⟩ := h
  exact rlive_any d0 hid h
theorem refCount (h : RefM w B g F size O S) (hS : S.length ≤ 100000) : Calls Try.prog 23 #[.pointer (some ⟨g, 0, none⟩)] w fun r w' => r = .returned (.int .i64 ((O.length : Int) - S.length)) ∧ ∃ n, w' = w.drewN n := by
  obtain ⟨vo, vb, h, rfl⟩ := h
  exact rcount_any h hS
theorem refBytes (h : RefM w B g F size O S) (h1 : 1 ≤ size) (h2 : size ≤ 16384) : Calls Try.prog 24 #[.pointer (some ⟨g, 0, none⟩)] w fun r w' => r = .returned (.int .i64 (bytesV O.length size)) ∧ w = w' := by
  obtain ⟨vo, vb, h, rfl⟩ := h
  exact rbytes_any h h1 h2
end

end Go.Proofs.Ytoofokbdohdmjaa
