/- The contracts of the reference's records. -/
import Derived.Test.YtoofokbdohdmjaaLast
import Derived.Test.YtoofokbdohdmjaaNumRPow
namespace Go.Proofs.Ytoofokbdohdmjaa
open Go.RowKit
set_option linter.unusedVariables false

/-- the reference's records: the same truths, the same row. -/
structure RefAt (w : World) (B g : Nat) (vo vb : Value) (size : Int) (O : List Bool) (S : List Nat) : Prop where
  hd : Blk w g 63 #[.int .i64 size, .int .i64 O.length, vo, vb]
  out : w.ownsRow B 4 1 vo O.length (O.map .bool)
  back : w.ownsRow B 3 1 vb S.length (rowOf S)
  base : B ≤ g
  mem : ∀ i ∈ S, i < O.length
  few : O.length ≤ 100000

def RefF (g : Nat) (vo vb : Value) : Nat → Prop := fun b => b = g ∨ vo.ownBlock = some b ∨ vb.ownBlock = some b

theorem infoBool : (Try.prog.info? 4).map (fun i => (i.zero, i.size, i.bytes)) = some (some (.bool false), 1, 1) := by kernel_rfl

theorem rnew_no (size : Int) (w : World) (h : size < 1 ∨ 16384 < size) : Calls Try.prog 14 #[.int .i64 size] w fun r w' => r = .returned (.tuple #[.pointer none, .int .i64 1]) ∧ w = w' := by
  rcases h with h | h
  all_goals
    go_enter Try.func14, Try.ntmps14
    go_wp2
    go_ret2
    exact ⟨rfl, rfl⟩

theorem rnew_yes (size : Int) (w : World) (h1 : 1 ≤ size) (h2 : size ≤ 16384) : Calls Try.prog 14 #[.int .i64 size] w fun r w' => r = .returned (.tuple #[.pointer (some ⟨w.heap.size, 0, none⟩), .int .i64 0]) ∧ RefAt w' w.heap.size w.heap.size (.slice none 0 0) (.slice none 0 0) size [] [] ∧ Ext w w' := by
  go_enter Try.func14, Try.ntmps14
  go_wp2
  go_ret2
  exact ⟨rfl, ⟨Blk.new _ _ _, owns_nil _ _ _ _, owns_nil _ _ _ _, Nat.le_refl _, fun i hi => by simp at hi, by simp⟩, (Ext.refl _).alloc _ _⟩

section
variable {w : World} {B g : Nat} {vo vb : Value} {size : Int} {O : List Bool} {S : List Nat}

theorem RefAt.out_ne (h : RefAt w B g vo vb size O S) : vo.ownBlock ≠ some g := own_blk_ne h.out h.hd (by decide)
theorem RefAt.back_ne (h : RefAt w B g vo vb size O S) : vb.ownBlock ≠ some g := own_blk_ne h.back h.hd (by decide)
theorem rows_ne {w : World} {B B' e e' s s' n n' : Nat} {v v' : Value} {xs xs' : List Value} (h : w.ownsRow B e s v n xs) (h' : w.ownsRow B' e' s' v' n' xs') (hne : e ≠ e') : ∀ b, v.ownBlock = some b → v'.ownBlock ≠ some b := fun b hb => by
  rcases h.2 with ⟨rfl, _⟩ | ⟨g', cap, cur, rfl, _, hh, _⟩
  · cases hb
  · have : g' = b := by simpa [Value.ownBlock] using hb
    subst this
    exact own_blk_ne (t := e) (cs := cur) h' hh (fun e => hne e.symm)
theorem RefAt.rows (h : RefAt w B g vo vb size O S) : ∀ b, vo.ownBlock = some b → vb.ownBlock ≠ some b := rows_ne h.out h.back (by decide)

theorem rcount_any (h : RefAt w B g vo vb size O S) (hS : S.length ≤ 100000) : Calls Try.prog 23 #[.pointer (some ⟨g, 0, none⟩)] w fun r w' => r = .returned (.int .i64 ((O.length : Int) - S.length)) ∧ ∃ n, w' = w.drewN n := by
  have c1 := h.hd.cell 1
  have c3 := h.hd.cell 3
  simp at c1 c3
  obtain ⟨p, cap, rfl, -, -, -⟩ := owns_form h.back
  have hf := h.few
  clear h
  have q : IntKind.i64.wrap ((O.length : Int) - S.length) = (O.length : Int) - S.length := IntWalk.i64_in _ (by omega)
  go_enter Try.func23, Try.ntmps23
  go_wp2_with fail
  go_quiet (fail)
  go_wp2
  go_ret
  exact ⟨rfl, _, rfl⟩

theorem rlive_any (id : Int) (hid : (Lit.int .i64 id).wf = true) (h : RefAt w B g vo vb size O S) : Calls Try.prog 22 #[.pointer (some ⟨g, 0, none⟩), .int .i64 id] w fun r w' => r = .returned (.bool (liveB O id)) ∧ w = w' := by
  have c1 := h.hd.cell 1
  have c2 := h.hd.cell 2
  simp at c1 c2
  have hr := h.out
  obtain ⟨p, cap, hv, hlc, hcm, hg⟩ := owns_form h.out
  have hf := h.few
  by_cases h1 : 1 ≤ id
  · by_cases h2 : id ≤ O.length
    · obtain ⟨gv, rfl, -, -⟩ := hg.resolve_left (by omega)
      subst hv
      have e1 := hr.cellAt (id.toNat - 1) (by omega)
      have e2 : (O.map Value.bool)[id.toNat - 1]? = some (.bool (O.getD (id.toNat - 1) false)) := by simp [List.getD, show id.toNat - 1 < O.length by omega]
      rw [e2] at e1
      have HR := Lib.hid (show liveB O id = O.getD (id.toNat - 1) false by unfold liveB; simp [h1, h2])
      clear h hr e2 hg
      generalize O.getD (id.toNat - 1) false = o at *
      go_enter Try.func22, Try.ntmps22
      go_wp2
      go_ret
      exact ⟨by rw [HR.out]; rfl, rfl⟩
    · have k2 : decide (id ≤ (O.length : Int)) = false := decide_eq_false h2
      have HR := Lib.hid (show liveB O id = false by unfold liveB; simp [h2])
      subst hv
      clear h hr hg
      go_enter Try.func22, Try.ntmps22
      go_wp2
      go_ret
      exact ⟨by rw [HR.out]; rfl, rfl⟩
  · have k1 : decide (1 ≤ id) = false := decide_eq_false h1
    have HR := Lib.hid (show liveB O id = false by unfold liveB; simp [h1])
    clear h hr hg
    go_enter Try.func22, Try.ntmps22
    go_wp2
    go_ret
    exact ⟨by rw [HR.out]; rfl, rfl⟩

theorem bytes_ref (n : Nat) (size : Int) (h1 : 1 ≤ size) (h2 : size ≤ 16384) : ((n : Int) + 16384 / size - 1) / (16384 / size) * 16384 = bytesV n size := by
  have q1 : 1 ≤ 16384 / size := Int.le_ediv_of_mul_le (by omega) (by omega)
  unfold bytesV ceilV
  generalize 16384 / size = d at *
  rw [if_neg (by omega), Int.mul_comm]
  congr 1
  have h := Int.mul_ediv_add_emod (n : Int) d
  have m0 : 0 ≤ (n : Int) % d := Int.emod_nonneg _ (by omega)
  have m1 : (n : Int) % d < d := Int.emod_lt_of_pos _ (by omega)
  by_cases hm : (n : Int) % d = 0
  · rw [if_pos hm, show (n : Int) + d - 1 = (d - 1) + d * ((n : Int) / d) by omega, Int.add_mul_ediv_left _ _ (by omega), Int.ediv_eq_zero_of_lt (by omega) (by omega)]
    omega
  · rw [if_neg hm, show (n : Int) + d - 1 = ((n : Int) % d - 1) + d * ((n : Int) / d + 1) by rw [Int.mul_add]; omega, Int.add_mul_ediv_left _ _ (by omega), Int.ediv_eq_zero_of_lt (by omega) (by omega)]
    omega

theorem rbytes_any (h : RefAt w B g vo vb size O S) (h1 : 1 ≤ size) (h2 : size ≤ 16384) : Calls Try.prog 24 #[.pointer (some ⟨g, 0, none⟩)] w fun r w' => r = .returned (.int .i64 (bytesV O.length size)) ∧ w = w' := by
  have c0 := h.hd.cell 0
  have c1 := h.hd.cell 1
  simp at c0 c1
  have hf := h.few
  clear h
  have q1 : 1 ≤ 16384 / size := Int.le_ediv_of_mul_le (by omega) (by omega)
  have q2 : 16384 / size ≤ 16384 := Int.ediv_le_self _ (by omega)
  have HB := Lib.hid (bytes_ref O.length size h1 h2)
  have b1 : 0 ≤ ((O.length : Int) + 16384 / size - 1) / (16384 / size) := Int.ediv_nonneg (by omega) (by omega)
  have b2 : ((O.length : Int) + 16384 / size - 1) / (16384 / size) ≤ (O.length : Int) + 16384 / size - 1 := Int.ediv_le_self _ (by omega)
  go_enter Try.func24, Try.ntmps24
  go_wp2
  go_ret
  exact ⟨by rw [← HB.out]; rfl, rfl⟩

theorem map_set_bool (O : List Bool) (i : Nat) (x : Bool) : (O.map Value.bool).set i (.bool x) = (O.set i x).map .bool := by
  rw [List.map_set]

/-- the memory behind the reference's Take of one that was given back. -/
theorem RefAt.taken {i : Nat} {r : List Nat} {go gb co cb : Nat} (h : RefAt w B g (.slice (some ⟨go, 0, none⟩) O.length co) (.slice (some ⟨gb, 0, none⟩) (r.length + 1) cb) size O (i :: r)) :
    RefAt ((w.setCell ⟨g, 3, none⟩ (.slice (some ⟨gb, 0, none⟩) r.length cb)).setCell ⟨go, i, none⟩ (.bool true)) B g (.slice (some ⟨go, 0, none⟩) O.length co) (.slice (some ⟨gb, 0, none⟩) r.length cb) size (O.set i true) r where
  hd := by
    have hne : g ≠ go := fun e => h.out_ne (by rw [e]; rfl)
    have := (h.hd.set_ 3 (.slice (some ⟨gb, 0, none⟩) r.length cb)).far (p := ⟨go, i, none⟩) hne (.bool true)
    rw [List.length_set]
    exact this
  out := by
    have hne : go ≠ g := fun e => h.out_ne (by rw [← e]; rfl)
    have h1 := owns_blocks (w1 := w.setCell ⟨g, 3, none⟩ (.slice (some ⟨gb, 0, none⟩) r.length cb)) h.out (fun b hb => by
      have : b = go := by simpa [Value.ownBlock] using hb.symm
      subst this
      exact Below.heap_setCell _ _ _ _ hne)
    have h2 := (h1.stored i (.bool true)).1
    rw [map_set_bool] at h2
    rw [List.length_set]
    exact h2
  back := by
    have hb := h.back
    rcases hb.2 with ⟨e, -⟩ | ⟨g', cap, cur, e, hB, hh, hnc, hcm, hcs, ht⟩
    · cases e
    · have e' := e
      injection e' with e1 _ e2
      injection e1 with e1
      injection e1 with e1
      subst e1 e2
      have hne : gb ≠ g := fun e => h.back_ne (by rw [← e]; rfl)
      have hne2 : gb ≠ go := fun e => h.rows go rfl (by rw [e]; rfl)
      refine ⟨by rw [row_len]; omega, .inr ⟨gb, _, cur, rfl, hB, ?_, ?_, hcm, hcs, ?_⟩⟩
      · rw [Below.heap_setCell _ _ _ _ hne2, Below.heap_setCell _ _ _ _ hne]; exact hh
      · have : (i :: r).length ≤ cb := hnc
        simp at this; omega
      · have hr : rowOf (i :: r) = rowOf r ++ [.int .i64 ((i : Int) + 1)] := by simp [rowOf]
        rw [hr] at ht
        have ht2 := congrArg (List.take r.length) ht
        rw [List.take_take, show min r.length ((i :: r).length * 1) = r.length by simp] at ht2
        rw [Nat.mul_one, ht2, List.take_append_of_le_length (by rw [row_len]; omega), List.take_of_length_le (by rw [row_len]; omega)]
  base := h.base
  mem := fun j hj => by rw [List.length_set]; exact h.mem j (List.mem_cons_of_mem _ hj)
  few := by rw [List.length_set]; exact h.few

theorem rtake_old {i : Nat} {r : List Nat} (h : RefAt w B g vo vb size O (i :: r)) (hS : r.length ≤ 100000) : Calls Try.prog 20 #[.pointer (some ⟨g, 0, none⟩)] w fun e w' =>
    e = .returned (.int .i64 ((i : Int) + 1)) ∧ ∃ vb', RefAt w' B g vo vb' size (O.set i true) r ∧ vb'.ownBlock = vb.ownBlock ∧ Chg (RefF g vo vb) w w' := by
  have hi := h.mem i List.mem_cons_self
  have c2 := h.hd.cell 2
  have c3 := h.hd.cell 3
  simp only [List.getElem?_toArray, List.getElem?_cons_succ, List.getElem?_cons_zero] at c2 c3
  obtain ⟨p, co, hv, hlc, hcm, hg⟩ := owns_form h.out
  obtain ⟨go, rfl, -, -⟩ := hg.resolve_left (by omega)
  obtain ⟨p', cb, hv', hlc', hcm', hg'⟩ := owns_form h.back
  obtain ⟨gb, rfl, -, -⟩ := hg'.resolve_left (by simp)
  rw [List.length_cons] at hv'
  subst hv hv'
  have e1 := h.back.cellAt r.length (by simp)
  have hr : rowOf (i :: r) = rowOf r ++ [.int .i64 ((i : Int) + 1)] := by simp [rowOf]
  rw [hr, List.getElem?_append_right (by rw [row_len]; omega), row_len, Nat.sub_self] at e1
  simp only [List.getElem?_cons_zero] at e1
  have e2 := h.out.cellAt i (by omega)
  have e3 : (O.map Value.bool)[i]? = some (.bool (O.getD i false)) := by simp [List.getD, hi]
  rw [e3] at e2
  have fg := h.hd.frozen
  have fo := fun j => h.out.frozenAt (g := go) j
  have hne : go ≠ g := fun e => h.out_ne (by rw [← e]; rfl)
  have hne' : g ≠ go := fun e => hne e.symm
  have hfew := h.few
  have HN := Lib.hid h.taken
  rw [List.length_cons] at hlc'
  unfold maxLen at hcm hcm'
  clear h hr e3 hg hg'
  generalize O.getD i false = o at *
  go_enter Try.func20, Try.ntmps20
  go_wp2_with fail
  go_ret
  refine ⟨rfl, _, HN.out, rfl, ?_⟩
  exact ((Chg.refl (RefF g _ _) w).setCell (p := ⟨g, 3, none⟩) (.inl (.inl rfl)) _).setCell (p := ⟨go, i, none⟩) (.inl (.inr (.inl rfl))) _
end

end Go.Proofs.Ytoofokbdohdmjaa
