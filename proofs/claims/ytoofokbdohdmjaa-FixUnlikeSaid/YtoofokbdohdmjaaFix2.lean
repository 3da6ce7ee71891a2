/- The contracts of fix.Give and fix.Take. -/
import Derived.Test.YtoofokbdohdmjaaFix
namespace Go.Proofs.Ytoofokbdohdmjaa
open Go.RowKit
set_option linter.unusedVariables false

section
variable {w : World} {B g : Nat} {v : Value} {A : List Nat} {size : Int} {O : List Bool} {S : List Nat}

theorem FixAt.apart (h : FixAt w B g v A size O S) {i j : Nat} (hi : i < A.length) (hj : j < A.length) (hne : i ≠ j) : A.getD i 0 ≠ A.getD j 0 := fun e => by
  have h1 := h.recs i hi
  have h2 := h.recs j hj
  rw [e] at h1
  have := (h1.same h2).1
  simp at this
  omega

theorem FixAt.head_ne (h : FixAt w B g v A size O S) {i : Nat} (hi : i < A.length) : A.getD i 0 ≠ g := (h.recs i hi).ne_ h.hd (by decide)
theorem FixAt.row_ne (h : FixAt w B g v A size O S) : v.ownBlock ≠ some g := own_blk_ne h.row h.hd (by decide)
theorem FixAt.row_ne' (h : FixAt w B g v A size O S) {i : Nat} (hi : i < A.length) : v.ownBlock ≠ some (A.getD i 0) := own_blk_ne h.row (h.recs i hi) (by decide)

theorem next_other {S : List Nat} {i j : Nat} (hne : i ≠ j) : nextOf (i :: S) j = nextOf S j := by
  show (if i = j then S.head? else nextOf S j) = _
  rw [if_neg hne]
theorem next_self {S : List Nat} {i : Nat} : nextOf (i :: S) i = S.head? := by
  show (if i = i then S.head? else nextOf S i) = _
  rw [if_pos rfl]
theorem next_none : ∀ {S : List Nat} {i : Nat}, i ∉ S → nextOf S i = none
  | [], _, _ => rfl
  | x :: r, i, h => by
    rw [next_other (fun e => h (by rw [e]; exact List.mem_cons_self)), next_none (fun h' => h (List.mem_cons_of_mem _ h'))]

theorem getD_set_self {l : List Bool} {i : Nat} {x : Bool} (h : i < l.length) : (l.set i x).getD i false = x := by
  simp [List.getD, h]
theorem getD_set_ne {l : List Bool} {i j : Nat} {x : Bool} (h : i ≠ j) : (l.set i x).getD j false = l.getD j false := by
  simp [List.getD, h]

/-- the memory behind Give. -/
theorem FixAt.given (h : FixAt w B g v A size O S) {i : Nat} (hi : i < A.length) (ho : O.getD i false = true) :
    FixAt ((((w.setCell ⟨A.getD i 0, 1, none⟩ (.bool false)).setCell ⟨A.getD i 0, 2, none⟩ (.pointer (adrO A S.head?))).setCell ⟨g, 2, none⟩ (.pointer (some ⟨A.getD i 0, 0, none⟩))).setCell ⟨g, 3, none⟩ (.int .i64 ((A.length : Int) - S.length - 1))) B g v A size (O.set i false) (i :: S) where
  hd := by
    have hne := (h.head_ne hi).symm
    have := (((h.hd.far (p := ⟨A.getD i 0, 1, none⟩) hne (.bool false)).far (p := ⟨A.getD i 0, 2, none⟩) hne (.pointer (adrO A S.head?))).set_ 2 (.pointer (some ⟨A.getD i 0, 0, none⟩))).set_ 3 (.int .i64 ((A.length : Int) - S.length - 1))
    have e : ((A.length : Int) - ((i :: S).length : Int)) = (A.length : Int) - S.length - 1 := by simp; omega
    rw [e]
    exact this
  row := owns_blocks h.row fun b hb => by
    have h1 : b ≠ g := fun e => h.row_ne (e ▸ hb)
    have h2 : b ≠ A.getD i 0 := fun e => h.row_ne' hi (e ▸ hb)
    rw [Below.heap_setCell _ _ _ _ h1, Below.heap_setCell _ _ _ _ h1, Below.heap_setCell _ _ _ _ h2, Below.heap_setCell _ _ _ _ h2]
  len := by rw [List.length_set]; exact h.len
  recs := fun j hj => by
    have hg := h.head_ne hj
    by_cases e : i = j
    · subst e
      have := ((((h.recs i hi).set_ 1 (.bool false)).set_ 2 (.pointer (adrO A S.head?))).far (p := ⟨g, 2, none⟩) hg (.pointer (some ⟨A.getD i 0, 0, none⟩))).far (p := ⟨g, 3, none⟩) hg (.int .i64 ((A.length : Int) - S.length - 1))
      rw [getD_set_self (by rw [h.len]; exact hi), next_self]
      exact this
    · have hne := h.apart hj hi (fun x => e x.symm)
      rw [getD_set_ne e, next_other e]
      exact ((((h.recs j hj).far (p := ⟨A.getD i 0, 1, none⟩) hne _).far (p := ⟨A.getD i 0, 2, none⟩) hne _).far (p := ⟨g, 2, none⟩) hg _).far (p := ⟨g, 3, none⟩) hg _
  base := h.base
  base' := h.base'
  nodup := List.nodup_cons.2 ⟨(fun hm => by rw [((h.mem i).1 hm).2] at ho; exact absurd ho (by decide)), h.nodup⟩
  mem := fun j => by
    by_cases e : i = j
    · subst e
      simp only [List.mem_cons, true_or, true_iff]
      exact ⟨hi, getD_set_self (by rw [h.len]; exact hi)⟩
    · rw [List.mem_cons, getD_set_ne e, h.mem j]
      exact ⟨fun h1 => h1.resolve_left (fun x => e x.symm), .inr⟩
  few := h.few

/-- the memory behind Take of one that was given back. -/
theorem FixAt.taken {i : Nat} {r : List Nat} (h : FixAt w B g v A size O (i :: r)) :
    FixAt ((((w.setCell ⟨g, 2, none⟩ (.pointer (adrO A r.head?))).setCell ⟨A.getD i 0, 1, none⟩ (.bool true)).setCell ⟨A.getD i 0, 2, none⟩ (.pointer none)).setCell ⟨g, 3, none⟩ (.int .i64 ((A.length : Int) - (i :: r).length + 1))) B g v A size (O.set i true) r where
  hd := by
    have hi := ((h.mem i).1 List.mem_cons_self).1
    have hne := (h.head_ne hi).symm
    have := (((h.hd.set_ 2 (.pointer (adrO A r.head?))).far (p := ⟨A.getD i 0, 1, none⟩) hne (.bool true)).far (p := ⟨A.getD i 0, 2, none⟩) hne (.pointer none)).set_ 3 (.int .i64 ((A.length : Int) - (i :: r).length + 1))
    have e : ((A.length : Int) - (r.length : Int)) = (A.length : Int) - (i :: r).length + 1 := by simp; omega
    rw [e]
    exact this
  row := owns_blocks h.row fun b hb => by
    have hi := ((h.mem i).1 List.mem_cons_self).1
    have h1 : b ≠ g := fun e => h.row_ne (e ▸ hb)
    have h2 : b ≠ A.getD i 0 := fun e => h.row_ne' hi (e ▸ hb)
    rw [Below.heap_setCell _ _ _ _ h1, Below.heap_setCell _ _ _ _ h2, Below.heap_setCell _ _ _ _ h2, Below.heap_setCell _ _ _ _ h1]
  len := by rw [List.length_set]; exact h.len
  recs := fun j hj => by
    have hi := ((h.mem i).1 List.mem_cons_self).1
    have hg := h.head_ne hj
    have hnd := List.nodup_cons.1 h.nodup
    by_cases e : i = j
    · subst e
      have := (((((h.recs i hi).far (p := ⟨g, 2, none⟩) hg (.pointer (adrO A r.head?))).set_ 1 (.bool true)).set_ 2 (.pointer none))).far (p := ⟨g, 3, none⟩) hg (.int .i64 ((A.length : Int) - (i :: r).length + 1))
      rw [getD_set_self (by rw [h.len]; exact hi), next_none hnd.1]
      exact this
    · have hne := h.apart hj hi (fun x => e x.symm)
      rw [getD_set_ne e, ← next_other e]
      exact ((((h.recs j hj).far (p := ⟨g, 2, none⟩) hg _).far (p := ⟨A.getD i 0, 1, none⟩) hne _).far (p := ⟨A.getD i 0, 2, none⟩) hne _).far (p := ⟨g, 3, none⟩) hg _
  base := h.base
  base' := h.base'
  nodup := (List.nodup_cons.1 h.nodup).2
  mem := fun j => by
    have hi := ((h.mem i).1 List.mem_cons_self).1
    have hnd := List.nodup_cons.1 h.nodup
    by_cases e : i = j
    · subst e
      rw [getD_set_self (by rw [h.len]; exact hi)]
      simp [hnd.1]
    · rw [getD_set_ne e, ← h.mem j, List.mem_cons]
      exact ⟨.inr, fun h1 => h1.resolve_left (fun x => e x.symm)⟩
  few := h.few

theorem live_parts (h : FixAt w B g v A size O S) {id : Int} (hl : liveB O id = true) : 1 ≤ id ∧ id ≤ A.length ∧ id.toNat - 1 < A.length ∧ O.getD (id.toNat - 1) false = true := by
  unfold liveB at hl
  rw [h.len] at hl
  simp only [Bool.and_eq_true, decide_eq_true_eq] at hl
  exact ⟨hl.1.1, hl.1.2, by omega, hl.2⟩

theorem give_no (id : Int) (hid : (Lit.int .i64 id).wf = true) (h : FixAt w B g v A size O S) (hl : liveB O id = false) : Calls Try.prog 8 #[.pointer (some ⟨g, 0, none⟩), .int .i64 id] w fun r w' => r = .returned (.int .i64 31) ∧ w = w' := by
  have HL := live_any id hid h
  rw [hl] at HL
  have H := Lib.hid HL
  clear h hl HL
  go_enter Try.func8, Try.ntmps8
  go_wp2_with (go_at_call 11; refine H.out.mono ?_; rintro e w1 ⟨rfl, rfl⟩)
  go_ret
  exact ⟨rfl, rfl⟩

theorem give_yes (id : Int) (hid : (Lit.int .i64 id).wf = true) (h : FixAt w B g v A size O S) (hl : liveB O id = true) : Calls Try.prog 8 #[.pointer (some ⟨g, 0, none⟩), .int .i64 id] w fun r w' =>
    r = .returned (.int .i64 0) ∧ FixAt w' B g v A size (O.set (id.toNat - 1) false) ((id.toNat - 1) :: S) ∧ Chg (FixF g v A) w w' := by
  have HL := live_any id hid h
  rw [hl] at HL
  have H := Lib.hid HL
  obtain ⟨h1, h2, hi, ho⟩ := live_parts h hl
  have HN := Lib.hid (h.given hi ho)
  have c1 := h.hd.cell 1
  have c2 := h.hd.cell 2
  have c3 := h.hd.cell 3
  simp at c1 c2 c3
  obtain ⟨gv, cap, rfl, e1⟩ := row_cell h hi
  have e2 := (h.recs _ hi).cell 1
  have e3 := (h.recs _ hi).cell 2
  simp only [List.getElem?_toArray, List.getElem?_cons_succ, List.getElem?_cons_zero] at e2 e3
  have fg := h.hd.frozen
  have fa := (h.recs _ hi).frozen
  have hne := h.head_ne hi
  have hne' := hne.symm
  have hfew := h.few
  have hS := h.back_le
  have HA := Lib.hid (show FixF g (.slice (some ⟨gv, 0, none⟩) A.length cap) A (A.getD (id.toNat - 1) 0) from .inr (.inr (getD_mem hi)))
  have HF := Lib.hid (show FixF g (.slice (some ⟨gv, 0, none⟩) A.length cap) A g from .inl rfl)
  clear h hl HL ho
  generalize FixF g (.slice (some ⟨gv, 0, none⟩) A.length cap) A = F at *
  generalize A.getD (id.toNat - 1) 0 = a at *
  generalize O.getD (id.toNat - 1) false = o at *
  generalize nextOf S (id.toNat - 1) = nx at *
  generalize adrO A S.head? = hdp at *
  go_enter Try.func8, Try.ntmps8
  go_wp2_with (go_at_call 11; refine H.out.mono ?_; rintro e w1 ⟨rfl, rfl⟩)
  go_ret
  refine ⟨rfl, HN.out, ?_⟩
  exact ((((Chg.refl F w).setCell (p := ⟨a, 1, none⟩) (.inl HA.out) _).setCell (p := ⟨a, 2, none⟩) (.inl HA.out) _).setCell (p := ⟨g, 2, none⟩) (.inl HF.out) _).setCell (p := ⟨g, 3, none⟩) (.inl HF.out) _

theorem rec_old {i : Nat} {r : List Nat} (h : FixAt w B g v A size O (i :: r)) : Calls Try.prog 9 #[.pointer (some ⟨g, 0, none⟩)] w fun e w' =>
    e = .returned (.int .i64 ((i : Int) + 1)) ∧ FixAt w' B g v A size (O.set i true) r ∧ Chg (FixF g v A) w w' := by
  have hi := ((h.mem i).1 List.mem_cons_self).1
  have HN := Lib.hid h.taken
  have c2 := h.hd.cell 2
  have c3 := h.hd.cell 3
  simp only [List.getElem?_toArray, List.getElem?_cons_succ, List.getElem?_cons_zero, List.head?_cons, adrO] at c2 c3
  have e0 := (h.recs _ hi).cell 0
  have e1 := (h.recs _ hi).cell 1
  have e2 := (h.recs _ hi).cell 2
  rw [next_self] at e2
  simp only [List.getElem?_toArray, List.getElem?_cons_succ, List.getElem?_cons_zero] at e0 e1 e2
  have fg := h.hd.frozen
  have fa := (h.recs _ hi).frozen
  have hne := h.head_ne hi
  have hne' := hne.symm
  have hfew := h.few
  have hS := h.back_le
  have HA := Lib.hid (show FixF g v A (A.getD i 0) from .inr (.inr (getD_mem hi)))
  have HF := Lib.hid (show FixF g v A g from .inl rfl)
  clear h
  generalize FixF g v A = F at *
  generalize A.getD i 0 = a at *
  generalize O.getD i false = o at *
  generalize adrO A r.head? = hdp at *
  generalize (i :: r).length = m at *
  go_enter Try.func9, Try.ntmps9
  go_wp2_with fail
  go_ret
  refine ⟨rfl, HN.out, ?_⟩
  exact ((((Chg.refl F w).setCell (p := ⟨g, 2, none⟩) (.inl HF.out) _).setCell (p := ⟨a, 1, none⟩) (.inl HA.out) _).setCell (p := ⟨a, 2, none⟩) (.inl HA.out) _).setCell (p := ⟨g, 3, none⟩) (.inl HF.out) _

/-- the memory behind Take of a new one, from where the row is longer. -/
theorem FixAt.added {w1 : World} {v1 : Value} (h : FixAt w B g v A size O []) (hB : B ≤ w.heap.size) (hf : A.length < 100000)
    (hr : w1.ownsRow B 53 1 v1 (A.length + 1) (A.map (fun b => .pointer (some ⟨b, 0, none⟩)) ++ [.pointer (some ⟨w.heap.size, 0, none⟩)]))
    (hc : Chg (fun b => v.ownBlock = some b) ((w.alloc (.cells #[.int .i64 ((A.length : Int) + 1), .bool false, .pointer none] 57)).alloc (.cells #[.pointer (some ⟨w.heap.size, 0, none⟩)] 53)) w1) :
    FixAt ((((w1.setCell ⟨g, 1, none⟩ v1).setCell ⟨w.heap.size, 1, none⟩ (.bool true)).setCell ⟨w.heap.size, 2, none⟩ (.pointer none)).setCell ⟨g, 3, none⟩ (.int .i64 ((A.length : Int) + 1))) B g v1 (A ++ [w.heap.size]) size (O ++ [true]) [] := by
  have hg : g < w.heap.size := h.hd.lt
  have hgb : g ≠ w.heap.size := by omega
  have hv : ∀ b, v.ownBlock = some b → b < w.heap.size := fun b hb => (owns_lt h.row b hb).2
  have b1 : Blk w1 g 55 _ := ((h.hd.alloc (.cells #[.int .i64 ((A.length : Int) + 1), .bool false, .pointer none] 57)).alloc (.cells #[.pointer (some ⟨w.heap.size, 0, none⟩)] 53)).chg hc h.row_ne
  have b2 : Blk w1 w.heap.size 57 #[.int .i64 ((A.length : Int) + 1), .bool false, .pointer none] :=
    ((Blk.new w _ _).alloc (.cells #[.pointer (some ⟨w.heap.size, 0, none⟩)] 53)).chg hc (fun hb => by have := hv _ hb; omega)
  refine ⟨?_, ?_, ?_, ?_, h.base, ?_, List.nodup_nil, ?_, ?_⟩
  · have := (((b1.set_ 1 v1).far (p := ⟨w.heap.size, 1, none⟩) hgb (.bool true)).far (p := ⟨w.heap.size, 2, none⟩) hgb (.pointer none)).set_ 3 (.int .i64 ((A.length : Int) + 1))
    have e : (((A ++ [w.heap.size]).length : Int) - (([] : List Nat).length : Int)) = (A.length : Int) + 1 := by simp
    rw [e]
    exact this
  · rw [List.map_append, List.length_append]
    have h1 : v1.ownBlock ≠ some g := own_blk_ne hr b1 (by decide)
    have h2 : v1.ownBlock ≠ some w.heap.size := own_blk_ne hr b2 (by decide)
    exact owns_blocks hr fun b hb => by
      have n1 : b ≠ g := fun e => h1 (e ▸ hb)
      have n2 : b ≠ w.heap.size := fun e => h2 (e ▸ hb)
      rw [Below.heap_setCell _ _ _ _ n1, Below.heap_setCell _ _ _ _ n2, Below.heap_setCell _ _ _ _ n2, Below.heap_setCell _ _ _ _ n1]
  · simp [h.len]
  · intro j hj
    rw [List.length_append] at hj
    simp only [List.length_cons, List.length_nil] at hj
    rcases Nat.lt_or_ge j A.length with hlt | hge
    · have e1 : (A ++ [w.heap.size]).getD j 0 = A.getD j 0 := by simp [List.getD, List.getElem?_append_left hlt]
      have e2 : (O ++ [true]).getD j false = O.getD j false := by simp [List.getD, List.getElem?_append_left (by rw [h.len]; exact hlt : j < O.length)]
      rw [e1, e2]
      have hj2 := (h.recs j hlt).lt
      have hne : A.getD j 0 ≠ w.heap.size := by omega
      have hng := h.head_ne hlt
      have b3 := (((h.recs j hlt).alloc (.cells #[.int .i64 ((A.length : Int) + 1), .bool false, .pointer none] 57)).alloc (.cells #[.pointer (some ⟨w.heap.size, 0, none⟩)] 53)).chg hc (h.row_ne' hlt)
      exact (((b3.far (p := ⟨g, 1, none⟩) hng _).far (p := ⟨w.heap.size, 1, none⟩) hne _).far (p := ⟨w.heap.size, 2, none⟩) hne _).far (p := ⟨g, 3, none⟩) hng _
    · obtain rfl : j = A.length := by omega
      have e1 : (A ++ [w.heap.size]).getD A.length 0 = w.heap.size := by simp [List.getD]
      have e2 : (O ++ [true]).getD A.length false = true := by simp [List.getD, ← h.len]
      rw [e1, e2]
      have hgb' := hgb.symm
      have := (((b2.far (p := ⟨g, 1, none⟩) hgb' v1).set_ 1 (.bool true)).set_ 2 (.pointer none)).far (p := ⟨g, 3, none⟩) hgb' (.int .i64 ((A.length : Int) + 1))
      exact this
  · intro b hb
    rcases List.mem_append.1 hb with hb | hb
    · exact h.base' b hb
    · have : b = w.heap.size := by simpa using hb
      omega
  · intro i
    simp only [List.not_mem_nil, List.length_append, List.length_cons, List.length_nil, false_iff, not_and]
    intro hi
    rcases Nat.lt_or_ge i A.length with hlt | hge
    · have e2 : (O ++ [true]).getD i false = O.getD i false := by simp [List.getD, List.getElem?_append_left (by rw [h.len]; exact hlt : i < O.length)]
      rw [e2]
      intro ho
      have := (h.mem i).2 ⟨hlt, ho⟩
      simp at this
    · obtain rfl : i = A.length := by omega
      have e2 : (O ++ [true]).getD A.length false = true := by simp [List.getD, ← h.len]
      rw [e2]; simp
  · simp; omega

theorem infoRec : (Try.prog.info? 53).map (fun i => (i.zero, i.size, i.bytes)) = some (some (.pointer none), 1, 8) := by kernel_rfl

theorem rec_new (h : FixAt w B g v A size O []) (hB : B ≤ w.heap.size) (hf : A.length < 100000) : Calls Try.prog 9 #[.pointer (some ⟨g, 0, none⟩)] w fun e w' =>
    e = .returned (.int .i64 ((A.length : Int) + 1)) ∧ ∃ v', FixAt w' B g v' (A ++ [w.heap.size]) size (O ++ [true]) [] ∧ Chg (FixF g v A) w w' ∧ (v'.ownBlock = v.ownBlock ∨ v'.ownBlock = some (w.heap.size + 2)) := by
  obtain ⟨i0, hi, hz0, hz1, hz2⟩ := info_parts infoRec
  have HH := Lib.hid h
  have c1 := h.hd.cell 1
  have c2 := h.hd.cell 2
  have c3 := h.hd.cell 3
  simp only [List.getElem?_toArray, List.getElem?_cons_succ, List.getElem?_cons_zero, List.head?_nil, adrO, List.length_nil] at c1 c2 c3
  have hc3 : ((A.length : Int) - ((0 : Nat) : Int)) = A.length := by simp
  rw [hc3] at c3
  clear hc3
  have fg := h.hd.frozen
  have hg : g < w.heap.size := h.hd.lt
  have hgb : g ≠ w.heap.size := by omega
  have hgb' : w.heap.size ≠ g := by omega
  have HR := Lib.hid h.row_ne
  obtain ⟨p, cap, hv, hlc, hcm, -⟩ := owns_form h.row
  subst hv
  clear h
  go_enter Try.func9, Try.ntmps9
  go_wp2_with (first | (at_builtin; refine wpList_append_all B _ rfl (.tmp 22) (.tmp 24) 52 rfl 53 i0 _ 1 8 Try.underlying52 hi hz0 hz1 hz2 rfl (by decide) _ _ _ (by rfl) (by exact owns_later HH.out.row (((Ext.refl _).alloc _ _).alloc _ _).below) (.slice (some ⟨w.heap.size + 1, 0, none⟩) 1 1) 1 [.pointer (some ⟨w.heap.size, 0, none⟩)] (by rfl) (by have := src_one (w.alloc (.cells #[.int .i64 ((A.length : Int) + 1), .bool false, .pointer none] 57)) [.pointer (some ⟨w.heap.size, 0, none⟩)] 53 1 rfl; simpa using this) (by intro u hu; simp at hu; subst hu; rfl) (by unfold maxLen; omega) (by omega) (by simp; omega) ?_) | fail)
  intro v1 w1 hown hchg hat
  have HAT := Lib.hid hat
  have HN := Lib.hid (HH.out.added hB hf hown hchg)
  have b1 := ((HH.out.hd.alloc (.cells #[.int .i64 ((A.length : Int) + 1), .bool false, .pointer none] 57)).alloc (.cells #[.pointer (some ⟨w.heap.size, 0, none⟩)] 53)).chg hchg HR.out
  have b2 : Blk w1 w.heap.size 57 #[.int .i64 ((A.length : Int) + 1), .bool false, .pointer none] :=
    ((Blk.new w _ _).alloc (.cells #[.pointer (some ⟨w.heap.size, 0, none⟩)] 53)).chg hchg (fun hb => by have := (owns_lt HH.out.row _ hb).2; omega)
  have HC := Lib.hid (((Chg.refl (FixF g (.slice p A.length cap) A) w).alloc #[.int .i64 ((A.length : Int) + 1), .bool false, .pointer none] 57).alloc #[.pointer (some ⟨w.heap.size, 0, none⟩)] 53 |>.trans hchg (fun i hi => .inl (.inr (.inl hi))))
  have d1 := b1.cell 1
  have d3 := b1.cell 3
  have e0 := b2.cell 0
  have e1 := b2.cell 1
  have e2 := b2.cell 2
  simp only [List.getElem?_toArray, List.getElem?_cons_succ, List.getElem?_cons_zero, List.length_nil] at d1 d3 e0 e1 e2
  have hc3 : ((A.length : Int) - ((0 : Nat) : Int)) = A.length := by simp
  rw [hc3] at d3
  have fg1 := b1.frozen
  have fb1 := b2.frozen
  obtain ⟨p1, cap1, hv1, -, -, -⟩ := owns_form hown
  subst hv1
  clear hc3 b1 b2 hown hchg hat c1 c2 c3 fg
  have HF := Lib.hid (show FixF g (.slice p A.length cap) A g from .inl rfl)
  go_wp2_with fail
  go_ret
  refine ⟨rfl, _, HN.out, ?_, HAT.out⟩
  exact (((HC.out.setCell (p := ⟨g, 1, none⟩) (.inl HF.out) _).setCell (p := ⟨w.heap.size, 1, none⟩) (.inr (Nat.le_refl _)) _).setCell (p := ⟨w.heap.size, 2, none⟩) (.inr (Nat.le_refl _)) _).setCell (p := ⟨g, 3, none⟩) (.inl HF.out) _
end

/-! ### records as their users see them -/
/-- records: which are out, and which were given back, the last one first. -/
def FixM (w : World) (B g : Nat) (F : Nat → Prop) (size : Int) (O : List Bool) (S : List Nat) : Prop := ∃ v A, FixAt w B g v A size O S ∧ F = FixF g v A

def takeId (O : List Bool) : List Nat → Int
  | i :: _ => (i : Int) + 1
  | [] => (O.length : Int) + 1
def takeO (O : List Bool) : List Nat → List Bool
  | i :: _ => O.set i true
  | [] => O ++ [true]
def giveO (O : List Bool) (id : Int) : List Bool := if liveB O id = true then O.set (id.toNat - 1) false else O
def giveS (O : List Bool) (S : List Nat) (id : Int) : List Nat := if liveB O id = true then (id.toNat - 1) :: S else S
def giveE (O : List Bool) (id : Int) : Int := if liveB O id = true then 0 else 31

section
variable {w w' : World} {B g : Nat} {F : Nat → Prop} {size : Int} {O : List Bool} {S : List Nat}

theorem FixM.keep {G : Nat → Prop} (h : FixM w B g F size O S) (hc : Chg G w w') (hF : ∀ b, F b → ¬ G b) : FixM w' B g F size O S := by
  obtain ⟨v, A, h, rfl⟩ := h
  exact ⟨v, A, h.keep hc hF, rfl⟩
theorem FixM.later (h : FixM w B g F size O S) (hx : Ext w w') : FixM w' B g F size O S := by
  obtain ⟨v, A, h, rfl⟩ := h
  exact ⟨v, A, h.later hx, rfl⟩
theorem FixM.over (h : FixM w B g F size O S) : ∀ b, F b → B ≤ b := by
  obtain ⟨v, A, h, rfl⟩ := h
  exact h.over
theorem FixM.inside (h : FixM w B g F size O S) : ∀ b, F b → b < w.heap.size := by
  obtain ⟨v, A, h, rfl⟩ := h
  rintro b (rfl | hb | hb)
  · exact h.hd.lt
  · exact (owns_lt h.row b hb).2
  · obtain ⟨i, hi, rfl⟩ := List.getElem_of_mem hb
    have := (h.recs i hi).lt
    rwa [show A.getD i 0 = A[i] by simp [List.getD, hi]] at this
theorem FixM.few (h : FixM w B g F size O S) : O.length ≤ 100000 := by
  obtain ⟨v, A, h, rfl⟩ := h
  rw [h.len]; exact h.few
theorem FixM.mem (h : FixM w B g F size O S) : ∀ i, i ∈ S ↔ i < O.length ∧ O.getD i false = false := by
  obtain ⟨v, A, h, rfl⟩ := h
  rw [h.len]; exact h.mem
theorem FixM.nodup (h : FixM w B g F size O S) : S.Nodup := by
  obtain ⟨v, A, h, rfl⟩ := h
  exact h.nodup
theorem FixM.back_le (h : FixM w B g F size O S) : S.length ≤ O.length := by
  obtain ⟨v, A, h, rfl⟩ := h
  rw [h.len]; exact h.back_le
/-- a block of another type is none of theirs. -/
theorem FixM.not {t : TypeId} {b : Nat} {cs : Array Value} (h : FixM w B g F size O S) (hb : Blk w b t cs) (h1 : t ≠ 55) (h2 : t ≠ 57) (h3 : t ≠ 53) : ¬ F b := by
  obtain ⟨v, A, h, rfl⟩ := h
  rintro (rfl | hb' | hb')
  · exact h1 (hb.same h.hd).2
  · exact own_blk_ne h.row hb (fun e => h3 e.symm) hb'
  · obtain ⟨i, hi, rfl⟩ := List.getElem_of_mem hb'
    have := h.recs i hi
    rw [show A.getD i 0 = A[i] by simp [List.getD, hi]] at this
    exact h2 (hb.same this).2

theorem fixNew (size : Int) (w : World) (h1 : 1 ≤ size) (h2 : size ≤ 16384) : Calls Try.prog 7 #[.int .i64 size] w fun r w' => r = .returned (.tuple #[.pointer (some ⟨w.heap.size, 0, none⟩), .int .i64 0]) ∧ (∃ F, FixM w' w.heap.size w.heap.size F size [] []) ∧ Ext w w' :=
  (new_yes size w h1 h2).mono fun _ _ ⟨a, b, c⟩ => ⟨a, ⟨_, _, _, b, rfl⟩, c⟩

theorem fixCount (h : FixM w B g F size O S) : Calls Try.prog 10 #[.pointer (some ⟨g, 0, none⟩)] w fun r w' => r = .returned (.int .i64 ((O.length : Int) - S.length)) ∧ w = w' := by
  obtain ⟨v, A, h, rfl⟩ := h
  rw [h.len]; exact count_any h
theorem fixLive (id : Int) (hid : (Lit.int .i64 id).wf = true) (h : FixM w B g F size O S) : Calls Try.prog 11 #[.pointer (some ⟨g, 0, none⟩), .int .i64 id] w fun r w' => r = .returned (.bool (liveB O id)) ∧ w = w' := by
  obtain ⟨v, A, h, rfl⟩ := h
  exact live_any id hid h
theorem fixBytes (h : FixM w B g F size O S) (h1 : 1 ≤ size) (h2 : size ≤ 16384) : Calls Try.prog 12 #[.pointer (some ⟨g, 0, none⟩)] w fun r w' => r = .returned (.int .i64 (bytesV O.length size)) ∧ ∃ n, w' = w.drewN n := by
  obtain ⟨v, A, h, rfl⟩ := h
  rw [h.len]; exact bytes_any h h1 h2
theorem fixGive (id : Int) (hid : (Lit.int .i64 id).wf = true) (h : FixM w B g F size O S) : Calls Try.prog 8 #[.pointer (some ⟨g, 0, none⟩), .int .i64 id] w fun r w' => r = .returned (.int .i64 (giveE O id)) ∧ FixM w' B g F size (giveO O id) (giveS O S id) ∧ Chg F w w' := by
  obtain ⟨v, A, h, rfl⟩ := h
  unfold giveE giveO giveS
  cases hl : liveB O id
  · exact (give_no id hid h hl).mono fun _ _ ⟨a, b⟩ => ⟨a, ⟨v, A, b ▸ h, rfl⟩, b ▸ Chg.refl _ _⟩
  · exact (give_yes id hid h hl).mono fun _ _ ⟨a, b, c⟩ => ⟨a, ⟨v, A, b, rfl⟩, c⟩
theorem fixTake (h : FixM w B g F size O S) (hB : B ≤ w.heap.size) (hf : O.length < 100000) : Calls Try.prog 9 #[.pointer (some ⟨g, 0, none⟩)] w fun r w' => r = .returned (.int .i64 (takeId O S)) ∧ (∃ F', FixM w' B g F' size (takeO O S) S.tail ∧ ∀ b, F' b → F b ∨ w.heap.size ≤ b) ∧ Chg F w w' := by
  obtain ⟨v, A, h, rfl⟩ := h
  cases S with
  | nil =>
    rw [h.len] at hf
    refine (rec_new h hB hf).mono fun _ _ ⟨a, v', b, c, d⟩ => ⟨by rw [a]; show _ = Ending.returned (Value.int _ ((O.length : Int) + 1)); rw [h.len], ⟨_, ⟨v', _, b, rfl⟩, ?_⟩, c⟩
    rintro b (hb | hb | hb)
    · exact .inl (.inl hb)
    · rcases d with d | d
      · exact .inl (.inr (.inl (d ▸ hb)))
      · right
        rw [d] at hb
        have : w.heap.size + 2 = b := by simpa using hb
        omega
    · rcases List.mem_append.1 hb with hb | hb
      · exact .inl (.inr (.inr hb))
      · right
        have : b = w.heap.size := by simpa using hb
        omega
  | cons i r =>
    exact (rec_old h).mono fun _ _ ⟨a, b, c⟩ => ⟨a, ⟨_, ⟨v, A, b, rfl⟩, fun _ h => .inl h⟩, c⟩
end

end Go.Proofs.Ytoofokbdohdmjaa
