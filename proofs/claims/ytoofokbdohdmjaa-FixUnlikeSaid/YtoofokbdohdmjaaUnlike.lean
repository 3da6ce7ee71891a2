/- Records that are out have unlike numbers: the plain law. -/
import Derived.Test.YtoofokbdohdmjaaAwake
import Derived.Test.YtoofokbdohdmjaaBMap
import Derived.Test.YtoofokbdohdmjaaZs
namespace Go.Proofs.Ytoofokbdohdmjaa
open Go.RowKit Go.Maps
set_option linter.unusedVariables false

theorem liveB_eq (O : List Bool) (k : Int) : liveB O k = true ↔ 1 ≤ k ∧ k ≤ O.length ∧ O.getD (k.toNat - 1) false = true := by
  unfold liveB
  rw [Bool.and_eq_true, decide_eq_true_eq]
  constructor
  · rintro ⟨⟨h1, h2⟩, h3⟩; exact ⟨h1, h2, h3⟩
  · rintro ⟨h1, h2, h3⟩; exact ⟨⟨h1, h2⟩, h3⟩
theorem liveB_set (O : List Bool) (i : Nat) (x : Bool) (hi : i < O.length) (k : Int) : liveB (O.set i x) k = if k = (i : Int) + 1 then x else liveB O k := by
  unfold liveB
  rw [List.length_set]
  by_cases e : k = (i : Int) + 1
  · subst e
    rw [if_pos rfl, decide_eq_true (by omega), Bool.true_and, show ((i : Int) + 1).toNat - 1 = i by omega, getD_set_self hi]
  · rw [if_neg e]
    by_cases h1 : 1 ≤ k
    · rw [getD_set_ne (by omega)]
    · rw [decide_eq_false (by omega), Bool.false_and, Bool.false_and]
theorem liveB_snoc (O : List Bool) (k : Int) : liveB (O ++ [true]) k = if k = (O.length : Int) + 1 then true else liveB O k := by
  unfold liveB
  rw [List.length_append]
  by_cases e : k = (O.length : Int) + 1
  · subst e
    rw [if_pos rfl, decide_eq_true (by show _ ∧ _ ≤ ((O.length + 1 : Nat) : Int); omega), Bool.true_and, show ((O.length : Int) + 1).toNat - 1 = O.length by omega, List.getD_eq_getElem?_getD, List.getElem?_append_right (Nat.le_refl _), Nat.sub_self]
    rfl
  · rw [if_neg e]
    by_cases h : 1 ≤ k ∧ k ≤ O.length
    · rw [decide_eq_true h, decide_eq_true (by show _ ∧ _ ≤ ((O.length + 1 : Nat) : Int); omega), List.getD_eq_getElem?_getD, List.getElem?_append_left (by omega), ← List.getD_eq_getElem?_getD]
    · rw [decide_eq_false h, decide_eq_false (by show ¬ (_ ∧ _ ≤ ((O.length + 1 : Nat) : Int)); omega), Bool.false_and, Bool.false_and]

/-- the memory of the law: records, and the map of what is out. -/
structure URel (W w : World) (g gm : Nat) (F : Nat → Prop) (O : List Bool) (S : List Nat) (n c : Nat) : Prop where
  fix : FixM w W.heap.size g F 100 O S
  map : BMap w gm n (liveB O) c
  ext : Ext W w
  cnt : c + S.length = O.length
  lo : W.heap.size ≤ gm
  off : ¬ F gm

section
variable {W w w' w2 w3 : World} {g gm n c : Nat} {F F' : Nat → Prop} {O : List Bool} {S : List Nat} {id : Int}
/-- behind Give: the map is still as it was. -/
structure UGave (W w : World) (g gm : Nat) (F : Nat → Prop) (O O' : List Bool) (S' : List Nat) (n c : Nat) : Prop where
  fix : FixM w W.heap.size g F 100 O' S'
  map : BMap w gm n (liveB O) c
  ext : Ext W w
  lo : W.heap.size ≤ gm
  off : ¬ F gm
theorem URel.gave {O' : List Bool} {S' : List Nat} (h : URel W w g gm F O S n c) (hF : FixM w' W.heap.size g F' 100 O' S') (hs : ∀ b, F' b → F b ∨ w.heap.size ≤ b) (hc : Chg F w w') : UGave W w' g gm F' O O' S' n c :=
  ⟨hF, h.map.chg hc h.off, hc.ext h.ext h.fix.over, h.lo, fun hf => (hs gm hf).elim h.off fun hl => by have := h.map.lt; omega⟩
theorem UGave.turned {O' : List Bool} {S' : List Nat} {n' c' : Nat} {f : Int → Bool} (h : UGave W w g gm F O O' S' n c) (hm : BMap w' gm n' f c') (hf : ∀ k, liveB O' k = f k) (hc : Chg (fun k => k = gm) w w') (hcnt : c' + S'.length = O'.length) : URel W w' g gm F O' S' n' c' :=
  ⟨h.fix.keep hc fun b hb e => h.off (e ▸ hb), hm.congr hf, hc.ext h.ext fun i hi => by rw [hi]; exact h.lo, hcnt, h.lo, h.off⟩
/-- 'Give' of one that is not out, and 'delete'. -/
theorem UGave.del_no (h : UGave W w g gm F O O S n c) (hid : (Lit.int .i64 id).wf = true) (hl : liveB O id = false) (hcnt : c + S.length = O.length) (t : TypeId) (ht : Try.prog.underlying t = some (.map 3 4)) (ty : TypeId) :
    ∃ w', (Builtin.delete_ #[t, 3] ty #[.map (some gm), .int .i64 id]).run Try.prog w = .ok (.tuple #[]) w' ∧ URel W w' g gm F O S n c := by
  obtain ⟨w', c', hrun, hm, hc, he⟩ := h.map.del hid t ht ty
  rw [hl, if_neg (by simp)] at he
  obtain rfl : c' = c := by omega
  refine ⟨w', hrun, h.turned hm (fun k => ?_) hc hcnt⟩
  by_cases e : k = id
  · subst e; rw [hl]; rfl
  · simp [e]
theorem UGave.del_yes (h : UGave W w g gm F O (O.set (id.toNat - 1) false) ((id.toNat - 1) :: S) n c) (hid : (Lit.int .i64 id).wf = true) (hl : liveB O id = true) (hcnt : c + S.length = O.length) (t : TypeId) (ht : Try.prog.underlying t = some (.map 3 4)) (ty : TypeId) :
    ∃ w' c', (Builtin.delete_ #[t, 3] ty #[.map (some gm), .int .i64 id]).run Try.prog w = .ok (.tuple #[]) w' ∧ URel W w' g gm F (O.set (id.toNat - 1) false) ((id.toNat - 1) :: S) n c' := by
  obtain ⟨w', c', hrun, hm, hc, he⟩ := h.map.del hid t ht ty
  rw [hl, if_pos rfl] at he
  obtain ⟨h1, h2, h3⟩ := (liveB_eq O id).1 hl
  refine ⟨w', c', hrun, h.turned hm (fun k => ?_) hc (by rw [List.length_set, List.length_cons]; omega)⟩
  rw [liveB_set _ _ _ (by omega)]
  by_cases e : k = id
  · subst e
    rw [if_pos (by omega)]; simp
  · rw [if_neg (by omega)]; simp [e]
/-- 'Take', and what is laid into the map. -/
theorem UGave.put_new (h : UGave W w g gm F O (O ++ [true]) [] n c) (hn : n ≤ 1000000) (hO : O.length ≤ 100000) (hcnt : c = O.length) (t : TypeId) (ht : Try.prog.underlying t = some (.map 3 4)) :
    ∃ w', (Instr.mapUpdate t (.map (some gm)) (.int .i64 ((O.length : Int) + 1)) (.bool true)).run Try.prog w = .ok () w' ∧ URel W w' g gm F (O ++ [true]) [] (n + 1) (c + 1) := by
  obtain ⟨w', hrun, hm, hc⟩ := h.map.put hn (k := (O.length : Int) + 1) (by simp [Lit.wf, IntKind.min, IntKind.max, IntKind.signed, IntKind.bits]; omega) (by unfold liveB; rw [decide_eq_false (by omega), Bool.false_and]) t ht
  refine ⟨w', hrun, h.turned hm (fun k => ?_) hc (by rw [List.length_append, hcnt]; rfl)⟩
  rw [liveB_snoc]
  by_cases e : k = (O.length : Int) + 1
  · simp [e]
  · simp [e]
theorem UGave.put_old {i : Nat} {r : List Nat} (h : UGave W w g gm F O (O.set i true) r n c) (hn : n ≤ 1000000) (hO : O.length ≤ 100000) (hi : i < O.length) (hf : O.getD i false = false) (hcnt : c + (r.length + 1) = O.length) (t : TypeId) (ht : Try.prog.underlying t = some (.map 3 4)) :
    ∃ w', (Instr.mapUpdate t (.map (some gm)) (.int .i64 ((i : Int) + 1)) (.bool true)).run Try.prog w = .ok () w' ∧ URel W w' g gm F (O.set i true) r (n + 1) (c + 1) := by
  obtain ⟨w', hrun, hm, hc⟩ := h.map.put hn (k := (i : Int) + 1) (by simp [Lit.wf, IntKind.min, IntKind.max, IntKind.signed, IntKind.bits]; omega) (by unfold liveB; rw [show ((i : Int) + 1).toNat - 1 = i by omega, hf, Bool.and_false]) t ht
  refine ⟨w', hrun, h.turned hm (fun k => ?_) hc (by rw [List.length_set]; omega)⟩
  rw [liveB_set _ _ _ hi]
  by_cases e : k = (i : Int) + 1
  · simp [e]
  · simp [e]
theorem URel.more (h : URel W w g gm F O S n c) {m : Nat} (hm : n ≤ m) : URel W w g gm F O S m c := ⟨h.fix, h.map.mono hm, h.ext, h.cnt, h.lo, h.off⟩

/-- the range over what is out. -/
structure URange (W w : World) (g gm r n : Nat) (F : Nat → Prop) (O : List Bool) (S : List Nat) (D : DataW Unit) (left : Lit → Bool) (cnt : Nat) : Prop where
  rg : BRange w gm r n D left cnt
  fix : FixM w W.heap.size g F 100 O S
  ext : Ext W w
  hold : ∀ k, Maps.has D (iLit k) = liveB O k
  at_ : ∀ k, D.atKey (iLit k) (bDat false) = bDat (Maps.has D (iLit k))
  off : ¬ F r
  lo : W.heap.size ≤ r
theorem URel.opened (h : URel W w g gm F O S n c) : ∃ D, BOwns w gm n D ∧ ∀ w', BRange w' gm w.heap.size n D (Maps.has D) (Maps.size D) → w.grownBy w' none → w'.heap.size = w.heap.size + 1 → URange W w' g gm w.heap.size n F O S D (Maps.has D) (Maps.size D) := by
  obtain ⟨D, h1, h2⟩ := h.map
  refine ⟨D, h1, fun w' hr hg hs => ?_⟩
  have hx := range_chg hr hg hs
  exact ⟨hr, h.fix.later hx, h.ext.trans hx, h2.has, (fun k => by rw [h2.has k]; exact h2.at_ k), fun hf => by have := h.fix.inside _ hf; omega, h.ext.size⟩
theorem URange.next {r cnt cnt' : Nat} {D : DataW Unit} {left left' : Lit → Bool} (h : URange W w g gm r n F O S D left cnt) (h' : BRange w' gm r n D left' cnt') (hg : w.grownBy w' (some r)) (hs : w'.heap.size = w.heap.size) : URange W w' g gm r n F O S D left' cnt' := by
  have hc := next_chg h.rg h' hg hs
  exact ⟨h', h.fix.keep hc fun b hb e => h.off (e ▸ hb), hc.ext h.ext fun i hi => by rw [hi]; exact h.lo, h.hold, h.at_, h.off, h.lo⟩
end

theorem frozen_map (w : World) (a : Addr) : (w.alloc (.map #[] 0)).frozen? a = w.frozen? a := by
  by_cases ha : a.block < w.heap.size
  · exact World.frozen?_of_block (Below.heap_alloc w _ a.block ha)
  · have e1 : w.frozen? a = false := by
      unfold World.frozen?
      rw [Array.getElem?_eq_none (by omega)]
    rw [e1]
    unfold World.frozen?
    by_cases e : a.block = w.heap.size
    · rw [e, heap_alloc_new]
    · rw [Array.getElem?_eq_none (by rw [World.size_alloc]; omega)]
theorem Chg.allocM {F : Nat → Prop} {a w : World} (h : Chg F a w) : Chg F a (w.alloc (.map #[] 0)) :=
  ⟨h.os, h.tape, h.output, Nat.le_trans h.size (by simp), fun x => (frozen_map w x).trans (h.frozen x),
   fun i hi hf => (Below.heap_alloc w _ i (Nat.lt_of_lt_of_le hi h.size)).trans (h.block i hi hf)⟩
theorem Ext.allocM {W w : World} (h : Ext W w) : Ext W (w.alloc (.map #[] 0)) :=
  ⟨h.below.alloc h.size _, fun a => (frozen_map w a).trans (h.frozen a)⟩

/-- the step of the range. -/
theorem next_ib (w : World) {ops : Array Oper} {rest : List Oper} {o : Oper} {a : Act} {Q : Exit → Act → World → Prop} (hg : o.guard = none) (it : Operand) (hop : o.op = Op.next it false)
    (b r n : Nat) (D : DataW Unit) (left : Lit → Bool) (cnt : Nat) (hit : a.eval it = .pointer (some ⟨r, 0, none⟩)) (h : BRange w b r n D left cnt)
    (hf : ∀ k, D.atKey (iLit k) (bDat false) = bDat (Maps.has D (iLit k))) (hDone : wpList Try.prog ops Q rest (a.put o.dst (.tuple #[.bool false])) w)
    (hMore : ∀ (x : Int) (w' : World) (left' : Lit → Bool) (cnt' : Nat), (Lit.int .i64 x).wf = true → Maps.has D (iLit x) = true → BRange w' b r n D left' cnt' → cnt' < cnt →
      w.grownBy w' (some r) → w'.heap.size = w.heap.size → (Instr.entry (.pointer (some ⟨r, 0, none⟩))).run Try.prog w' = .ok (.tuple #[.int .i64 x, .bool true]) w' → wpList Try.prog ops Q rest (a.put o.dst (.tuple #[.bool true, .int .i64 x, .bool true])) w') :
    wpList Try.prog ops Q (o :: rest) a w :=
  wpList_next_ranges w hg it hop 3 im_key (plainElem Try.prog 4) (Value.int .i64) Value.bool (fun key kl hkey => by obtain ⟨x, rfl, _⟩ := Maps.keyOf_int_inv Try.underlying3 hkey; exact ⟨x, rfl⟩) (fun v y hv => by obtain ⟨c, rfl, _⟩ := plainElem_bool_inv Try.underlying4 hv; exact ⟨c, rfl⟩)
    b r n D left cnt hit h (fun _ _ => hDone) (fun x c kl y w' cnt' hkey hlk hv hat hrg hlt hgr hsz hen => by
      obtain ⟨x', ex, rfl, hwx⟩ := Maps.keyOf_int_inv Try.underlying3 hkey
      cases ex
      obtain ⟨c', ec, rfl⟩ := plainElem_bool_inv Try.underlying4 hv
      cases ec
      have hh := has_true_of_atKey hat
      have e := (hat (bDat false)).symm.trans (hf x)
      rw [hh] at e
      have : c = true := by simpa [bDat] using e
      subst this
      exact hMore x w' _ cnt' hwx hh hrg hlt hgr hsz hen)

end Go.Proofs.Ytoofokbdohdmjaa
