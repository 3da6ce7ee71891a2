/- A map from ints to truths that the call made: what it holds is a function; its operations as equations of runs; a range over it. -/
import Derived.Test.YtoofokbdohdmjaaIMap
import Derived.Maps.RangeWalk
namespace Go.Proofs.Ytoofokbdohdmjaa
open Go.RowKit Go.Maps
set_option linter.unusedVariables false

abbrev bDat (x : Bool) : DataW Unit := .lit (.bool x)
/-- the map D holds f, and c entries. -/
structure BHolds (D : DataW Unit) (f : Int → Bool) (c : Nat) : Prop where
  has : ∀ k : Int, Maps.has D (iLit k) = f k
  at_ : ∀ k : Int, D.atKey (iLit k) (bDat false) = bDat (f k)
  size : Maps.size D = c
def BOwns (w : World) (b n : Nat) (D : DataW Unit) : Prop := w.ownsMap Try.prog 3 (plainElem Try.prog 4) b n D
/-- block b is a map of at most n entries that holds f, and c entries. -/
def BMap (w : World) (b n : Nat) (f : Int → Bool) (c : Nat) : Prop := ∃ D, BOwns w b n D ∧ BHolds D f c

theorem bm_zero (w : World) : (zeroValue 4).run Try.prog w = .ok (.bool false) w := by kernel_rfl
theorem plainElem_bool_inv {e : TypeId} (he : Try.prog.underlying e = some .bool) {v : Value} {z : DataW Unit × List MemPlace} (h : plainElem Try.prog e v = some z) : ∃ a, v = .bool a ∧ z = (bDat a, []) := by
  unfold plainElem at h
  rw [he] at h
  cases v <;> simp at h
  exact ⟨_, rfl, h.symm⟩

section
variable {w w' : World} {b n c : Nat} {f : Int → Bool}
theorem BOwns.same {D : DataW Unit} (h : BOwns w b n D) (hb : w'.heap[b]? = w.heap[b]?) : BOwns w' b n D := by
  obtain ⟨es, clock, h1, h2⟩ := h
  exact ⟨es, clock, hb.trans h1, h2⟩
theorem BMap.lt (h : BMap w b n f c) : b < w.heap.size := by
  obtain ⟨D, h1, -⟩ := h
  exact World.ownsMap.lt h1
theorem BMap.mono (h : BMap w b n f c) {m : Nat} (hm : n ≤ m) : BMap w b m f c := by
  obtain ⟨D, h1, h2⟩ := h
  exact ⟨D, World.ownsMap.mono h1 hm, h2⟩
theorem BMap.same (h : BMap w b n f c) (hb : w'.heap[b]? = w.heap[b]?) : BMap w' b n f c := by
  obtain ⟨D, h1, h2⟩ := h
  exact ⟨D, h1.same hb, h2⟩
theorem BMap.chg {F : Nat → Prop} (h : BMap w b n f c) (hc : Chg F w w') (hb : ¬ F b) : BMap w' b n f c := h.same (hc.block b h.lt hb)
theorem BMap.congr {f' : Int → Bool} (h : BMap w b n f c) (hf : ∀ k, f' k = f k) : BMap w b n f' c := by
  obtain ⟨D, h1, h2⟩ := h
  exact ⟨D, h1, ⟨fun k => (h2.has k).trans (hf k).symm, fun k => by rw [h2.at_ k, hf k], h2.size⟩⟩
theorem BMap.isMap (h : BMap w b n f c) : ∃ es clock, w.heap[b]? = some (.map es clock) := by
  obtain ⟨D, ⟨es, clock, h1, h2⟩, h3⟩ := h
  exact ⟨es, clock, h1⟩
theorem bmap_made (w : World) : BMap (w.alloc (.map #[] 0)) w.heap.size 0 (fun _ => false) 0 :=
  ⟨.map [], World.ownsMap_made _ _ _ _, ⟨fun k => rfl, fun k => rfl, rfl⟩⟩
theorem BMap.look (h : BMap w b n f c) {k : Int} (hk : (Lit.int .i64 k).wf = true) (t : TypeId) (ht : Try.prog.underlying t = some (.map 3 4)) :
    (Instr.lookup t (.map (some b)) (.int .i64 k) false).run Try.prog w = .ok (.bool (f k)) w := by
  obtain ⟨D, h1, h2⟩ := h
  obtain ⟨v, ps, hrun, hv⟩ := World.ownsMap.lookup h1 im_key ht (bm_zero w) (plainElem_bool (H := Unit) Try.underlying4 false) (im_keyof hk)
  obtain ⟨a, rfl, e⟩ := plainElem_bool_inv Try.underlying4 hv
  have e := (h2.at_ k).symm.trans (congrArg Prod.fst e)
  have : a = f k := by
    simp only [bDat, DataW.lit.injEq, Lit.bool.injEq] at e
    exact e.symm
  subst this
  exact hrun
theorem BMap.len_ (h : BMap w b n f c) (t : TypeId) (ht : Try.prog.underlying t = some (.map 3 4)) (ty : TypeId) : (Builtin.len_ #[t] ty #[.map (some b)]).run Try.prog w = .ok (.int .i64 c) w := by
  obtain ⟨D, h1, h2⟩ := h
  rw [← h2.size]
  exact World.ownsMap.len h1 ht ty
theorem BMap.put (h : BMap w b n f c) (hn : n ≤ 1000000) {k : Int} (hk : (Lit.int .i64 k).wf = true) (hf : f k = false) (t : TypeId) (ht : Try.prog.underlying t = some (.map 3 4)) :
    ∃ w', (Instr.mapUpdate t (.map (some b)) (.int .i64 k) (.bool true)).run Try.prog w = .ok () w' ∧ BMap w' b (n + 1) (fun j => f j || decide (j = k)) (c + 1) ∧ Chg (fun k => k = b) w w' := by
  obtain ⟨D, h1, h2⟩ := h
  obtain ⟨w', hrun, h3, h4⟩ := World.ownsMap.store h1 im_key ht (by unfold maxLen; omega) (im_keyof hk) (plainElem_bool (H := Unit) Try.underlying4 true)
  have hm := World.ownsMap.isMap h1
  refine ⟨w', hrun, ⟨_, h3, ⟨fun j => ?_, fun j => ?_, ?_⟩⟩, turned_chg h4⟩
  · by_cases e : j = k
    · subst e
      rw [Maps.has_put_same hm (by trivial)]; simp
    · rw [Maps.has_put_other (lit_ne (fun x => e x)), h2.has j]; simp [e]
  · by_cases e : j = k
    · subst e
      rw [Maps.atKey_put_same hm (by trivial)]; simp
    · rw [Maps.atKey_put_other (lit_ne (fun x => e x)), h2.at_ j]; simp [e]
  · rw [Maps.size_put (World.ownsMap.tidy h1 im_key), h2.has k, hf, h2.size]; rfl
theorem BMap.del (h : BMap w b n f c) {k : Int} (hk : (Lit.int .i64 k).wf = true) (t : TypeId) (ht : Try.prog.underlying t = some (.map 3 4)) (ty : TypeId) :
    ∃ w' c', (Builtin.delete_ #[t, 3] ty #[.map (some b), .int .i64 k]).run Try.prog w = .ok (.tuple #[]) w' ∧ BMap w' b n (fun j => f j && !decide (j = k)) c' ∧ Chg (fun k => k = b) w w' ∧ c' + (if f k = true then 1 else 0) = c := by
  obtain ⟨D, h1, h2⟩ := h
  obtain ⟨w', hrun, h3, h4⟩ := World.ownsMap.drop h1 im_key ht (im_keyof hk) ty
  have hm := World.ownsMap.isMap h1
  refine ⟨w', _, hrun, ⟨_, h3, ⟨fun j => ?_, fun j => ?_, rfl⟩⟩, turned_chg h4, ?_⟩
  · by_cases e : j = k
    · subst e
      rw [Maps.has_del_same]; simp
    · rw [Maps.has_del_other (lit_ne (fun x => e x)), h2.has j]; simp [e]
  · by_cases e : j = k
    · subst e
      rw [Maps.atKey_del_same]; simp
    · rw [Maps.atKey_del_other (lit_ne (fun x => e x)), h2.at_ j]; simp [e]
  · have := Maps.size_del (k := iLit k) (World.ownsMap.tidy h1 im_key)
    rw [h2.has k, h2.size] at this
    exact this
end

/-! a range over it -/
abbrev BRange (w : World) (b r n : Nat) (D : DataW Unit) (left : Lit → Bool) (cnt : Nat) : Prop := w.ranges Try.prog 3 (plainElem Try.prog 4) b r n D left cnt
theorem iter_frozen {w : World} {b r n : Nat} {D : DataW Unit} {left : Lit → Bool} {cnt : Nat} (h : BRange w b r n D left cnt) (a : Addr) (ha : a.block = r) : w.frozen? a = false := by
  obtain ⟨es, clock, since, seen, c0, hb, F, hs, hD, hr, rest⟩ := h
  subst ha
  unfold World.frozen?
  rw [hr]
theorem range_chg {w w' : World} {b n : Nat} {D : DataW Unit} {left : Lit → Bool} {cnt : Nat} (h : BRange w' b w.heap.size n D left cnt) (hg : w.grownBy w' none) (hs : w'.heap.size = w.heap.size + 1) : Ext w w' := by
  refine ⟨⟨hg.os, hg.tape, hg.output, hg.size, fun i hi => hg.block i hi (by simp)⟩, fun a => ?_⟩
  by_cases ha : a.block < w.heap.size
  · exact World.frozen?_of_block (hg.block a.block ha (by simp))
  · have e1 : w.frozen? a = false := by
      unfold World.frozen?
      rw [Array.getElem?_eq_none (by omega)]
    rw [e1]
    by_cases e : a.block = w.heap.size
    · exact iter_frozen h a e
    · unfold World.frozen?
      rw [Array.getElem?_eq_none (by omega)]
theorem next_chg {w w' : World} {b r n : Nat} {D : DataW Unit} {left left' : Lit → Bool} {cnt cnt' : Nat} (h0 : BRange w b r n D left cnt) (h : BRange w' b r n D left' cnt') (hg : w.grownBy w' (some r)) (hs : w'.heap.size = w.heap.size) : Chg (fun k => k = r) w w' := by
  refine ⟨hg.os, hg.tape, hg.output, hg.size, fun a => ?_, fun i hi hne => hg.block i hi (fun e => hne (Option.some.inj e))⟩
  by_cases e : a.block = r
  · rw [iter_frozen h a e, iter_frozen h0 a e]
  · by_cases ha : a.block < w.heap.size
    · exact World.frozen?_of_block (hg.block a.block ha (fun x => e (Option.some.inj x)))
    · unfold World.frozen?
      rw [Array.getElem?_eq_none (by omega), Array.getElem?_eq_none (by omega)]

end Go.Proofs.Ytoofokbdohdmjaa
