/- A map from ints to ints that the call made: what it holds is a function; its operations as equations of runs. -/
import Derived.Test.YtfgfbmmidijgoaaRows
import Derived.Test.YtfgfbmmidijgoaaChg
import Derived.Maps.OwnSet
import Derived.KernelRfl
namespace Go.Proofs.Ytfgfbmmidijgoaa
open Go.RowKit Go.Maps
set_option linter.unusedVariables false

abbrev iLit (k : Int) : Lit := .int .i64 k
abbrev iDat (k : Int) : DataW Unit := .lit (.int .i64 k)

/-- block b is a map of at most n entries that holds f. -/
def IMap (w : World) (b n : Nat) (f : Int → Option Int) : Prop :=
  ∃ D : DataW Unit, w.ownsMap Try.prog 3 (plainElem Try.prog 3) b n D ∧ ∀ k : Int, Maps.has D (iLit k) = (f k).isSome ∧ D.atKey (iLit k) (iDat 0) = iDat ((f k).getD 0)

def updM (f : Int → Option Int) (k : Int) (x : Option Int) : Int → Option Int := fun j => if j = k then x else f j
def noM : Int → Option Int := fun _ => none

theorem im_key : Keyed Try.prog 3 := int_keyed Try.underlying3
theorem im_zero (w : World) : (zeroValue 3).run Try.prog w = .ok (.int .i64 0) w := by kernel_rfl
theorem im_keyof {k : Int} (h : (Lit.int .i64 k).wf = true) : keyOf Try.prog 3 (.int .i64 k) = some (iLit k) := keyOf_int_mk Try.underlying3 h

section
variable {w w' : World} {b n : Nat} {f : Int → Option Int}

theorem IMap.lt (h : IMap w b n f) : b < w.heap.size := by
  obtain ⟨D, h1, -⟩ := h
  exact h1.lt
theorem IMap.mono (h : IMap w b n f) {m : Nat} (hm : n ≤ m) : IMap w b m f := by
  obtain ⟨D, h1, h2⟩ := h
  exact ⟨D, h1.mono hm, h2⟩
theorem IMap.same (h : IMap w b n f) (hb : w'.heap[b]? = w.heap[b]?) : IMap w' b n f := by
  obtain ⟨D, ⟨es, clock, h1, h2⟩, h3⟩ := h
  exact ⟨D, ⟨es, clock, hb.trans h1, h2⟩, h3⟩
theorem IMap.isMap (h : IMap w b n f) : ∃ es clock, w.heap[b]? = some (.map es clock) := by
  obtain ⟨D, ⟨es, clock, h1, h2⟩, h3⟩ := h
  exact ⟨es, clock, h1⟩
theorem IMap.later (h : IMap w b n f) (hx : Ext w w') : IMap w' b n f := h.same (hx.below.block b h.lt)
theorem IMap.chg {F : Nat → Prop} (h : IMap w b n f) (hc : Chg F w w') (hb : ¬ F b) : IMap w' b n f := h.same (hc.block b h.lt hb)

theorem imap_made (w : World) : IMap (w.alloc (.map #[] 0)) w.heap.size 0 noM :=
  ⟨.map [], World.ownsMap_made _ _ _ _, fun k => ⟨rfl, rfl⟩⟩

theorem IMap.look (h : IMap w b n f) {k : Int} (hk : (Lit.int .i64 k).wf = true) (t : TypeId) (ht : Try.prog.underlying t = some (.map 3 3)) :
    (Instr.lookup t (.map (some b)) (.int .i64 k) false).run Try.prog w = .ok (.int .i64 ((f k).getD 0)) w ∧ (Lit.int .i64 ((f k).getD 0)).wf = true := by
  obtain ⟨D, h1, h2⟩ := h
  obtain ⟨c, hrun, hat, hwc⟩ := h1.lookup_int im_key ht Try.underlying3 (im_zero w) (im_keyof hk)
  have e := (h2 k).2.symm.trans hat
  have : c = (f k).getD 0 := by
    simp only [iDat, DataW.lit.injEq, Lit.int.injEq, true_and] at e
    exact e.symm
  subst this
  exact ⟨hrun, hwc⟩
theorem IMap.look_ok (h : IMap w b n f) {k : Int} (hk : (Lit.int .i64 k).wf = true) (t : TypeId) (ht : Try.prog.underlying t = some (.map 3 3)) :
    (Instr.lookup t (.map (some b)) (.int .i64 k) true).run Try.prog w = .ok (.tuple #[.int .i64 ((f k).getD 0), .bool (f k).isSome]) w := by
  obtain ⟨D, h1, h2⟩ := h
  obtain ⟨v, ps, hrun, hv⟩ := h1.look_ok im_key ht (im_zero w) (plainElem_int (H := Unit) Try.underlying3 (a := 0) (by decide)) (im_keyof hk)
  obtain ⟨c, rfl, hc, hwc⟩ := plainElem_int_inv Try.underlying3 hv
  have e := (h2 k).2.symm.trans (congrArg Prod.fst hc)
  have : c = (f k).getD 0 := by
    simp only [iDat, DataW.lit.injEq, Lit.int.injEq, true_and] at e
    exact e.symm
  subst this
  rw [hrun, (h2 k).1]

theorem turned_chg {w w' : World} {b : Nat} (h : w.mapTurned w' b) : Chg (fun k => k = b) w w' :=
  ⟨h.grown.os, h.grown.tape, h.grown.output, h.grown.size, h.frozen, fun i hi hne => h.grown.block i hi (fun e => hne (Option.some.inj e))⟩

theorem lit_ne {j k : Int} (h : j ≠ k) : iLit j ≠ iLit k := fun e => h (by simpa [iLit] using e)

theorem IMap.put (h : IMap w b n f) (hn : n ≤ 1000000) {k x : Int} (hk : (Lit.int .i64 k).wf = true) (hx : (Lit.int .i64 x).wf = true) (t : TypeId) (ht : Try.prog.underlying t = some (.map 3 3)) :
    ∃ w', (Instr.mapUpdate t (.map (some b)) (.int .i64 k) (.int .i64 x)).run Try.prog w = .ok () w' ∧ IMap w' b (n + 1) (updM f k (some x)) ∧ Chg (fun k => k = b) w w' := by
  obtain ⟨D, h1, h2⟩ := h
  obtain ⟨w', hrun, h3, h4⟩ := h1.store im_key ht (by unfold maxLen; omega) (im_keyof hk) (plainElem_int (H := Unit) Try.underlying3 hx)
  have hm := h1.isMap
  refine ⟨w', hrun, ⟨_, h3, fun j => ?_⟩, turned_chg h4⟩
  unfold updM
  by_cases e : j = k
  · subst e
    rw [if_pos rfl, Maps.has_put_same hm (by trivial), Maps.atKey_put_same hm (by trivial)]
    exact ⟨rfl, rfl⟩
  · rw [if_neg e, Maps.has_put_other (lit_ne (fun x => e x)), Maps.atKey_put_other (lit_ne (fun x => e x))]
    exact h2 j
theorem IMap.del (h : IMap w b n f) {k : Int} (hk : (Lit.int .i64 k).wf = true) (t : TypeId) (ht : Try.prog.underlying t = some (.map 3 3)) (ty : TypeId) :
    ∃ w', (Builtin.delete_ #[t, 3] ty #[.map (some b), .int .i64 k]).run Try.prog w = .ok (.tuple #[]) w' ∧ IMap w' b n (updM f k none) ∧ Chg (fun k => k = b) w w' := by
  obtain ⟨D, h1, h2⟩ := h
  obtain ⟨w', hrun, h3, h4⟩ := h1.drop im_key ht (im_keyof hk) ty
  have hm := h1.isMap
  refine ⟨w', hrun, ⟨_, h3, fun j => ?_⟩, turned_chg h4⟩
  unfold updM
  by_cases e : j = k
  · subst e
    rw [if_pos rfl, Maps.has_del_same, Maps.atKey_del_same]
    exact ⟨rfl, rfl⟩
  · rw [if_neg e, Maps.has_del_other (lit_ne (fun x => e x)), Maps.atKey_del_other (lit_ne (fun x => e x))]
    exact h2 j
end

end Go.Proofs.Ytfgfbmmidijgoaa
