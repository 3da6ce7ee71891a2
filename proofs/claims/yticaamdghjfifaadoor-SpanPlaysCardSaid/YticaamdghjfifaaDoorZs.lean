/- Rows of numbers that came in, nil or not. -/
import Derived.Test.YticaamdghjfifaaDoorRows
import Derived.Test.YticaamdghjfifaaDoorChg
import Derived.Test.YticaamdghjfifaaDoorFrame
namespace Go.Proofs.YticaamdghjfifaaDoor
open Go.RowKit Go.ChangeShapes Go.WideShapes
set_option linter.unusedVariables false

/-- the cells of a row of numbers that came in. -/
def ZsAt (W : World) (k : IntKind) (p : Option Addr) (zs : List Int) : Prop :=
  zs = [] ∨ ∃ b off, p = some ⟨b, off, none⟩ ∧ b < W.heap.size ∧ ∀ i (hi : i < zs.length), W.cell? ⟨b, off + i, none⟩ = some (.int k zs[i])

theorem ZsAt.get {W w : World} {k : IntKind} {p : Option Addr} {zs : List Int} (h : ZsAt W k p zs) {i : Nat} (hi : i < zs.length) (hx : Ext W w) :
    ∃ b off, p = some ⟨b, off, none⟩ ∧ b < W.heap.size ∧ w.cell? ⟨b, off + i, none⟩ = some (.int k (zs.getD i 0)) := by
  rcases h with rfl | ⟨b, off, rfl, hb, hc⟩
  · simp at hi
  · refine ⟨b, off, rfl, hb, (hx.cell b _ hb).trans ?_⟩
    rw [hc i hi]; simp [List.getD, hi]

theorem ZsAt.at_ {W w : World} {k : IntKind} {b off : Nat} {zs : List Int} (h : ZsAt W k (some ⟨b, off, none⟩) zs) {i : Nat} (hi : i < zs.length) (hx : Ext W w) :
    b < W.heap.size ∧ w.cell? ⟨b, off + i, none⟩ = some (.int k (zs.getD i 0)) := by
  obtain ⟨b', off', e, hb, hc⟩ := h.get hi hx
  cases e
  exact ⟨hb, hc⟩

/-- what the step to a row hands in. -/
def ZsIn (W : World) (k : IntKind) (v : Value) (zs : List Int) : Prop := (∀ n ∈ zs, (Lit.int k n).wf = true) ∧ zs.length ≤ maxLen ∧
  ((v = .slice none 0 0 ∧ zs = []) ∨ ∃ b off cap, v = .slice (some ⟨b, off, none⟩) zs.length cap ∧ b < W.heap.size ∧ ∀ i (hi : i < zs.length), W.cell? ⟨b, off + i, none⟩ = some (.int k zs[i]))

theorem ZsIn.open_ {W : World} {k : IntKind} {v : Value} {zs : List Int} (h : ZsIn W k v zs) : ∃ p cap, v = .slice p zs.length cap ∧ ZsAt W k p zs ∧ zs.length ≤ 9223372036854775807 := by
  obtain ⟨-, hm, h⟩ := h
  unfold maxLen at hm
  rcases h with ⟨rfl, rfl⟩ | ⟨b, off, cap, rfl, hb, hc⟩
  · exact ⟨none, 0, rfl, .inl rfl, by simp⟩
  · exact ⟨_, cap, rfl, .inr ⟨b, off, rfl, hb, hc⟩, by omega⟩

theorem ZsIn.wf {W : World} {k : IntKind} {v : Value} {zs : List Int} (h : ZsIn W k v zs) (i : Nat) (hi : i < zs.length) : (Lit.int k (zs.getD i 0)).wf = true := by
  have : zs.getD i 0 = zs[i] := by simp [List.getD, hi]
  rw [this]
  exact h.1 _ (List.getElem_mem hi)

theorem i64_of {a : Int} (h : (Lit.int .i64 a).wf = true) : -9223372036854775808 ≤ a ∧ a ≤ 9223372036854775807 := by
  simp [Lit.wf, IntKind.min, IntKind.max, IntKind.signed, IntKind.bits] at h; omega

/-- a row of ints. -/
theorem open_is {H : Type} {enc : TypeId × Value → H} {W : World} {base : Nat} {v : Value} {d : DataW H} {p : List MemPlace} (hval : Value.okWide Tryd.prog W .any base 38 v) (h : DataW.Trod enc Tryd.prog W 0 (fun _ => true) true 38 v d p) :
    ∃ zs : List Int, ZsIn W .i64 v zs :=
  open_nums Tryd.underlying38 Tryd.underlying3 (by kernel_rfl) hval h

end Go.Proofs.YticaamdghjfifaaDoor
