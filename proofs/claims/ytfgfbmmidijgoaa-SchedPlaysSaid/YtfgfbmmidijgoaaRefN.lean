/- The contract of the reference's New. -/
import Derived.Test.YtfgfbmmidijgoaaRefF
namespace Go.Proofs.Ytfgfbmmidijgoaa
open Go.RowKit
set_option linter.unusedVariables false

/-- so many tasks are laid. -/
structure RNewAt (w wr : World) (b : Nat) (ts : List (List St)) (k : Nat) (tv av : Value) (vals : List Value) : Prop where
  ext : Ext w wr
  lo : w.heap.size ≤ b
  blk : Blk wr b 63 #[tv, av, .slice none 0 0, .slice none 0 0, .slice none 0 0, .bool false]
  tsk : wr.ownsRow (b + 1) 23 1 tv k vals
  at_ : wr.ownsRow (b + 1) 3 1 av k (natsL (List.replicate k 0))
  rows : ∀ i, i < k → StRow wr (fun g => w.heap.size ≤ g ∧ g < wr.heap.size) (vals.getD i undef) (ts.getD i [])
theorem RNewAt.later {w wr w' : World} {b k : Nat} {ts : List (List St)} {tv av : Value} {vals : List Value} (h : RNewAt w wr b ts k tv av vals) (hx : Ext wr w') : RNewAt w w' b ts k tv av vals :=
  ⟨h.ext.trans hx, h.lo, h.blk.later hx, owns_later h.tsk hx.below, owns_later h.at_ hx.below, fun i hi => ((h.rows i hi).later (fun g hg => hg.2) hx).mono fun g hg => ⟨hg.1, Nat.lt_of_lt_of_le hg.2 hx.size⟩⟩
theorem RNewAt.start (w : World) (ts : List (List St)) : RNewAt w (w.alloc (.cells #[.slice none 0 0, .slice none 0 0, .slice none 0 0, .slice none 0 0, .slice none 0 0, .bool false] 63)) w.heap.size ts 0 (.slice none 0 0) (.slice none 0 0) [] :=
  ⟨(Ext.refl w).alloc _ _, Nat.le_refl _, Blk.new w _ _, owns_nil _ _ _ _, owns_nil _ _ _ _, fun i hi => absurd hi (Nat.not_lt_zero _)⟩
theorem RNewAt.is {w wr : World} {b : Nat} {ts : List (List St)} {tv av : Value} {vals : List Value} (h : RNewAt w wr b ts ts.length tv av vals) (hl : ts.length ≤ 64) (ht : total ts ≤ 10000) (hok : okTs ts = true) (hwf : ∀ i x, x ∈ ts.getD i [] → (Lit.int .i64 x.a).wf = true ∧ (Lit.int .i64 x.b).wf = true) :
    RIs wr b (fun g => w.heap.size ≤ g ∧ g < wr.heap.size) ⟨ts, List.replicate ts.length 0, [], [], [], false⟩ ∧ absS ⟨ts, List.replicate ts.length 0, [], [], [], false⟩ = sc0 ts := by
  have hz : ∀ i, (List.replicate ts.length 0).getD i 0 = 0 := fun i => by
    rw [List.getD_eq_getElem?_getD, List.getElem?_replicate]
    split <;> rfl
  have habs : absT ts (List.replicate ts.length 0) = ts := by
    refine List.ext_getElem? fun i => ?_
    unfold absT
    rw [List.getElem?_map]
    by_cases hi : i < ts.length
    · rw [List.getElem?_range hi]
      show some ((ts.getD i []).drop ((List.replicate ts.length 0).getD i 0)) = _
      rw [hz i, List.drop_zero, List.getD_eq_getElem?_getD, List.getElem?_eq_getElem hi]
      rfl
    · rw [List.getElem?_eq_none (by simp; omega), List.getElem?_eq_none (by omega)]
      rfl
  have hlo := h.lo
  have hin : ∀ {v : Value} {s q : Nat} {e : TypeId} {xs : List Value}, wr.ownsRow (b + 1) e s v q xs → ∀ g, v.ownBlock = some g → w.heap.size ≤ g ∧ g < wr.heap.size := fun ho g hg => by
    have := owns_lt ho g hg
    omega
  have hat : wr.ownsRow (b + 1) 3 1 av (List.replicate ts.length 0).length (natsL (List.replicate ts.length 0)) := by
    rw [List.length_replicate]
    exact h.at_
  refine ⟨⟨⟨tv, av, .slice none 0 0, .slice none 0 0, .slice none 0 0, vals, ⟨h.blk, h.tsk, h.rows, hat, owns_nil _ _ _ _, owns_nil _ _ _ _, owns_nil _ _ _ _, (fun g _ hh => by cases hh), (fun g _ hh => by cases hh), ⟨hlo, h.blk.lt⟩, hin h.tsk, hin h.at_, (fun g hh => by cases hh), (fun g hh => by cases hh), (fun g hh => by cases hh), List.length_replicate, fun i hi => by rw [hz i]; exact Nat.zero_le _, hl, fun i x hx => ?_, ?_, ht⟩⟩, fun k hk => hk.2⟩, ?_⟩
  · exact ⟨(okTs_at hok hx).1, (okTs_at hok hx).2, (hwf i x hx).1, (hwf i x hx).2⟩
  · show 0 + 0 + 0 + total (absT ts (List.replicate ts.length 0)) ≤ 10000
    rw [habs]; omega
  · unfold absS sc0
    rw [habs]
    rfl

def RNewPost (ts : List (List St)) (w : World) (e : Ending) (w' : World) : Prop := Ext w w' ∧
  if 64 < ts.length ∨ 10000 < total ts then e = .returned (.tuple #[.pointer none, .int .i64 2])
  else if okTs ts = false then e = .returned (.tuple #[.pointer none, .int .i64 1])
  else ∃ b F r, e = .returned (.tuple #[.pointer (some ⟨b, 0, none⟩), .int .i64 0]) ∧ RIs w' b F r ∧ absS r = sc0 ts ∧ ∀ k, F k → w.heap.size ≤ k

end Go.Proofs.Ytfgfbmmidijgoaa
