/- The walk of the reference's New. -/
import Derived.Test.YtfgfbmmidijgoaaRefN
namespace Go.Proofs.Ytfgfbmmidijgoaa
open Go.RowKit
set_option linter.unusedVariables false

theorem chg_undrew2 {F : Nat → Prop} {a w : World} (h : Chg F a.drew w) : Chg F a w := ⟨h.os, h.tape, h.output, h.size, h.frozen, h.block⟩
/-- one task's steps are laid, its place not yet. -/
structure RNewMid (w wr : World) (b : Nat) (ts : List (List St)) (k : Nat) (tv av : Value) (vals : List Value) : Prop where
  ext : Ext w wr
  lo : w.heap.size ≤ b
  blk : Blk wr b 63 #[tv, av, .slice none 0 0, .slice none 0 0, .slice none 0 0, .bool false]
  tsk : wr.ownsRow (b + 1) 23 1 tv (k + 1) vals
  at_ : wr.ownsRow (b + 1) 3 1 av k (natsL (List.replicate k 0))
  rows : ∀ i, i < k + 1 → StRow wr (fun g => w.heap.size ≤ g ∧ g < wr.heap.size) (vals.getD i undef) (ts.getD i [])
theorem RNewAt.add {w wr w1 w2 : World} {b k : Nat} {ts : List (List St)} {tv av u tv' : Value} {vals : List Value} {cs : Array Value} (h : RNewAt w wr b ts k tv av vals) (hx : Ext wr w1) (hu : w1.ownsRow wr.heap.size 25 3 u (ts.getD k []).length (stsL (ts.getD k [])))
    (hown : w2.ownsRow (b + 1) 23 1 tv' (k + 1) (vals ++ [u])) (hc : Chg (fun i => tv.ownBlock = some i) (w1.alloc (.cells cs 23)) w2) (n : Nat) : RNewMid w ((w2.setCell ⟨b, 0, none⟩ tv').drewN n) b ts k tv' av (vals ++ [u]) := by
  have hcw : Chg (fun i => tv.ownBlock = some i) wr w2 := (Chg.of_ext (hx.alloc cs 23) (fun i => tv.ownBlock = some i)).trans hc fun i hi => .inl hi
  have hc1 : Chg (fun i => tv.ownBlock = some i) w1 w2 := ((Chg.refl (fun i => tv.ownBlock = some i) w1).alloc cs 23).trans hc fun i hi => .inl hi
  have hlo := h.lo
  have hsz := hx.size
  have hvl : vals.length = k := by have := h.tsk.1; omega
  have hblk : Blk w2 b 63 #[tv, av, .slice none 0 0, .slice none 0 0, .slice none 0 0, .bool false] := h.blk.chg hcw fun e => own_blk_ne h.tsk h.blk (by decide) e
  have hset : ∀ {v : Value} {B s q : Nat} {e : TypeId} {xs : List Value}, w2.ownsRow B e s v q xs → e ≠ 63 → ((w2.setCell ⟨b, 0, none⟩ tv').drewN n).ownsRow B e s v q xs := fun ho he => owns_blocks (owns_blocks (w1 := w2.setCell ⟨b, 0, none⟩ tv') ho fun k hk => Below.heap_setCell w2 _ _ k fun e => own_blk_ne ho hblk he (by rw [hk, e])) fun _ _ => rfl
  have hrow : ∀ {v : Value} {t : List St} {wA : World}, Chg (fun i => tv.ownBlock = some i) wA w2 → (∀ i, tv.ownBlock = some i → HasT wA i 23) → StRow wA (fun g => w.heap.size ≤ g ∧ g < wA.heap.size) v t → StRow ((w2.setCell ⟨b, 0, none⟩ tv').drewN n) (fun g => w.heap.size ≤ g ∧ g < ((w2.setCell ⟨b, 0, none⟩ tv').drewN n).heap.size) v t := fun hcA hty hs => by
    have h1 := hs.same (w' := w2) fun g hg hT => hcA.block g hg.2 fun e => hT.ne (hty g e) (by decide) rfl
    have h2 := h1.same (w' := (w2.setCell ⟨b, 0, none⟩ tv').drewN n) fun g hg hT => Below.heap_setCell w2 _ _ g fun e => hT.ne hblk.hasT (by decide) e
    refine h2.mono fun g hg => ⟨hg.1, ?_⟩
    have := hcA.size
    show g < (w2.setCell _ _).heap.size
    rw [World.size_setCell]; omega
  refine ⟨((hcw.ext h.ext fun i hi => ?_).setCell (by show w.heap.size ≤ b; omega) _).drewN' n, hlo, (hblk.set_ 0 tv').drewN n, hset hown (by decide), hset (owns_chg h.at_ hcw fun g hg e => (own_hasT h.at_ hg).ne (own_hasT h.tsk e) (by decide) rfl) (by decide), fun i hi => ?_⟩
  · have := (owns_lt h.tsk i hi).1; omega
  · by_cases e : i < k
    · rw [List.getD_eq_getElem?_getD, List.getElem?_append_left (by omega), ← List.getD_eq_getElem?_getD]
      exact hrow hcw (fun i hi => own_hasT h.tsk hi) (h.rows i e)
    · obtain rfl : i = k := by omega
      rw [List.getD_eq_getElem?_getD, List.getElem?_append_right (by omega), hvl, Nat.sub_self]
      show StRow _ _ u _
      refine hrow hc1 (fun i hi => (own_hasT h.tsk hi).same (hx.below.block i (owns_lt h.tsk i hi).2)) (strow_own hu fun g hg => ?_)
      have := owns_lt hu g hg
      have := h.ext.size
      omega
theorem RNewMid.add {w wr w2 : World} {b k : Nat} {ts : List (List St)} {tv av av' : Value} {vals : List Value} {cs : Array Value} (h : RNewMid w wr b ts k tv av vals)
    (hown : w2.ownsRow (b + 1) 3 1 av' (k + 1) (natsL (List.replicate k 0) ++ [.int .i64 0])) (hc : Chg (fun i => av.ownBlock = some i) (wr.alloc (.cells cs 3)) w2) : RNewAt w (w2.setCell ⟨b, 1, none⟩ av') b ts (k + 1) tv av' vals := by
  have hcw : Chg (fun i => av.ownBlock = some i) wr w2 := ((Chg.refl (fun i => av.ownBlock = some i) wr).alloc cs 3).trans hc fun i hi => .inl hi
  have hlo := h.lo
  have hblk : Blk w2 b 63 #[tv, av, .slice none 0 0, .slice none 0 0, .slice none 0 0, .bool false] := h.blk.chg hcw fun e => own_blk_ne h.at_ h.blk (by decide) e
  have hset : ∀ {v : Value} {B s q : Nat} {e : TypeId} {xs : List Value}, w2.ownsRow B e s v q xs → e ≠ 63 → (w2.setCell ⟨b, 1, none⟩ av').ownsRow B e s v q xs := fun ho he => owns_blocks ho fun k hk => Below.heap_setCell w2 _ _ k fun e => own_blk_ne ho hblk he (by rw [hk, e])
  refine ⟨(hcw.ext h.ext fun i hi => ?_).setCell (by show w.heap.size ≤ b; omega) _, hlo, hblk.set_ 1 av', hset (owns_chg h.tsk hcw fun g hg e => (own_hasT h.tsk hg).ne (own_hasT h.at_ e) (by decide) rfl) (by decide), ?_, fun i hi => ?_⟩
  · have := (owns_lt h.at_ i hi).1; omega
  · refine hset ?_ (by decide)
    rw [List.replicate_succ']
    unfold natsL at hown ⊢
    rw [List.map_append]
    exact hown
  · have h1 := (h.rows i hi).same (w' := w2) fun g hg hT => hcw.block g hg.2 fun e => hT.ne (own_hasT h.at_ e) (by decide) rfl
    have h2 := h1.same (w' := w2.setCell ⟨b, 1, none⟩ av') fun g hg hT => Below.heap_setCell w2 _ _ g fun e => hT.ne hblk.hasT (by decide) e
    refine h2.mono fun g hg => ⟨hg.1, ?_⟩
    have := hcw.size
    rw [World.size_setCell]; omega

end Go.Proofs.Ytfgfbmmidijgoaa
