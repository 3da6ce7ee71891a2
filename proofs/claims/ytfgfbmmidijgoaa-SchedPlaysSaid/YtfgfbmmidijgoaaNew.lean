/- The contract of New. -/
import Derived.Test.YtfgfbmmidijgoaaClone
import Derived.Test.YtfgfbmmidijgoaaStepC
import Derived.IntWalk
import Derived.Deep.RegionHeld3
namespace Go.Proofs.Ytfgfbmmidijgoaa
open Go.RowKit
set_option linter.unusedVariables false

/-- tasks as they come to New. -/
def TsIn (w : World) (v : Value) (ts : List (List St)) : Prop :=
  ∃ p cap, v = .slice p ts.length cap ∧ ∀ i, i < ts.length → ∃ gt off u, p = some ⟨gt, off, none⟩ ∧ w.cell? ⟨gt, off + i, none⟩ = some u ∧ gt < w.heap.size ∧ StRow w (fun k => k < w.heap.size) u (ts.getD i [])
theorem StRow.later {w w' : World} {F : Nat → Prop} {v : Value} {t : List St} (h : StRow w F v t) (hF : ∀ g, F g → g < w.heap.size) (hx : Ext w w') : StRow w' F v t :=
  h.same fun g hg _ => hx.below.block g (hF g hg)

structure NewAt (w wr : World) (b bl bc : Nat) (ts : List (List St)) (k : Nat) (tv : Value) (vals : List Value) : Prop where
  ext : Ext w wr
  lo : w.heap.size ≤ b ∧ w.heap.size ≤ bl ∧ w.heap.size ≤ bc ∧ bl ≠ bc
  blk : Blk wr b 54 #[tv, .map (some bl), .map (some bc), .slice none 0 0, .bool false]
  own : wr.ownsRow (b + 1) 23 1 tv k vals
  rows : ∀ i, i < k → StRow wr (fun g => w.heap.size ≤ g ∧ g < wr.heap.size) (vals.getD i undef) (ts.getD i [])
  lk : IMap wr bl 0 noM
  cl : IMap wr bc 0 noM

theorem NewAt.later {w wr w' : World} {b bl bc k : Nat} {ts : List (List St)} {tv : Value} {vals : List Value} (h : NewAt w wr b bl bc ts k tv vals) (hx : Ext wr w') : NewAt w w' b bl bc ts k tv vals :=
  ⟨h.ext.trans hx, h.lo, h.blk.later hx, owns_later h.own hx.below, fun i hi => ((h.rows i hi).later (fun g hg => hg.2) hx).mono fun g hg => ⟨hg.1, by have := hx.size; omega⟩, h.lk.later hx, h.cl.later hx⟩

theorem hasT_block {w w' : World} {g : Nat} {t : TypeId} (h : HasT w g t) (hb : w'.heap[g]? = w.heap[g]?) : HasT w' g t := h.same hb

/-- a row is laid behind the others. -/
theorem NewAt.add {w wr w1 w2 : World} {b bl bc k : Nat} {ts : List (List St)} {tv v tv' : Value} {vals : List Value} {cs : Array Value} (h : NewAt w wr b bl bc ts k tv vals) (hr : ClonedS wr (ts.getD k []) v w1)
    (hown : w2.ownsRow (b + 1) 23 1 tv' (k + 1) (vals ++ [v])) (hc : Chg (fun i => tv.ownBlock = some i) (w1.alloc (.cells cs 23)) w2) : NewAt w (w2.setCell ⟨b, 0, none⟩ tv') b bl bc ts (k + 1) tv' (vals ++ [v]) := by
  have h1 := h.later hr.ext
  have hsz := hc.size
  rw [World.size_alloc] at hsz
  have hsr := hr.ext.size
  have hcw : Chg (fun i => tv.ownBlock = some i) w1 w2 := ((Chg.refl (fun i => tv.ownBlock = some i) w1).alloc _ _).trans hc fun i hi => .inl hi
  have hxw := h.ext.size
  have hvl : vals.length = k := by have := h.own.1; omega
  have hTb : HasT w2 b 54 := (h1.blk.hasT).same (hcw.block b h1.blk.lt fun e => by have := (owns_lt h1.own b e).1; omega)
  have hb2 : Blk w2 b 54 #[tv, .map (some bl), .map (some bc), .slice none 0 0, .bool false] := h1.blk.chg hcw fun e => by have := (owns_lt h1.own b e).1; omega
  have hcb : Chg (fun i => i = b) w2 (w2.setCell ⟨b, 0, none⟩ tv') := (Chg.refl (fun i => i = b) w2).setCell (p := ⟨b, 0, none⟩) (.inl rfl) _
  have hlt : ∀ g, tv.ownBlock = some g → b + 1 ≤ g := fun g e => (owns_lt h1.own g e).1
  have hkeep : ∀ {u : Value} {t : List St}, StRow w1 (fun g => w.heap.size ≤ g ∧ g < w1.heap.size) u t → StRow (w2.setCell ⟨b, 0, none⟩ tv') (fun g => w.heap.size ≤ g ∧ g < (w2.setCell ⟨b, 0, none⟩ tv').heap.size) u t := fun hh =>
    (hh.same fun g hg hT => by
      have e1 : w2.heap[g]? = w1.heap[g]? := hcw.block g hg.2 fun e => (hT.ne (own_hasT h1.own e) (by decide)) rfl
      exact (hcb.block g (by omega) ((hT.same e1).ne hTb (by decide))).trans e1).mono fun g hg => ⟨hg.1, by rw [World.size_setCell]; omega⟩
  refine ⟨?_, h.lo, hb2.set_ 0 tv', owns_chg hown hcb fun g e => by have := (owns_lt hown g e).1; omega, fun i hi => ?_, ?_, ?_⟩
  · have c1 : Ext w w2 := hcw.ext h1.ext fun i hi => by have := hlt i hi; have := h.lo.1; omega
    exact hcb.ext c1 fun i hi => by have := h.lo.1; omega
  · by_cases hik : i < k
    · have e : (vals ++ [v]).getD i undef = vals.getD i undef := by rw [List.getD_eq_getElem?_getD, List.getElem?_append_left (by omega), ← List.getD_eq_getElem?_getD]
      rw [e]
      exact hkeep (h1.rows i hik)
    · obtain rfl : i = k := by omega
      have e : (vals ++ [v]).getD i undef = v := by rw [List.getD_eq_getElem?_getD, List.getElem?_append_right (by omega), hvl]; simp
      rw [e]
      exact hkeep (strow_own hr.row fun g hg => ⟨by have := (owns_lt hr.row g hg).1; omega, (owns_lt hr.row g hg).2⟩)
  · refine (h1.lk.chg hcw fun e => ?_).chg hcb fun e => ?_
    · exact h1.lk.ne_t (own_hasT h1.own e) rfl
    · exact h1.lk.ne_t (h1.blk.hasT) e
  · refine (h1.cl.chg hcw fun e => ?_).chg hcb fun e => ?_
    · exact h1.cl.ne_t (own_hasT h1.own e) rfl
    · exact h1.cl.ne_t (h1.blk.hasT) e

theorem NewAt.keep {w wr w1 w2 : World} {b bl bc k : Nat} {ts : List (List St)} {tv : Value} {vals : List Value} {cs : Array Value} {t : TypeId} (h : NewAt w wr b bl bc ts k tv vals) (hx : Ext wr w1) (hc : Chg (fun i => tv.ownBlock = some i) (w1.alloc (.cells cs t)) w2) :
    w2.cell? ⟨b, 0, none⟩ = some tv ∧ w2.frozen? ⟨b, 0, none⟩ = false ∧ b < w2.heap.size := by
  have h1 := h.later hx
  have hcw : Chg (fun i => tv.ownBlock = some i) w1 w2 := ((Chg.refl (fun i => tv.ownBlock = some i) w1).alloc _ _).trans hc fun i hi => .inl hi
  have hb2 : Blk w2 b 54 #[tv, .map (some bl), .map (some bc), .slice none 0 0, .bool false] := h1.blk.chg hcw fun e => by have := (owns_lt h1.own b e).1; omega
  exact ⟨hb2.cell 0, hb2.frozen 0, hb2.lt⟩
theorem frozen_map (w : World) (a : Addr) : (w.alloc (.map #[] 0)).frozen? a = w.frozen? a := by
  rcases Nat.lt_trichotomy a.block w.heap.size with h | h | h
  · exact World.frozen?_of_block (Below.heap_alloc w _ _ h)
  · have e1 : (w.alloc (.map #[] 0)).heap[a.block]? = some (.map #[] 0) := by rw [h]; exact heap_alloc_new w _
    have e2 : w.heap[a.block]? = none := by simp [h]
    simp [World.frozen?, e1, e2]
  · have e1 : (w.alloc (.map #[] 0)).heap[a.block]? = none := by
      rw [Array.getElem?_eq_none_iff, World.size_alloc]; omega
    have e2 : w.heap[a.block]? = none := by
      rw [Array.getElem?_eq_none_iff]; omega
    simp [World.frozen?, e1, e2]
theorem Ext.allocMap {W w : World} (h : Ext W w) : Ext W (w.alloc (.map #[] 0)) :=
  ⟨h.below.alloc h.size _, fun a => (frozen_map w a).trans (h.frozen a)⟩
theorem NewAt.start (w : World) (ts : List (List St)) : NewAt w (((w.alloc (.map #[] 0)).alloc (.map #[] 0)).alloc (.cells #[.slice none 0 0, .map (some w.heap.size), .map (some (w.heap.size + 1)), .slice none 0 0, .bool false] 54)) (w.heap.size + 1 + 1) w.heap.size (w.heap.size + 1) ts 0 (.slice none 0 0) [] := by
  have h1 := imap_made w
  have h2 := imap_made (w.alloc (.map #[] 0))
  have hb := Blk.new ((w.alloc (.map #[] 0)).alloc (.map #[] 0)) 54 #[.slice none 0 0, .map (some w.heap.size), .map (some (w.heap.size + 1)), .slice none 0 0, .bool false]
  rw [World.size_alloc, World.size_alloc] at hb
  rw [World.size_alloc] at h2
  refine ⟨((Ext.refl w).allocMap.allocMap).alloc _ _, ⟨by omega, by omega, by omega, by omega⟩, hb, owns_nil _ _ _ _, fun i hi => absurd hi (Nat.not_lt_zero _), ?_, ?_⟩
  · exact (h1.later (Ext.refl _).allocMap).later ((Ext.refl _).alloc _ _)
  · exact h2.later ((Ext.refl _).alloc _ _)

theorem total_take (ts : List (List St)) (k : Nat) (h : k < ts.length) : total (ts.take (k + 1)) = total (ts.take k) + (ts.getD k []).length := by
  induction ts generalizing k with
  | nil => exact absurd h (Nat.not_lt_zero _)
  | cons t q ih =>
    cases k with
    | zero => show t.length + 0 = 0 + t.length; omega
    | succ k =>
      have := ih k (by simpa using h)
      show t.length + total (q.take (k + 1)) = t.length + total (q.take k) + (q.getD k []).length
      omega
theorem total_take_le (ts : List (List St)) (k : Nat) : total (ts.take k) ≤ total ts := by
  induction ts generalizing k with
  | nil => simp [total]
  | cons t q ih =>
    cases k with
    | zero => show 0 ≤ _; omega
    | succ k => have := ih k; show t.length + total (q.take k) ≤ t.length + total q; omega

def okSt (x : St) : Bool := decide (1 ≤ x.op ∧ x.op ≤ 5)
def okTs (ts : List (List St)) : Bool := ts.all fun t => t.all okSt
def sc0 (ts : List (List St)) : Sc := { ts := ts, lk := noM, cl := noM, out := [], over := false }
def NewPost (ts : List (List St)) (w : World) (r : Ending) (w' : World) : Prop :=
  Ext w w' ∧ (if 64 < ts.length ∨ 10000 < total ts then r = .returned (.tuple #[.pointer none, .int .i64 2]) else if okTs ts = false then r = .returned (.tuple #[.pointer none, .int .i64 1])
    else ∃ b, r = .returned (.tuple #[.pointer (some ⟨b, 0, none⟩), .int .i64 0]) ∧ SchIs w' b (fun k => w.heap.size ≤ k ∧ k < w'.heap.size) (sc0 ts))

theorem stsL_at : ∀ (t : List St) (j : Nat) (x : St), t[j]? = some x → (stsL t)[j * 3]? = some (.int .i64 x.op) ∧ (stsL t)[j * 3 + 1]? = some (.int .i64 x.a) ∧ (stsL t)[j * 3 + 2]? = some (.int .i64 x.b)
  | [], j, x, h => by simp at h
  | y :: t, 0, x, h => by
    obtain rfl : y = x := by simpa using h
    exact ⟨rfl, rfl, rfl⟩
  | y :: t, j + 1, x, h => by
    have ih := stsL_at t j x (by simpa using h)
    have e : ∀ k, (stsL (y :: t))[k + 3]? = (stsL t)[k]? := fun k => by
      show (stL y ++ stsL t)[k + 3]? = _
      rw [List.getElem?_append_right (by simp [stL])]
      rfl
    rw [show (j + 1) * 3 = j * 3 + 3 by omega, show j * 3 + 3 + 1 = (j * 3 + 1) + 3 by omega, show j * 3 + 3 + 2 = (j * 3 + 2) + 3 by omega, e, e, e]
    exact ih
theorem StRow.at_ {w : World} {F : Nat → Prop} {p : Option Addr} {cap : Nat} {t : List St} (h : StRow w F (.slice p t.length cap) t) {j : Nat} (hj : j < t.length) :
    ∃ g off x, p = some ⟨g, off, none⟩ ∧ F g ∧ t[j]? = some x ∧ w.cell? ⟨g, off + j * 3, none⟩ = some (.int .i64 x.op) ∧ w.cell? ⟨g, off + j * 3 + 1, none⟩ = some (.int .i64 x.a) ∧ w.cell? ⟨g, off + j * 3 + 2, none⟩ = some (.int .i64 x.b) := by
  obtain ⟨p', cap', e, h1, h2, h3⟩ := h
  cases e
  rcases h3 with rfl | ⟨g, off, e2, hF, -, hc⟩
  · exact absurd hj (Nat.not_lt_zero _)
  · obtain ⟨c0, c1, c2⟩ := stsL_at t j t[j] (List.getElem?_eq_getElem hj)
    exact ⟨g, off, t[j], e2, hF, List.getElem?_eq_getElem hj, (hc _ (by omega)).trans c0, (by rw [Nat.add_assoc]; exact (hc _ (by omega)).trans c1), (by rw [Nat.add_assoc]; exact (hc _ (by omega)).trans c2)⟩

theorem not_true_all {t : List St} {j : Nat} (h : (t.take j).all okSt = false) : t.all okSt = false := by
  rw [List.all_eq_false] at h ⊢
  obtain ⟨x, hx, h⟩ := h
  exact ⟨x, List.mem_of_mem_take hx, h⟩
theorem okTs_at {ts : List (List St)} (h : okTs ts = true) {i : Nat} {x : St} (hx : x ∈ ts.getD i []) : 1 ≤ x.op ∧ x.op ≤ 5 := by
  unfold okTs at h
  rw [List.all_eq_true] at h
  by_cases hi : i < ts.length
  · rw [List.getD_eq_getElem?_getD, List.getElem?_eq_getElem hi] at hx
    have h1 := h _ (List.getElem_mem hi)
    rw [List.all_eq_true] at h1
    have h2 := h1 x hx
    simpa [okSt] using h2
  · rw [List.getD_eq_getElem?_getD, List.getElem?_eq_none (by omega)] at hx
    simp at hx
/-- all rows are laid: a scheduler. -/
theorem NewAt.sch {w wr : World} {b bl bc : Nat} {ts : List (List St)} {tv : Value} {vals : List Value} (h : NewAt w wr b bl bc ts ts.length tv vals) (hl : ts.length ≤ 64) (ht : total ts ≤ 10000) (hok : okTs ts = true) (hwf : ∀ i x, x ∈ ts.getD i [] → (Lit.int .i64 x.a).wf = true ∧ (Lit.int .i64 x.b).wf = true) :
    SchIs wr b (fun k => w.heap.size ≤ k ∧ k < wr.heap.size) (sc0 ts) := by
  have hb := h.blk.lt
  have hlo := h.lo
  have h1 := h.lk.lt
  have h2 := h.cl.lt
  refine ⟨⟨tv, .slice none 0 0, vals, bl, bc, 0, 0, ⟨h.blk, h.own, fun i hi => h.rows i hi, h.lk, h.cl, h.lo.2.2.2, owns_nil _ _ _ _, ⟨?_, by show (0 : Nat) ≤ 1; omega, hl, fun i x hx => ?_⟩, ⟨h.lo.1, hb⟩, ⟨h.lo.2.1, h1⟩, ⟨h.lo.2.2.1, h2⟩, fun g hg => ?_, fun g hg => by cases hg⟩⟩, fun k hk => hk.2⟩
  · show 0 + 0 + 0 + total ts ≤ 10000 + 0; omega
  · exact ⟨(okTs_at hok hx).1, (okTs_at hok hx).2, (hwf i x hx).1, (hwf i x hx).2⟩
  · have := owns_lt h.own g hg
    exact ⟨by omega, this.2⟩
theorem row_info : (Try.prog.info? 23).map (fun i => (i.zero, i.size, i.bytes)) = some (some (.slice none 0 0), 1, 24) := by kernel_rfl

set_option maxRecDepth 20000 in
set_option maxHeartbeats 8000000 in
theorem new_any (ts : List (List St)) (v : Value) (w : World) (h : TsIn w v ts) (hn : ts.length ≤ 1000) (ht : total ts ≤ 20000) (hwf : ∀ i x, x ∈ ts.getD i [] → (Lit.int .i64 x.a).wf = true ∧ (Lit.int .i64 x.b).wf = true) :
    Calls Try.prog 11 #[v] w (NewPost ts w) := by
  obtain ⟨i0, hi0, hz0, hz1, hz2⟩ := info_parts row_info
  obtain ⟨p, cap, rfl, hrow⟩ := h
  have hmk : ∀ w : World, (Instr.makeMap 52 none).run Try.prog w = .ok (.map (some w.heap.size)) (w.alloc (.map #[] 0)) := fun _ => by kernel_rfl
  have HR := Lib.hid hrow
  have HW := Lib.hid hwf
  clear hrow hwf
  go_enter Try.func11, Try.ntmps11
  go_wp2
  go_loopw [4, 18] (fun n i wr => ∃ k : Nat, k ≤ ts.length ∧ n = .int .i64 (total (ts.take k)) ∧ i = .int .i64 k ∧ ∃ tv vals, Hid (NewAt w wr (w.heap.size + 1 + 1) w.heap.size (w.heap.size + 1) ts k tv vals)) (fun _ i _ => ts.length - (intOf i).toNat)
  case atStart => exact ⟨0, by omega, rfl, rfl, _, _, Lib.hid (NewAt.start w ts)⟩
  case round =>
    obtain ⟨k, hk, rfl, rfl, tv, vals, hR⟩ := hrel
    by_cases hlt : k < ts.length
    · obtain ⟨gt, off, u, rfl, hc, hgt, hst⟩ := HR.out k hlt
      have hc := (hR.out.ext.cell _ _ hgt).trans hc
      have hst := (hst.later (fun _ h => h) hR.out.ext)
      obtain ⟨pu, capu, rfl, -⟩ := id hst
      have htt := total_take ts k hlt
      have htl := total_take_le ts (k + 1)
      have hbw := hR.out.blk.lt
      have b0 : wr.cell? ⟨w.heap.size + 1 + 1, 0, none⟩ = some tv := hR.out.blk.cell 0
      have fz := hR.out.blk.frozen 0
      have HCL := Lib.hid (fun w1 (hx : Ext wr w1) => clone_steps (fun g => g < w.heap.size) (ts.getD k []) _ w1 (hst.later (fun g hg => Nat.lt_of_lt_of_le hg hR.out.ext.size) hx) (by omega))
      clear hst
      generalize hge : ts.getD k [] = t at *
      have HGT := Lib.hid hge
      clear hge
      go_wp2_with fail
      have hB := hR.out.lo
      go_region_law (first
        | (refine step_call rfl 27 31 23 rfl (.slice pu t.length capu) (by simp [Act.eval, Act.put]) (fun _ => by kernel_rfl) _ (HCL.out _ (Ext.refl _).drew) ?_; rintro r w1 ⟨v1, rfl, hC⟩; refine ⟨_, rfl, ?_⟩; have HC := Lib.hid hC; have HX := Lib.hid ((Ext.refl wr).drew.trans hC.ext); obtain ⟨pv, capv, rfl, -, -, -⟩ := owns_form hC.row; have b1 := (HX.out.cell _ _ hbw).trans b0; have lb1 := Nat.lt_of_lt_of_le hbw HX.out.size; clear hC)
        | (refine step_append_all (w.heap.size + 1 + 1 + 1) rfl (.tmp 30) (.tmp 33) 22 rfl 23 i0 _ 1 24 Try.underlying22 hi0 hz0 hz1 hz2 rfl (by decide) tv k vals (by simp [Act.eval]) (owns_later hR.out.own (HX.out.alloc _ _).below) (.slice (some ⟨w1.heap.size, 0, none⟩) 1 1) 1 [.slice pv t.length capv] (by simp [Act.eval]) (src_blk (t := 23) (Blk.new _ _ _) rfl) (by intro u hu; simp at hu; subst hu; rfl) (by unfold maxLen; omega) (by omega) (by have := HX.out.size; simp; omega) ?_; intro v' w2 hown hchg hat; obtain ⟨c3', fb', lb'⟩ := hR.out.keep HX.out hchg; have HN := Lib.hid ((hR.out.later (Ext.refl wr).drew).add (by rw [HGT.out]; exact HC.out) hown hchg); obtain ⟨p', cap', rfl, -, -, -⟩ := owns_form hown; clear hown hchg hat))
      all_goals (
        go_wp2_with fail
        go_roundw
        case rel => exact ⟨k + 1, by omega, by rw [htt]; go_num, by go_num, _, _, HN⟩
        case measure => simp [intOf]; omega)
    · obtain rfl : k = ts.length := by omega
      rw [List.take_length]
      have HN := hR
      clear hR hk hlt
      by_cases h64 : 64 < ts.length
      · have HP := Lib.hid (show 64 < ts.length ∨ 10000 < total ts from .inl h64)
        go_wp2_with fail
        go_ret2
        refine ⟨HN.out.ext, ?_⟩
        rw [if_pos HP.out]; rfl
      by_cases ht4 : 10000 < total ts
      · have HP := Lib.hid (show 64 < ts.length ∨ 10000 < total ts from .inr ht4)
        go_wp2_with fail
        go_ret2
        refine ⟨HN.out.ext, ?_⟩
        rw [if_pos HP.out]; rfl
      have HP := Lib.hid (show ¬ (64 < ts.length ∨ 10000 < total ts) by omega)
      obtain ⟨W1, rfl⟩ : ∃ W1, W1 = wr := ⟨_, rfl⟩
      go_wp2_with fail
      go_loopw [47] (fun i wr => ∃ k : Nat, k ≤ ts.length ∧ i = .int .i64 k ∧ Hid (Ext W1 wr ∧ ∀ j, j < k → (ts.getD j []).all okSt = true)) (fun i _ => ts.length - (intOf i).toNat)
      case atStart => exact ⟨0, by omega, rfl, Lib.hid ⟨Ext.refl _, fun j hj => absurd hj (Nat.not_lt_zero _)⟩⟩
      case round =>
        obtain ⟨k, hk, rfl, hR⟩ := hrel
        have hX2 := HN.out.ext.trans hR.out.1
        by_cases hlt : k < ts.length
        · obtain ⟨gt, off, u, rfl, hc, hgt, hst⟩ := HR.out k hlt
          have HXX := Lib.hid hX2
          have hc := (hX2.cell _ _ hgt).trans hc
          obtain ⟨pu, capu, rfl, -⟩ := id hst
          have htt := total_le ts k
          have HST := Lib.hid hst
          have HOK := Lib.hid (fun (h1 : (ts.getD k []).all okSt = true) j (hj : j < k + 1) => show (ts.getD j []).all okSt = true by
            by_cases e : j < k
            · exact hR.out.2 j e
            · obtain rfl : j = k := by omega
              exact h1)
          have HBAD := Lib.hid (fun (h1 : (ts.getD k []).all okSt = false) => show okTs ts = false by
            unfold okTs
            rw [List.all_eq_false]
            refine ⟨ts[k], List.getElem_mem hlt, ?_⟩
            rw [List.getD_eq_getElem?_getD, List.getElem?_eq_getElem hlt] at h1
            simpa using h1)
          clear hst hX2
          generalize ts.getD k [] = t at *
          obtain ⟨W2, rfl⟩ : ∃ W2, W2 = wr := ⟨_, rfl⟩
          go_wp2_with fail
          go_loopw [53] (fun i wr => ∃ j : Nat, j ≤ t.length ∧ i = .int .i64 j ∧ Hid (Ext W2 wr ∧ (t.take j).all okSt = true)) (fun i _ => t.length - (intOf i).toNat)
          case atStart => exact ⟨0, by omega, rfl, Lib.hid ⟨Ext.refl _, rfl⟩⟩
          case round =>
            obtain ⟨j, hj, rfl, hI⟩ := hrel
            by_cases hjt : j < t.length
            · obtain ⟨g, o, x, rfl, hg, hx, x0, x1, x2⟩ := HST.out.at_ hjt
              have HE := Lib.hid (HXX.out.trans hI.out.1)
              have x0 := (HE.out.cell _ _ hg).trans x0
              have x1 := (HE.out.cell _ _ hg).trans x1
              have x2 := (HE.out.cell _ _ hg).trans x2
              have HT := Lib.hid (show (t.take (j + 1)).all okSt = ((t.take j).all okSt && okSt x) by
                rw [List.take_add_one, hx, List.all_append]; simp)
              clear hx
              by_cases o1 : x.op < 1
              · have HF := Lib.hid (HBAD.out (by
                  have := HT.out
                  rw [show okSt x = false by simp [okSt]; omega, Bool.and_false] at this
                  exact not_true_all this))
                go_wp2_with fail
                go_ret2
                refine ⟨(HE.out.alloc _ _), ?_⟩
                rw [if_neg HP.out, if_pos HF.out]; rfl
              · by_cases o5 : 5 < x.op
                · have HF := Lib.hid (HBAD.out (by
                    have := HT.out
                    rw [show okSt x = false by simp [okSt]; omega, Bool.and_false] at this
                    exact not_true_all this))
                  go_wp2_with fail
                  go_ret2
                  refine ⟨(HE.out.alloc _ _), ?_⟩
                  rw [if_neg HP.out, if_pos HF.out]; rfl
                · have HI2 := Lib.hid (show Ext W2 (wr.alloc (.cells #[.int .i64 x.op, .int .i64 x.a, .int .i64 x.b] 25)) ∧ (t.take (j + 1)).all okSt = true from ⟨hI.out.1.alloc _ _, by rw [HT.out, hI.out.2, show okSt x = true by simp [okSt]; omega]; rfl⟩)
                  go_wp2_with fail
                  go_roundw
                  case rel => exact ⟨j + 1, by omega, by go_num, HI2⟩
                  case measure => simp [intOf]; omega
            · obtain rfl : j = t.length := by omega
              have HI2 := Lib.hid (show Ext W1 wr ∧ ∀ j, j < k + 1 → (ts.getD j []).all okSt = true from ⟨hR.out.1.trans hI.out.1, HOK.out (by have := hI.out.2; rwa [List.take_length] at this)⟩)
              go_wp2_with fail
              go_roundw
              case rel => exact ⟨k + 1, by omega, by go_num, HI2⟩
              case measure => simp [intOf]; omega
        · obtain rfl : k = ts.length := by omega
          have HOKT := Lib.hid (show okTs ts = true by
            unfold okTs
            rw [List.all_eq_true]
            intro t ht
            obtain ⟨i, hi, rfl⟩ := List.getElem_of_mem ht
            have := hR.out.2 i hi
            rwa [List.getD_eq_getElem?_getD, List.getElem?_eq_getElem hi] at this)
          go_wp2_with fail
          go_ret2
          refine ⟨hX2, ?_⟩
          rw [if_neg HP.out, if_neg (by rw [HOKT.out]; simp)]
          exact ⟨_, rfl, (HN.out.later hR.out.1).sch (by omega) (by omega) HOKT.out HW.out⟩

end Go.Proofs.Ytfgfbmmidijgoaa
