/- The contracts of slices.Clone, and of what a scheduler tells of itself. -/
import Derived.Test.YtfgfbmmidijgoaaGo2
namespace Go.Proofs.Ytfgfbmmidijgoaa
open Go.RowKit
set_option linter.unusedVariables false

theorem step_info : (Try.prog.info? 25).map (fun i => (i.zero, i.size, i.bytes)) = some (some (.agg #[.int .i64 0, .int .i64 0, .int .i64 0]), 3, 24) := by kernel_rfl

/-- a copy of a row of steps. -/
structure ClonedS (w : World) (t : List St) (v : Value) (w' : World) : Prop where
  ext : Ext w w'
  row : w'.ownsRow w.heap.size 25 3 v t.length (stsL t)
structure ClonedI (w : World) (xs : List Int) (v : Value) (w' : World) : Prop where
  ext : Ext w w'
  row : w'.ownsRow w.heap.size 3 1 v xs.length (xs.map (Value.int .i64))

theorem cell_addr {w : World} {a : Addr} {v : Value} (h : w.cell? a = some v) : a = ⟨a.block, a.off, none⟩ ∧ a.block < w.heap.size := by
  unfold World.cell? at h
  split at h
  · rename_i c t f hb
    refine ⟨?_, (Array.getElem?_eq_some_iff.1 hb).1⟩
    by_cases hs : a.spot.isSome
    · rw [if_pos hs] at h; cases h
    · cases a with
      | mk b o s => cases s <;> simp_all
  · cases h
theorem src_later {w w' : World} {size : Nat} {x : Value} {m : Nat} {news : List Value} (h : Src w size x m news) (hx : Ext w w') (hs : 0 < size) : Src w' size x m news := by
  rcases h with h | ⟨a, c, e, hl, hc⟩
  · exact .inl h
  · refine .inr ⟨a, c, e, hl, fun j u hu => ?_⟩
    have h1 := hc j u hu
    exact (World.cell?_of_block (hx.below.block _ (cell_addr h1).2)).trans h1
theorem ints_one (xs : List Int) : ∀ u ∈ xs.map (Value.int .i64), u.oneCell' = true := by
  intro u hu
  obtain ⟨x, -, rfl⟩ := List.mem_map.1 hu
  rfl


theorem src_own {w : World} {B s n : Nat} {e : TypeId} {v : Value} {xs : List Value} (h : w.ownsRow B e s v n xs) : Src w s v n xs := by
  have hl := h.1
  rcases h.2 with ⟨rfl, rfl⟩ | ⟨g, cap, cur, rfl, hb, hg, hnc, hcm, hcs, htk⟩
  · exact .inl ⟨rfl, rfl, List.eq_nil_of_length_eq_zero (by simpa using hl)⟩
  · refine .inr ⟨_, cap, rfl, hl, fun j u hu => ?_⟩
    have hj := (List.getElem?_eq_some_iff.1 hu).1
    rw [Addr.add_lit, Nat.zero_add, h.cellAt j (by omega)]
    exact hu
theorem strow_own {w : World} {B : Nat} {F : Nat → Prop} {v : Value} {t : List St} (h : w.ownsRow B 25 3 v t.length (stsL t)) (hF : ∀ g, v.ownBlock = some g → F g) : StRow w F v t := by
  have hT := fun g (hg : v.ownBlock = some g) => own_hasT h hg
  have hl := h.1
  rcases h.2 with ⟨rfl, h0⟩ | ⟨g, cap, cur, rfl, hb, hg, hnc, hcm, hcs, htk⟩
  · exact ⟨none, 0, by rw [h0], by omega, Nat.zero_le _, .inl (List.eq_nil_of_length_eq_zero h0)⟩
  · refine ⟨_, cap, rfl, hnc, hcm, .inr ⟨g, 0, rfl, hF g rfl, hT g rfl, fun j hj => ?_⟩⟩
    rw [Nat.zero_add, h.cellAt j hj]

set_option maxHeartbeats 800000 in
theorem clone_ints (xs : List Int) (v : Value) (w : World) (hs : Src w 1 v xs.length (xs.map (Value.int .i64))) (hn : xs.length ≤ 20000) :
    Calls Try.prog 32 #[v] w fun r w' => ∃ v, r = .returned v ∧ ClonedI w xs v w' := by
  obtain ⟨i0, hi0, hz0, hz1, hz2⟩ := info_parts int_info
  rcases id hs with ⟨rfl, h0, -⟩ | ⟨a, cap, rfl, -⟩
  · have HX := Lib.hid (List.eq_nil_of_length_eq_zero h0)
    have hq : ∀ w : World, (binOp .eql 31 (.slice none 0 0) (.slice none 0 0)).run Try.prog w = .ok (.bool true) w := fun _ => by kernel_rfl
    clear hs hn h0
    go_enter Try.func32, Try.ntmps32
    go_wp2
    go_ret
    refine ⟨_, rfl, ?_⟩
    rw [HX.out]
    exact ⟨Ext.refl _, owns_nil _ _ _ _⟩
  · have hq : ∀ w : World, (binOp .eql 31 (.slice (some a) xs.length cap) (.slice none 0 0)).run Try.prog w = .ok (.bool false) w := fun _ => by kernel_rfl
    have HS := Lib.hid hs
    clear hs
    go_enter Try.func32, Try.ntmps32
    go_wp2_with (first | (at_builtin; refine wpList_append_all w.heap.size _ rfl (.tmp 5) (.tmp 6) 31 rfl 3 i0 _ 1 8 Try.underlying31 hi0 hz0 hz1 hz2 rfl (by decide) _ _ _ (by rfl) (by exact owns_empty w w.heap.size 3 1 (Nat.le_refl _)) (.slice (some a) xs.length cap) xs.length (xs.map (Value.int .i64)) (by rfl) (by exact src_later HS.out ((Ext.refl _).alloc _ _) (by decide)) (ints_one xs) (by unfold maxLen; omega) (by omega) (by simp) ?_) | fail)
    intro v' w' hown hc _
    have HR := Lib.hid (ClonedI.mk (hc.ext ((Ext.refl w).alloc _ _) fun i hi => by simp [Value.ownBlock] at hi; omega) (by simpa using hown))
    clear hown hc
    go_wp2
    go_ret
    exact ⟨_, rfl, HR.out⟩

/-- what a row of steps gives to its copier. -/
theorem strow_src {w : World} {F : Nat → Prop} {a : Addr} {cap : Nat} {t : List St} (h : StRow w F (.slice (some a) t.length cap) t) : Src w 3 (.slice (some a) t.length cap) t.length (stsL t) := by
  obtain ⟨p, cap', e, h1, h2, h3⟩ := h
  cases e
  rcases h3 with rfl | ⟨g, off, e2, -, -, hc⟩
  · exact .inr ⟨a, cap, rfl, rfl, fun j u hu => by cases hu⟩
  · cases e2
    refine .inr ⟨_, cap, rfl, stsL_len t, fun j u hu => ?_⟩
    have hj := (List.getElem?_eq_some_iff.1 hu).1
    rw [stsL_len] at hj
    rw [Addr.add_lit, hc j hj]
    exact hu
theorem strow_none {w : World} {F : Nat → Prop} {cap : Nat} {t : List St} (h : StRow w F (.slice none t.length cap) t) : t = [] := by
  obtain ⟨p, cap', e, h1, h2, h3⟩ := h
  cases e
  rcases h3 with h3 | ⟨g, off, e2, -⟩
  · exact h3
  · cases e2

set_option maxHeartbeats 800000 in
theorem clone_steps (F : Nat → Prop) (t : List St) (v : Value) (w : World) (hs : StRow w F v t) (hn : t.length ≤ 20000) :
    Calls Try.prog 27 #[v] w fun r w' => ∃ v, r = .returned v ∧ ClonedS w t v w' := by
  obtain ⟨i0, hi0, hz0, hz1, hz2⟩ := info_parts step_info
  have hs0 := hs
  obtain ⟨p, cap, rfl, -⟩ := hs0
  cases p with
  | none =>
    have HX := Lib.hid (strow_none hs)
    have hq : ∀ w : World, (binOp .eql 23 (.slice none t.length cap) (.slice none 0 0)).run Try.prog w = .ok (.bool true) w := fun _ => by kernel_rfl
    clear hs hn
    go_enter Try.func27, Try.ntmps27
    go_wp2
    go_ret
    refine ⟨_, rfl, ?_⟩
    rw [HX.out]
    exact ⟨Ext.refl _, owns_nil _ _ _ _⟩
  | some a =>
    have hq : ∀ w : World, (binOp .eql 23 (.slice (some a) t.length cap) (.slice none 0 0)).run Try.prog w = .ok (.bool false) w := fun _ => by kernel_rfl
    have HS := Lib.hid (strow_src hs)
    clear hs
    go_enter Try.func27, Try.ntmps27
    go_wp2_with (first | (at_builtin; refine wpList_append_all w.heap.size _ rfl (.tmp 5) (.tmp 6) 23 rfl 25 i0 _ 3 24 Try.underlying23 hi0 hz0 hz1 hz2 rfl (by decide) _ _ _ (by rfl) (by exact owns_empty w w.heap.size 25 3 (Nat.le_refl _)) (.slice (some a) t.length cap) t.length (stsL t) (by rfl) (by exact src_later HS.out ((Ext.refl _).alloc _ _) (by decide)) (stsL_one t) (by unfold maxLen; omega) (by omega) (by simp) ?_) | fail)
    intro v' w' hown hc _
    have HR := Lib.hid (ClonedS.mk (hc.ext ((Ext.refl w).alloc _ _) fun i hi => by simp [Value.ownBlock] at hi; omega) (by simpa using hown))
    clear hown hc
    go_wp2
    go_ret
    exact ⟨_, rfl, HR.out⟩

/-! ### what is told -/
theorem said_any (b : Nat) (F : Nat → Prop) (s : Sc) (w : World) (h : SchIs w b F s) :
    Calls Try.prog 15 #[.pointer (some ⟨b, 0, none⟩)] w fun r w' => ∃ v, r = .returned v ∧ ClonedI w s.out v w' := by
  obtain ⟨⟨tv, sv, vals, bl, bc, nl, nc, h1⟩, h2⟩ := h
  have c3 : w.cell? ⟨b, 3, none⟩ = some sv := h1.blk.cell 3
  have hb := h1.blk.lt
  have hn : s.out.length ≤ 20000 := by have := h1.fits.few; have := h1.fits.pend; omega
  have HC := Lib.hid (clone_ints s.out sv w (src_own h1.said) hn)
  clear h1 h2 hn
  go_enter Try.func15, Try.ntmps15
  go_wp2_with (go_at_call 32; refine HC.out.mono ?_; rintro r w1 ⟨v, rfl, hR⟩; have HR := Lib.hid hR; clear hR)
  go_ret
  exact ⟨_, rfl, HR.out⟩

theorem cell_any (b : Nat) (F : Nat → Prop) (s : Sc) (c : Int) (hc : (Lit.int .i64 c).wf = true) (w : World) (h : SchIs w b F s) :
    Calls Try.prog 17 #[.pointer (some ⟨b, 0, none⟩), .int .i64 c] w fun r w' => r = .returned (.int .i64 ((s.cl c).getD 0)) ∧ Ext w w' := by
  obtain ⟨⟨tv, sv, vals, bl, bc, nl, nc, h1⟩, h2⟩ := h
  have c2 : w.cell? ⟨b, 2, none⟩ = some (.map (some bc)) := h1.blk.cell 2
  have hb := h1.blk.lt
  have HL := h1.cl.look hc 52 Try.underlying52
  clear h1 h2
  go_enter Try.func17, Try.ntmps17
  go_wp2
  go_ret
  exact ⟨rfl, by first | exact Ext.refl _ | exact (Ext.refl _).drew | exact (Ext.refl _).drewN' _⟩

theorem holder_any (b : Nat) (F : Nat → Prop) (s : Sc) (c : Int) (hc : (Lit.int .i64 c).wf = true) (w : World) (h : SchIs w b F s) :
    Calls Try.prog 16 #[.pointer (some ⟨b, 0, none⟩), .int .i64 c] w fun r w' => r = .returned (.tuple #[.int .i64 ((s.lk c).getD 0), .bool (s.lk c).isSome]) ∧ Ext w w' := by
  obtain ⟨⟨tv, sv, vals, bl, bc, nl, nc, h1⟩, h2⟩ := h
  have c2 : w.cell? ⟨b, 1, none⟩ = some (.map (some bl)) := h1.blk.cell 1
  have hb := h1.blk.lt
  have HL := h1.lk.look_ok hc 52 Try.underlying52
  clear h1 h2
  go_enter Try.func16, Try.ntmps16
  go_wp2
  go_ret2
  exact ⟨rfl, by first | exact Ext.refl _ | exact (Ext.refl _).drew | exact (Ext.refl _).drewN' _⟩

def leftI (s : Sc) (i : Int) : Int × Int := if i < 0 ∨ (s.ts.length : Int) ≤ i then (0, 1) else ((s.ts.getD i.toNat []).length, 0)
theorem leftOf_any (b : Nat) (F : Nat → Prop) (s : Sc) (i : Int) (hi : (Lit.int .i64 i).wf = true) (w : World) (h : SchIs w b F s) :
    Calls Try.prog 18 #[.pointer (some ⟨b, 0, none⟩), .int .i64 i] w fun r w' => r = .returned (.tuple #[.int .i64 (leftI s i).1, .int .i64 (leftI s i).2]) ∧ Ext w w' := by
  obtain ⟨⟨tv, sv, vals, bl, bc, nl, nc, h1⟩, h2⟩ := h
  have c0 : w.cell? ⟨b, 0, none⟩ = some tv := h1.blk.cell 0
  have hb := h1.blk.lt
  have hw := h1.fits.wide
  obtain ⟨pt, capt, rfl, hopen⟩ := h1.open_
  have hll : ∀ k, (s.ts.getD k []).length ≤ 20000 := fun k => by have := total_le s.ts k; have := h1.fits.few; have := h1.fits.pend; omega
  by_cases hin : i < 0
  · have HE := Lib.hid (show leftI s i = (0, 1) from if_pos (.inl hin))
    clear h1 h2 hopen hll
    go_enter Try.func18, Try.ntmps18
    go_wp2
    go_ret2
    rw [HE.out]
    exact ⟨rfl, Ext.refl _⟩
  · by_cases hin2 : (s.ts.length : Int) ≤ i
    · have HE := Lib.hid (show leftI s i = (0, 1) from if_pos (.inr hin2))
      clear h1 h2 hopen hll
      go_enter Try.func18, Try.ntmps18
      go_wp2
      go_ret2
      rw [HE.out]
      exact ⟨rfl, Ext.refl _⟩
    · have HE := Lib.hid (show leftI s i = (((s.ts.getD i.toNat []).length : Int), 0) from if_neg (by omega))
      obtain ⟨k, rfl⟩ : ∃ k : Nat, i = k := ⟨i.toNat, by omega⟩
      obtain ⟨gt, p, cap, rfl, hbg, hgt, hct, -⟩ := hopen k (by omega)
      have hl := hll k
      clear h1 h2 hopen hll
      go_enter Try.func18, Try.ntmps18
      go_wp2
      go_ret2
      rw [HE.out]
      exact ⟨rfl, Ext.refl _⟩

end Go.Proofs.Ytfgfbmmidijgoaa
