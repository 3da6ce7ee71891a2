/- The reference's row out of eight words. -/
import Derived.Test.YtmiogoecjoldoaaRefBD
import Derived.Deep.WholeRow
namespace Go.Proofs.Ytmiogoecjoldoaa
open Go.RowKit
set_option linter.unusedVariables false

def zeroT (n : Nat) : Array Value := ⟨List.replicate n (.bool false)⟩
/-- the first i of n truths. -/
def partN (n : Nat) (f : Nat → Bool) (i : Nat) : Array Value := ⟨(List.range n).map fun j => .bool (decide (j < i) && f j)⟩
theorem partN_size (n : Nat) (f : Nat → Bool) (i : Nat) : (partN n f i).size = n := by unfold partN; simp
theorem partN_get (n : Nat) (f : Nat → Bool) (i j : Nat) (h : j < n) : (partN n f i)[j]? = some (.bool (decide (j < i) && f j)) := by
  unfold partN; simp [h]
theorem partN_zero (n : Nat) (f : Nat → Bool) : zeroT n = partN n f 0 := by
  unfold zeroT partN
  congr 1
  apply List.ext_getElem?
  intro j
  by_cases h : j < n <;> simp [h, List.getElem?_replicate]
theorem partN_set (n : Nat) (f : Nat → Bool) (i : Nat) (h : i < n) : (partN n f i).setIfInBounds i (.bool (f i)) = partN n f (i + 1) := by
  apply Array.ext_getElem?
  intro j
  rw [Array.getElem?_setIfInBounds]
  by_cases e : i = j
  · subst e
    rw [if_pos rfl, if_pos (by rw [partN_size]; exact h), partN_get _ _ _ _ h, decide_eq_true (by omega), Bool.true_and]
  · rw [if_neg e]
    by_cases hj : j < n
    · rw [partN_get _ _ _ _ hj, partN_get _ _ _ _ hj]
      congr 3
      rw [decide_eq_decide]; omega
    · rw [Array.getElem?_eq_none (by rw [partN_size]; omega), Array.getElem?_eq_none (by rw [partN_size]; omega)]
theorem partN_full (n : Nat) (f : Nat → Bool) (j : Nat) (h : j < n) : (partN n f n)[j]? = some (.bool (f j)) := by
  rw [partN_get n f n j h, decide_eq_true h, Bool.true_and]
theorem partN_one (n : Nat) (f : Nat → Bool) : (partN n f n).all (·.oneCell') = true := by
  rw [Array.all_eq_true]
  intro i hi
  have h2 := partN_full n f i (by rw [partN_size] at hi; exact hi)
  rw [Array.getElem?_eq_getElem hi] at h2
  injection h2 with h2
  rw [h2]; rfl
def partT (f : Nat → Bool) (i : Nat) : Array Value := partN 512 f i
theorem partT_get (f : Nat → Bool) (i j : Nat) (h : j < 512) : (partT f i)[j]? = some (.bool (decide (j < i) && f j)) := partN_get 512 f i j h
theorem partT_zero (f : Nat → Bool) : zeroT 512 = partT f 0 := partN_zero 512 f
theorem partT_set (f : Nat → Bool) (i : Nat) (h : i < 512) : (partT f i).setIfInBounds i (.bool (f i)) = partT f (i + 1) := partN_set 512 f i h
/-- 512 truths as a value. -/
def arrT (f : Nat → Bool) : Array Value := partN 512 f 512
theorem arrT_size (f : Nat → Bool) : (arrT f).size = 512 := partN_size 512 f 512
theorem arrT_get (f : Nat → Bool) (j : Nat) (h : j < 512) : (arrT f)[j]? = some (.bool (f j)) := partN_full 512 f j h
theorem arrT_one (f : Nat → Bool) : (arrT f).all (·.oneCell') = true := partN_one 512 f
theorem zeroT_run (w : World) : (zeroValue 26).run Try.prog w = .ok (.agg (zeroT 512)) w := by kernel_rfl
theorem zeroT_sz (n : Nat) : (zeroT n).size = n := by unfold zeroT; simp
theorem zeroT_size : (zeroT 512).size = 512 := zeroT_sz 512
theorem row_cells : (Try.prog.info? 26).map (·.size) = some 512 := by kernel_rfl
theorem true_of_blk {w : World} {b : Nat} {t : TypeId} {f : Nat → Bool} (h : Blk w b t (arrT f)) : TrueAt w b 0 f :=
  ⟨h.lt, fun j hj => by rw [Nat.zero_add, h.cell j, arrT_get f j hj], h.frozen⟩

theorem load_row {w : World} {b : Nat} {t : TypeId} {c : Array Value} (h : Blk w b t c) (hs : c.size = 512) : (Instr.loadAt 26 (.pointer (some ⟨b, 0, none⟩))).run Try.prog w = .ok (.agg c) w := by
  have hi : (Try.prog.info? 26).map (·.size) = some c.size := by rw [row_cells, hs]
  simp only [Instr.loadAt, Instr.sureAddr, Sem.run_bind, Sem.run_pure, Result.andThen_ok]
  exact run_loadVar_row w b t _ _ _ _ h Try.underlying26 rfl hi
theorem store_row {w : World} {b : Nat} {c c' : Array Value} (h : Blk w b 26 c) (hs : c.size = 512) (hs' : c'.size = 512) (h1 : c'.all (·.oneCell') = true) : (Instr.storeAt 26 (.pointer (some ⟨b, 0, none⟩)) (.agg c')).run Try.prog w = .ok () (w.setRow b c') := by
  have hi : (Try.prog.info? 26).map (·.size) = some c'.size := by rw [row_cells, hs']
  simp only [Instr.storeAt, Instr.sureAddr, Sem.run_bind, Sem.run_pure, Result.andThen_ok]
  exact run_storeVar_row w b _ _ c c' h hi (by rw [hs, hs']) h1
theorem store_row_new (w : World) {c c' : Array Value} (hs : c.size = 512) (hs' : c'.size = 512) (h1 : c'.all (·.oneCell') = true) : (Instr.storeAt 26 (.pointer (some ⟨w.heap.size, 0, none⟩)) (.agg c')).run Try.prog (w.alloc (.cells c 26)) = .ok () (w.alloc (.cells c' 26)) :=
  run_storeAt_new w _ _ _ (by rw [row_cells, hs']) (by rw [hs, hs']) h1
theorem load_true {w : World} {b : Nat} {t : TypeId} {f : Nat → Bool} (h : Blk w b t (arrT f)) : (Instr.loadAt 26 (.pointer (some ⟨b, 0, none⟩))).run Try.prog w = .ok (.agg (arrT f)) w := load_row h (arrT_size f)
theorem store_true {w : World} {b : Nat} {c : Array Value} {f : Nat → Bool} (h : Blk w b 26 c) (hs : c.size = 512) : (Instr.storeAt 26 (.pointer (some ⟨b, 0, none⟩)) (.agg (arrT f))).run Try.prog w = .ok () (w.setRow b (arrT f)) := store_row h hs (arrT_size f) (arrT_one f)
theorem store_new (w : World) (f : Nat → Bool) : (Instr.storeAt 26 (.pointer (some ⟨w.heap.size, 0, none⟩)) (.agg (arrT f))).run Try.prog (w.alloc (.cells (zeroT 512) 26)) = .ok () (w.alloc (.cells (arrT f) 26)) :=
  store_row_new w zeroT_size (arrT_size f) (arrT_one f)

theorem Blk.setRow {w : World} {g : Nat} {t : TypeId} {cs : Array Value} (h : Blk w g t cs) (c : Array Value) : Blk (w.setRow g c) g t c := setRow_heap w g cs c t _ h
theorem frozen_setRow (w : World) (g : Nat) (c : Array Value) (a : Addr) : (w.setRow g c).frozen? a = w.frozen? a := by
  by_cases e : g = a.block
  · subst e
    unfold World.frozen? World.setRow
    simp only [Array.getElem?_modify]
    cases hq : w.heap[a.block]? with
    | none => simp
    | some o => cases o <;> simp
  · simp [World.frozen?, setRow_other w g a.block c (fun h => e h.symm)]
theorem Ext.setRow {W w : World} (h : Ext W w) {g : Nat} (hg : W.heap.size ≤ g) (c : Array Value) : Ext W (w.setRow g c) :=
  ⟨⟨h.below.os, h.below.tape, h.below.output, by rw [size_setRow]; exact h.below.size, fun i hi => (setRow_other w g i c (by omega)).trans (h.below.block i hi)⟩, fun a => (frozen_setRow w g c a).trans (h.frozen a)⟩

structure OfRel (w wr : World) (g : Nat) (f : Nat → Bool) (i : Nat) : Prop where
  box : Blk wr g 23 (arr f)
  res : Blk wr (g + 1) 26 (zeroT 512)
  row : Blk wr (g + 2) 26 (partT f i)
  ext : Ext w wr
theorem OfRel.step {w wr : World} {g i : Nat} {f : Nat → Bool} (h : OfRel w wr g f i) (hi : i < 512) (hg : w.heap.size ≤ g) : OfRel w (wr.setCell ⟨g + 2, i, none⟩ (.bool (f i))) g f (i + 1) :=
  ⟨h.box.far (p := ⟨g + 2, i, none⟩) (by simp) _, h.res.far (p := ⟨g + 2, i, none⟩) (by simp) _, by rw [← partT_set f i hi]; exact h.row.set_ i _, h.ext.setCell (p := ⟨g + 2, i, none⟩) (by show _ ≤ g + 2; omega) _⟩
theorem OfRel.new (w : World) (f : Nat → Bool) : OfRel w (((w.alloc (.cells (arr f) 23)).alloc (.cells (zeroT 512) 26)).alloc (.cells (zeroT 512) 26)) w.heap.size f 0 := by
  have h2 := Blk.new (w.alloc (.cells (arr f) 23)) 26 (zeroT 512)
  have h3 := Blk.new ((w.alloc (.cells (arr f) 23)).alloc (.cells (zeroT 512) 26)) 26 (zeroT 512)
  simp only [World.size_alloc] at h2 h3
  exact ⟨((Blk.new w _ _).alloc _).alloc _, h2.alloc _, by rw [← partT_zero]; exact h3, (((Ext.refl _).alloc _ _).alloc _ _).alloc _ _⟩

theorem arr_get (f : Nat → Bool) (k : Nat) (hk : k < 8) : (arr f)[k]? = some (.int .u64 (word f k : Nat)) := by
  obtain rfl | rfl | rfl | rfl | rfl | rfl | rfl | rfl : k = 0 ∨ k = 1 ∨ k = 2 ∨ k = 3 ∨ k = 4 ∨ k = 5 ∨ k = 6 ∨ k = 7 := by omega
  all_goals rfl

theorem half_step (f : Nat → Bool) (k d : Nat) : word f k / 2 ^ (d + 1) = word f k / 2 ^ d / 2 := by rw [Nat.pow_succ, ← Nat.div_div_eq_div_mul]
theorem half_bit (f : Nat → Bool) (i : Nat) : ((((word f (i / 64) / 2 ^ (i % 64) : Nat) : Int) % 2) == 1) = f i := by
  have hb := word_bit f (i / 64) (i % 64) (by omega)
  rw [show 64 * (i / 64) + i % 64 = i by omega, Nat.testBit_eq_decide_div_mod_eq] at hb
  rw [← hb]
  generalize word f (i / 64) / 2 ^ (i % 64) = y
  by_cases h : y % 2 = 1
  · rw [decide_eq_true h]; simp; omega
  · rw [decide_eq_false h]; simp; omega

set_option maxRecDepth 100000 in
set_option maxHeartbeats 2000000 in
theorem rof_any (f : Nat → Bool) (w : World) : Calls Try.prog 10 #[.agg (arr f)] w fun r w' => r = .returned (.agg (arrT f)) ∧ Ext w w' := by
  have hz := zeroT_run
  have HN := Lib.hid (OfRel.new w f)
  have hbg : w.heap.size ≤ w.heap.size := Nat.le_refl _
  have hA : ∃ A, arr f = A := ⟨_, rfl⟩
  unfold arr at HN ⊢
  go_enter Try.func10, Try.ntmps10
  go_wp2
  go_loopw [4, 5, 6] (fun vi vx vk wr => ∃ i : Nat, vi = .int .i64 i ∧ i ≤ 512 ∧ Hid (OfRel w wr w.heap.size f i)) (fun vi _ _ _ => 512 - (intOf vi).toNat)
  case atStart => exact ⟨0, rfl, by omega, HN⟩
  case round =>
    obtain ⟨i, rfl, hi, hR⟩ := hrel
    clear HN
    by_cases hlt : i < 512
    · have hc := (hR.out.box.cell (i / 64)).trans (arr_get f (i / 64) (by omega))
      have hi8 : (i : Int) / 64 < 8 := by omega
      have hi5 : (i : Int) < 512 := by omega
      have HH := Lib.hid (half_step f (i / 64))
      have HB := Lib.hid (half_bit f i)
      have hx := word_lt f (i / 64)
      have HS := Lib.hid (hR.out.step hlt (Nat.le_refl _))
      have hd := hR.out.row.cell i
      rw [partT_get f i i hlt] at hd
      have hf := hR.out.row.frozen i
      clear hR
      have HX0 := Lib.hid (show word f (i / 64) / 2 ^ 0 = word f (i / 64) by rw [Nat.pow_zero, Nat.div_one])
      generalize word f (i / 64) = x at *
      obtain ⟨wo, rfl⟩ : ∃ wo : World, wo = wr := ⟨_, rfl⟩
      go_wp2
      go_loop [5, 6] (fun vx vk => ∃ d y : Nat, vk = .int .i64 d ∧ vx = .int .u64 y ∧ d ≤ i % 64 ∧ y < 18446744073709551616 ∧ Hid (x / 2 ^ d = y)) (fun _ vk => i % 64 - (intOf vk).toNat)
      case atStart => exact ⟨0, x, rfl, rfl, by omega, by omega, HX0⟩
      case round =>
        obtain ⟨d, y, rfl, rfl, hd2, hy, hE⟩ := hrel
        by_cases hlt2 : d < i % 64
        · have hlt3 : (d : Int) < (i : Int) % 64 := by omega
          have HE := Lib.hid (show x / 2 ^ (d + 1) = y / 2 by rw [HH.out, hE.out])
          clear hE HB
          go_wp2
          go_round
          case rel => exact ⟨d + 1, y / 2, by go_num, by go_num, by omega, by omega, HE⟩
          case measure => simp [intOf]; omega
        · have hge : (i : Int) % 64 ≤ (d : Int) := by omega
          have hed : d = i % 64 := by omega
          have hb : ((y : Int) % 2 == 1) = f i := by rw [← HB.out, ← hed, hE.out]
          clear hE HB hed hlt2
          generalize f i = fi at *
          go_wp2
          go_roundw
          case rel => exact ⟨i + 1, by go_num, by omega, HS⟩
          case measure => simp [intOf]; omega
    · have hge : (512 : Int) ≤ i := by omega
      have hi2 : i = 512 := by omega
      rw [hi2] at hR
      have hrow : wr.heap[w.heap.size + 2]? = some (.cells (arrT f) 26 (0, 0)) := hR.out.row
      have hres : wr.heap[w.heap.size + 1]? = some (.cells (zeroT 512) 26 (0, 0)) := hR.out.res
      have hi1 : (Try.prog.info? 26).map (·.size) = some (arrT f).size := by rw [row_cells, arrT_size]
      have hi2 : (zeroT 512).size = (arrT f).size := by rw [zeroT_size, arrT_size]
      have hi3 := arrT_one f
      have HX := Lib.hid (hR.out.ext.setRow (g := w.heap.size + 1) (by omega) (arrT f))
      have HB := Lib.hid (hR.out.res.setRow (arrT f))
      have HROW := Lib.hid hrow
      have HRES := Lib.hid hres
      have HI1 := Lib.hid hi1
      have HI2 := Lib.hid hi2
      have HI3 := Lib.hid hi3
      clear hR hz hrow hres hi1 hi2 hi3
      go_wp2_with (first
        | (refine wpList_load_row rfl 26 _ rfl (w.heap.size + 2) rfl _ _ _ _ HROW.out Try.underlying26 rfl HI1.out ?_)
        | (refine wpList_store_row rfl 26 _ _ rfl (w.heap.size + 1) (arrT f) rfl rfl _ _ HRES.out HI1.out HI2.out HI3.out ?_))
      refine bodyPost_ret (v := .agg (arrT f)) ?c1 ?c2 ?c3
      case c2 => rfl
      case c3 => exact ⟨rfl, HX.out⟩
      case c1 => exact results_cell_row Try.results10 _ _ (w.heap.size + 1) _ _ _ _ rfl HB.out Try.underlying26 rfl HI1.out

end Go.Proofs.Ytmiogoecjoldoaa
