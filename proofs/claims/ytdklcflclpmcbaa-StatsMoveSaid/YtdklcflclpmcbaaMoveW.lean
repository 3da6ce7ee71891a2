/- The walk of the law StatsMove. -/
import Derived.Test.YtdklcflclpmcbaaMoveLaw
import Derived.Deep.RegionWith
namespace Go.Proofs.Ytdklcflclpmcbaa
open Go.RowKit
set_option linter.unusedVariables false

theorem int_of {a : Int} (h : (Lit.int .i64 a).wf = true) : -9223372036854775808 ≤ a ∧ a ≤ 9223372036854775807 := by
  simp [Lit.wf, IntKind.min, IntKind.max, IntKind.signed, IntKind.bits] at h; omega

/-- a summary of four counts in a block of its own. -/
theorem four_new (w : World) (x0 x1 x2 x3 : Int) : Four (w.alloc (.cells #[.int .u64 x0, .int .u64 x1, .int .u64 x2, .int .u64 x3] 31)) w.heap.size 0 x0 x1 x2 x3 := ⟨by simp, by simp, by simp, by simp⟩
theorem Four.ext {w w' : World} {b o : Nat} {x0 x1 x2 x3 : Int} (h : Four w b o x0 x1 x2 x3) (hb : b < w.heap.size) (hx : Ext w w') : Four w' b o x0 x1 x2 x3 :=
  ⟨(hx.cell _ _ hb).trans h.c0, (hx.cell _ _ hb).trans h.c1, (hx.cell _ _ hb).trans h.c2, (hx.cell _ _ hb).trans h.c3⟩
theorem all_lit (B B' n : Nat) (L C : List Int) (w : World) (h : Tab w B B' n L C) :
    Calls Try.prog 16 #[.pointer (some ⟨B, 0, none⟩)] w fun r w' => r = .returned (.agg #[.int .u64 (sumTo L 0 n), .int .u64 (sumTo L 1 n), .int .u64 (sumTo L 2 n), .int .u64 (sumTo L 3 n)]) ∧ Ext w w' := all_any B B' n L C w h

/-- the table and all that came of it, in the loop. -/
structure MRel (w wr : World) (n : Nat) (L C : List Int) : Prop where
  tab : Tab wr (w.heap.size + 1) w.heap.size n L C
  ext : Ext w wr

theorem keeps_ext {w wr w2 : World} (hx : Ext w wr) (hk : Keeps (w.heap.size + 1) w.heap.size wr w2) : Ext w w2 := hk w hx (Nat.le_succ _) (Nat.le_refl _)

theorem emod_nat (k n : Nat) : ((k : Int) % (n : Int)) = ((k % n : Nat) : Int) := by omega

/-- the table, and a summary in a block of its own. -/
structure MGot (w wr : World) (n : Nat) (L C : List Int) (b : Nat) (s0 s1 s2 s3 : Int) : Prop where
  rel : MRel w wr n L C
  four : Four wr b 0 s0 s1 s2 s3
  lt : b < wr.heap.size

theorem MRel.later {w wr w' : World} {n : Nat} {L C : List Int} (h : MRel w wr n L C) (hx : Ext wr w') : MRel w w' n L C := ⟨h.tab.later hx, h.ext.trans hx⟩
theorem MGot.later {w wr w' : World} {n : Nat} {L C : List Int} {b : Nat} {s0 s1 s2 s3 : Int} (h : MGot w wr n L C b s0 s1 s2 s3) (hx : Ext wr w') : MGot w w' n L C b s0 s1 s2 s3 :=
  ⟨h.rel.later hx, h.four.ext h.lt hx, Nat.lt_of_lt_of_le h.lt hx.size⟩
theorem MRel.got {w wr : World} {n : Nat} {L C : List Int} (h : MRel w wr n L C) (s0 s1 s2 s3 : Int) : MGot w (wr.alloc (.cells #[.int .u64 s0, .int .u64 s1, .int .u64 s2, .int .u64 s3] 31)) n L C wr.heap.size s0 s1 s2 s3 :=
  ⟨h.later ((Ext.refl _).alloc _ _), four_new _ _ _ _ _, by simp⟩

theorem MGot.moved {w wr w' : World} {n : Nat} {L L' C : List Int} {b : Nat} {s0 s1 s2 s3 : Int} (h : MGot w wr n L C b s0 s1 s2 s3) (ht : Tab w' (w.heap.size + 1) w.heap.size n L' C) (hk : Keeps (w.heap.size + 1) w.heap.size wr w') (ho : Others w.heap.size wr w') (hne : b ≠ w.heap.size) : MGot w w' n L' C b s0 s1 s2 s3 :=
  ⟨⟨ht, keeps_ext h.rel.ext hk⟩, ⟨(ho.2 _ _ h.lt hne).trans h.four.c0, (ho.2 _ _ h.lt hne).trans h.four.c1, (ho.2 _ _ h.lt hne).trans h.four.c2, (ho.2 _ _ h.lt hne).trans h.four.c3⟩, Nat.lt_of_lt_of_le h.lt ho.1⟩

theorem p_any (B B' n : Nat) (i : Int) (L C : List Int) (w : World) (h : Tab w B B' n L C) :
    Calls Try.prog 14 #[.pointer (some ⟨B, 0, none⟩), .int .i64 i] w fun r w' => ∃ y0 y1 y2 y3 e : Int, r = .returned (.tuple #[.agg #[.int .u64 y0, .int .u64 y1, .int .u64 y2, .int .u64 y3], .int .i64 e]) ∧ Ext w w' := by
  by_cases hb : i < 0 ∨ (n : Int) ≤ i
  · exact (p_no B B' n i L C w h hb).mono fun _ _ ⟨a, b⟩ => ⟨_, _, _, _, _, a, b⟩
  · have := p_yes B B' n i.toNat L C w h (by omega)
    rw [show ((i.toNat : Nat) : Int) = i by omega] at this
    exact this.mono fun _ _ ⟨a, b⟩ => ⟨_, _, _, _, _, a, b⟩

set_option maxRecDepth 100000 in
set_option maxHeartbeats 4000000 in
theorem move_row (n : Nat) (p : Option Addr) (cap : Nat) (zs : List Int) (i j : Int) (w : World) (n1 : 1 ≤ n) (n2 : n ≤ 64) (hl : zs.length ≤ 200) (HC : Hid (zs = [] ∨ ∃ b off : Nat, p = some ⟨b, off, none⟩ ∧ b < w.heap.size ∧ ∀ i (hi : i < zs.length), w.cell? ⟨b, off + i, none⟩ = some (.int .u64 zs[i]))) :
    Calls Try.prog 6 #[.int .i64 n, .slice p zs.length cap, .int .i64 i, .int .i64 j] w fun r w' => r = .returned (.bool true) ∧ Ext w w' := by
  have k1 : decide (200 < (zs.length : Int)) = false := by simp; omega
  have k2 : decide ((n : Int) < 1) = false := by simp; omega
  have k3 : decide (64 < (n : Int)) = false := by simp; omega
  go_enter Try.func6, Try.ntmps6
  go_wp2_with fail
  refine (new_some n _ n1 n2).mono ?_
  rintro e w1 ⟨rfl, ht1, hx1⟩
  have HM := Lib.hid (MRel.mk ht1 hx1)
  clear ht1 hx1
  go_wp2_with fail
  go_loopw [11] (fun i wr => ∃ (k : Nat) (L C : List Int), k ≤ zs.length ∧ i = .int .i64 k ∧ Hid (MRel w wr n L C)) (fun i _ => zs.length - (intOf i).toNat)
  case atStart => exact ⟨0, _, _, Nat.zero_le _, rfl, HM⟩
  case round =>
    obtain ⟨k, L, C, hk, rfl, hR⟩ := hrel
    by_cases hlt : k < zs.length
    · obtain ⟨b, off, rfl, hb, hC⟩ : ∃ b off : Nat, p = some ⟨b, off, none⟩ ∧ b < w.heap.size ∧ ∀ i (hi : i < zs.length), w.cell? ⟨b, off + i, none⟩ = some (.int .u64 zs[i]) := by
        rcases HC.out with h0 | h0
        · rw [h0] at hlt; simp at hlt
        · exact h0
      have hc : wr.cell? ⟨b, off + k, none⟩ = some (.int .u64 zs[k]) := (hR.out.ext.cell _ _ hb).trans (hC k hlt)
      clear hC
      have hkn : k % n < n := Nat.mod_lt _ (by omega)
      have hk68 : k % 68 < 68 := Nat.mod_lt _ (by omega)
      generalize zs[k] = z at *
      have q0 : (0 : Int) ≤ (k : Int) % (n : Int) := Int.emod_nonneg _ (by omega)
      have q1 : (n == 0) = false := by simp; omega
      by_cases h3 : k % 3 = 2
      · have t3 : ((k : Int) % 3 == 2) = true := by simp; omega
        clear h3
        go_wp2_with fail
        refine wp_region_head 10 (by kernel_rfl) (by kernel_rfl) ?_
        simp only [List.take_succ_cons, List.take_zero, List.drop_succ_cons, List.drop_zero]
        repeat (go_big_quiet_step (fail))
        refine wpQuiet_nil ?_
        go_wp2_with fail
        rw [emod_nat k n, show ((k : Int) % 68) = ((k % 68 : Nat) : Int) from by omega]
        refine (free_yes _ _ n (k % n) (k % 68) z L C _ hR.out.tab.drew hkn hk68).mono ?_
        rintro e w2 ⟨rfl, ht, hkp⟩
        have HN := Lib.hid (MRel.mk ht (keeps_ext hR.out.ext.drew hkp))
        clear ht hkp
        go_wp2
        go_roundw
        case rel => exact ⟨k + 1, _, _, hlt, by go_num, HN⟩
        case measure => simp [intOf]; omega
      · have t3 : ((k : Int) % 3 == 2) = false := by simp; omega
        clear h3
        go_wp2_with fail
        refine wp_region_head 10 (by kernel_rfl) (by kernel_rfl) ?_
        simp only [List.take_succ_cons, List.take_zero, List.drop_succ_cons, List.drop_zero]
        repeat (go_big_quiet_step (fail))
        refine wpQuiet_nil ?_
        go_wp2_with fail
        rw [emod_nat k n, show ((k : Int) % 68) = ((k % 68 : Nat) : Int) from by omega]
        refine (malloc_yes _ _ n (k % n) (k % 68) z L C _ hR.out.tab.drew hkn hk68).mono ?_
        rintro e w2 ⟨rfl, ht, hkp⟩
        have HN := Lib.hid (MRel.mk ht (keeps_ext hR.out.ext.drew hkp))
        clear ht hkp
        go_wp2
        go_roundw
        case rel => exact ⟨k + 1, _, _, hlt, by go_num, HN⟩
        case measure => simp [intOf]; omega
    · obtain rfl : k = zs.length := by omega
      clear HC hlt hk
      clear HM
      have HA := Lib.hid (fun (w1 : World) (h : MRel w w1 n L C) => all_lit _ _ n L C w1 h.tab)
      go_wp2_with fail
      refine (HA.out _ hR.out).mono ?_
      rintro r w2 ⟨rfl, hx⟩
      have HM2 := Lib.hid (hR.out.later hx)
      clear hx hR
      by_cases hbad : (i < 0 ∨ (n : Int) ≤ i) ∨ (j < 0 ∨ (n : Int) ≤ j)
      · generalize sumTo L 0 n = s0 at *
        generalize sumTo L 1 n = s1 at *
        generalize sumTo L 2 n = s2 at *
        generalize sumTo L 3 n = s3 at *
        have HG := Lib.hid (HM2.out.got s0 s1 s2 s3)
        by_cases hi : i < 0 ∨ (n : Int) ≤ i
        · have HB := Lib.hid hi
          have HBB := Lib.hid hbad
          clear hi hbad
          go_wp2_with fail
          refine (p_no _ _ n i L C _ HG.out.rel.tab HB.out).mono ?_
          rintro r w3 ⟨rfl, hx⟩
          have HG3 := Lib.hid (HG.out.later hx)
          clear hx
          go_wp2_with fail
          refine (p_any _ _ n j L C _ (HG3.out.later ((Ext.refl _).alloc _ _)).rel.tab).mono ?_
          rintro r w4 ⟨y0, y1, y2, y3, e, rfl, hx⟩
          have HG4 := Lib.hid (HG3.out.later (((Ext.refl _).alloc _ _).trans hx))
          clear hx
          go_wp2_with fail
          refine (move_no _ _ n i j L C _ (HG4.out.later ((Ext.refl _).alloc _ _)).rel.tab HBB.out).mono ?_
          rintro r w5 ⟨rfl, rfl⟩
          go_wp2_with fail
          have HG5 := Lib.hid (HG4.out.later ((Ext.refl _).alloc #[.int .u64 y0, .int .u64 y1, .int .u64 y2, .int .u64 y3] 31))
          generalize w4.alloc (.cells #[.int .u64 y0, .int .u64 y1, .int .u64 y2, .int .u64 y3] 31) = W3 at *
          have l0 := later_cell HG5.out.four.c0 HG5.out.lt
          have l1 := later_cell HG5.out.four.c1 HG5.out.lt
          have l2 := later_cell HG5.out.four.c2 HG5.out.lt
          have l3 := later_cell HG5.out.four.c3 HG5.out.lt
          simp only [Nat.zero_add] at l1 l2 l3
          refine wp_region_later W3 (by kernel_rfl) (by kernel_rfl) (Ext.refl _) ?_
          repeat (go_big_quiet_step (first | (go_at_call 16; exact later_call (HA.out _ (HG5.out.later (Later.ext _)).rel)) | (go_at_call 8; exact later_call (awake_any _))))
          refine wpQuiet_nil ?_
          rintro ⟨w6, hg6⟩
          dsimp only
          go_wp2
          go_ret
          exact ⟨rfl, HG5.out.rel.ext.trans hg6⟩
        · have HB := Lib.hid (show j < 0 ∨ (n : Int) ≤ j by omega)
          have HBB := Lib.hid hbad
          obtain ⟨k, rfl⟩ : ∃ k : Nat, i = k := ⟨i.toNat, by omega⟩
          have hk : k < n := by omega
          clear hi hbad
          go_wp2_with fail
          refine (p_yes _ _ n k L C _ HG.out.rel.tab hk).mono ?_
          generalize L.getD (k * 4) 0 = a0 at *
          generalize L.getD (k * 4 + 1) 0 = a1 at *
          generalize L.getD (k * 4 + 2) 0 = a2 at *
          generalize L.getD (k * 4 + 3) 0 = a3 at *
          rintro r w3 ⟨rfl, hx⟩
          have HG3 := Lib.hid (HG.out.later hx)
          clear hx
          go_wp2_with fail
          refine (p_no _ _ n j L C _ (HG3.out.later ((Ext.refl _).alloc _ _)).rel.tab HB.out).mono ?_
          rintro r w4 ⟨rfl, hx⟩
          have HG4 := Lib.hid (HG3.out.later (((Ext.refl _).alloc _ _).trans hx))
          clear hx
          go_wp2_with fail
          refine (move_no _ _ n k j L C _ (HG4.out.later ((Ext.refl _).alloc _ _)).rel.tab HBB.out).mono ?_
          rintro r w5 ⟨rfl, rfl⟩
          go_wp2_with fail
          have HG5 := Lib.hid (HG4.out.later ((Ext.refl _).alloc #[.int .u64 0, .int .u64 0, .int .u64 0, .int .u64 0] 31))
          generalize w4.alloc (.cells #[.int .u64 0, .int .u64 0, .int .u64 0, .int .u64 0] 31) = W3 at *
          have l0 := later_cell HG5.out.four.c0 HG5.out.lt
          have l1 := later_cell HG5.out.four.c1 HG5.out.lt
          have l2 := later_cell HG5.out.four.c2 HG5.out.lt
          have l3 := later_cell HG5.out.four.c3 HG5.out.lt
          simp only [Nat.zero_add] at l1 l2 l3
          refine wp_region_later W3 (by kernel_rfl) (by kernel_rfl) (Ext.refl _) ?_
          repeat (go_big_quiet_step (first | (go_at_call 16; exact later_call (HA.out _ (HG5.out.later (Later.ext _)).rel)) | (go_at_call 8; exact later_call (awake_any _))))
          refine wpQuiet_nil ?_
          rintro ⟨w6, hg6⟩
          dsimp only
          go_wp2
          go_ret
          exact ⟨rfl, HG5.out.rel.ext.trans hg6⟩
      · obtain ⟨k, rfl⟩ : ∃ k : Nat, i = k := ⟨i.toNat, by omega⟩
        obtain ⟨m, rfl⟩ : ∃ m : Nat, j = m := ⟨j.toNat, by omega⟩
        have hk : k < n := by omega
        have hm : m < n := by omega
        clear hbad
        by_cases hkm : k = m
        · subst hkm
          have HP := Lib.hid (fun (w1 : World) (h : MRel w w1 n L C) => p_yes _ _ n k L C w1 h.tab hk)
          generalize L.getD (k * 4) 0 = a0 at *
          generalize L.getD (k * 4 + 1) 0 = a1 at *
          generalize L.getD (k * 4 + 2) 0 = a2 at *
          generalize L.getD (k * 4 + 3) 0 = a3 at *
          generalize sumTo L 0 n = s0 at *
          generalize sumTo L 1 n = s1 at *
          generalize sumTo L 2 n = s2 at *
          generalize sumTo L 3 n = s3 at *
          have HG := Lib.hid (HM2.out.got s0 s1 s2 s3)
          go_wp2_with fail
          refine (HP.out _ HG.out.rel).mono ?_
          rintro r w3 ⟨rfl, hx⟩
          have HG3 := Lib.hid (HG.out.later hx)
          clear hx
          have HA3 := Lib.hid (HG3.out.rel.got a0 a1 a2 a3)
          go_wp2_with fail
          refine (HP.out _ HA3.out.rel).mono ?_
          rintro r w4 ⟨rfl, hx⟩
          have HA4 := Lib.hid (HA3.out.later hx)
          have HG4 := Lib.hid (HG3.out.later (((Ext.refl _).alloc _ _).trans hx))
          clear hx
          go_wp2_with fail
          refine (move_same _ _ n k L C _ (HG4.out.later ((Ext.refl _).alloc _ _)).rel.tab hk).mono ?_
          rintro r w5 ⟨rfl, rfl⟩
          go_wp2_with fail
          refine (HP.out _ (HG4.out.later ((Ext.refl _).alloc _ _)).rel).mono ?_
          rintro r w5 ⟨rfl, hx⟩
          have HA5 := Lib.hid (HA4.out.later (((Ext.refl _).alloc _ _).trans hx))
          have HG5 := Lib.hid (HG4.out.later (((Ext.refl _).alloc _ _).trans hx))
          clear hx
          have HC5 := Lib.hid (HG5.out.rel.got a0 a1 a2 a3)
          go_wp2_with fail
          refine (HP.out _ HC5.out.rel).mono ?_
          rintro r w6 ⟨rfl, hx⟩
          have HC6 := Lib.hid (HC5.out.later hx)
          have HA6 := Lib.hid (HA5.out.later (((Ext.refl _).alloc _ _).trans hx))
          have HG6 := Lib.hid (HG5.out.later (((Ext.refl _).alloc _ _).trans hx))
          clear hx
          go_wp2_with fail
          have HC7 := Lib.hid (HC6.out.later ((Ext.refl _).alloc #[.int .u64 a0, .int .u64 a1, .int .u64 a2, .int .u64 a3] 31))
          have HA7 := Lib.hid (HA6.out.later ((Ext.refl _).alloc #[.int .u64 a0, .int .u64 a1, .int .u64 a2, .int .u64 a3] 31))
          have HG7 := Lib.hid (HG6.out.later ((Ext.refl _).alloc #[.int .u64 a0, .int .u64 a1, .int .u64 a2, .int .u64 a3] 31))
          generalize w6.alloc (.cells #[.int .u64 a0, .int .u64 a1, .int .u64 a2, .int .u64 a3] 31) = W3 at *
          have l0 := later_cell HG7.out.four.c0 HG7.out.lt
          have l1 := later_cell HG7.out.four.c1 HG7.out.lt
          have l2 := later_cell HG7.out.four.c2 HG7.out.lt
          have l3 := later_cell HG7.out.four.c3 HG7.out.lt
          simp only [Nat.zero_add] at l1 l2 l3
          refine wp_region_later W3 (by kernel_rfl) (by kernel_rfl) (Ext.refl _) ?_
          repeat (go_big_quiet_step ((go_at_call 16; exact later_call (HA.out _ (HG7.out.later (Later.ext _)).rel))))
          refine wpQuiet_nil ?_
          rintro ⟨w7, hg7⟩
          dsimp only
          clear l0 l1 l2 l3
          have HX7 := Lib.hid (HG7.out.rel.ext.trans hg7)
          obtain ⟨c0, c1, c2, c3⟩ := (HC7.out.later hg7).four
          obtain ⟨d0, d1, d2, d3⟩ := (HA7.out.later hg7).four
          simp only [Nat.zero_add] at c1 c2 c3 d1 d2 d3
          clear hg7
          go_wp2_with (go_at_call 8; refine (awake_any _).mono ?_; rintro r w8 ⟨rfl, hx8⟩)
          go_ret
          exact ⟨rfl, HX7.out.trans hx8⟩
        · have hL := HM2.out.tab.hL
          have hlt2 : w.heap.size < w2.heap.size := HM2.out.tab.hB'
          have HP := Lib.hid (fun (w1 : World) (h : MRel w w1 n L C) => p_yes _ _ n k L C w1 h.tab hk)
          have HQ := Lib.hid (fun (w1 : World) (h : MRel w w1 n L C) => p_yes _ _ n m L C w1 h.tab hm)
          have HP2 := Lib.hid (fun (w1 : World) (h : MRel w w1 n (moveL L k m) C) => p_yes _ _ n k (moveL L k m) C w1 h.tab hk)
          have HQ2 := Lib.hid (fun (w1 : World) (h : MRel w w1 n (moveL L k m) C) => p_yes _ _ n m (moveL L k m) C w1 h.tab hm)
          have HA2 := Lib.hid (fun (w1 : World) (h : MRel w w1 n (moveL L k m) C) => all_lit _ _ n (moveL L k m) C w1 h.tab)
          rw [move_from0 L k m n hk hm hkm hL, move_from1 L k m n hk hm hkm hL, move_from2 L k m n hk hm hkm hL, move_from3 L k m n hk hm hkm hL] at HP2
          rw [move_to0 L k m n hk hm hkm hL, move_to1 L k m n hk hm hkm hL, move_to2 L k m n hk hm hkm hL, move_to3 L k m n hk hm hkm hL] at HQ2
          rw [move_sum0 L k m n hk hm hkm hL, move_sum1 L k m n hk hm hkm hL, move_sum2 L k m n hk hm hkm hL, move_sum3 L k m n hk hm hkm hL] at HA2
          have HMV := Lib.hid (fun (w1 : World) (h : MRel w w1 n L C) => move_yes _ _ n k m L C w1 h.tab hk hm hkm)
          clear hL
          generalize moveL L k m = L2 at *
          generalize L.getD (k * 4) 0 = a0 at *
          generalize L.getD (k * 4 + 1) 0 = a1 at *
          generalize L.getD (k * 4 + 2) 0 = a2 at *
          generalize L.getD (k * 4 + 3) 0 = a3 at *
          generalize L.getD (m * 4) 0 = b0 at *
          generalize L.getD (m * 4 + 1) 0 = b1 at *
          generalize L.getD (m * 4 + 2) 0 = b2 at *
          generalize L.getD (m * 4 + 3) 0 = b3 at *
          generalize sumTo L 0 n = s0 at *
          generalize sumTo L 1 n = s1 at *
          generalize sumTo L 2 n = s2 at *
          generalize sumTo L 3 n = s3 at *
          have HS := Lib.hid (fun (w1 : World) (b cap : Nat) (hb : b < w1.heap.size) (hr : Rows4 w1 b 2 [a0, a1, a2, a3, b0, b1, b2, b3]) => sum_lit b 2 cap _ w1 hb hr (by omega))
          obtain ⟨t0, t1, t2, t3⟩ := two_sum a0 a1 a2 a3 b0 b1 b2 b3
          rw [t0, t1, t2, t3] at HS
          clear t0 t1 t2 t3
          generalize plus b0 a0 = e0 at *
          generalize plus b1 a1 = e1 at *
          generalize plus b2 a2 = e2 at *
          generalize plus b3 a3 = e3 at *
          have HG := Lib.hid (HM2.out.got s0 s1 s2 s3)
          go_wp2_with fail
          refine (HP.out _ HG.out.rel).mono ?_
          rintro r w3 ⟨rfl, hx⟩
          have HG3 := Lib.hid (HG.out.later hx)
          clear hx
          have HA3 := Lib.hid (HG3.out.rel.got a0 a1 a2 a3)
          have n2 : w2.heap.size ≠ w.heap.size := by omega
          have n3 : w3.heap.size ≠ w.heap.size := by have := HG3.out.rel.tab.hB'; omega
          go_wp2_with fail
          refine (HQ.out _ HA3.out.rel).mono ?_
          rintro r w4 ⟨rfl, hx⟩
          have HA4 := Lib.hid (HA3.out.later hx)
          have HG4 := Lib.hid (HG3.out.later (((Ext.refl _).alloc _ _).trans hx))
          clear hx
          have HB4 := Lib.hid (HG4.out.rel.got b0 b1 b2 b3)
          have n4 : w4.heap.size ≠ w.heap.size := by have := HG4.out.rel.tab.hB'; omega
          go_wp2_with fail
          refine (HMV.out _ HB4.out.rel).mono ?_
          rintro r w5 ⟨rfl, ht, hkp, ho⟩
          have HA5 := Lib.hid ((HA4.out.later ((Ext.refl _).alloc _ _)).moved ht hkp ho n3)
          have HG5 := Lib.hid ((HG4.out.later ((Ext.refl _).alloc _ _)).moved ht hkp ho n2)
          have HB5 := Lib.hid (HB4.out.moved ht hkp ho n4)
          clear ht hkp ho hlt2 n2 n3 n4
          go_wp2_with fail
          refine (HP2.out _ HG5.out.rel).mono ?_
          rintro r w6 ⟨rfl, hx⟩
          have HA6 := Lib.hid (HA5.out.later hx)
          have HG6 := Lib.hid (HG5.out.later hx)
          have HB6 := Lib.hid (HB5.out.later hx)
          clear hx
          have HC6 := Lib.hid (HG6.out.rel.got 0 0 0 0)
          go_wp2_with fail
          refine (HQ2.out _ HC6.out.rel).mono ?_
          rintro r w7 ⟨rfl, hx⟩
          have HC7 := Lib.hid (HC6.out.later hx)
          have HA7 := Lib.hid (HA6.out.later (((Ext.refl _).alloc _ _).trans hx))
          have HG7 := Lib.hid (HG6.out.later (((Ext.refl _).alloc _ _).trans hx))
          have HB7 := Lib.hid (HB6.out.later (((Ext.refl _).alloc _ _).trans hx))
          clear hx
          have HD8 := Lib.hid (HG7.out.rel.got e0 e1 e2 e3)
          go_wp2_with fail
          have HC8 := Lib.hid (HC7.out.later ((Ext.refl _).alloc #[.int .u64 e0, .int .u64 e1, .int .u64 e2, .int .u64 e3] 31))
          have HA8 := Lib.hid (HA7.out.later ((Ext.refl _).alloc #[.int .u64 e0, .int .u64 e1, .int .u64 e2, .int .u64 e3] 31))
          have HB8 := Lib.hid (HB7.out.later ((Ext.refl _).alloc #[.int .u64 e0, .int .u64 e1, .int .u64 e2, .int .u64 e3] 31))
          have HG8 := Lib.hid (HG7.out.later ((Ext.refl _).alloc #[.int .u64 e0, .int .u64 e1, .int .u64 e2, .int .u64 e3] 31))
          generalize w7.alloc (.cells #[.int .u64 e0, .int .u64 e1, .int .u64 e2, .int .u64 e3] 31) = W3 at *
          have l0 := later_cell HG8.out.four.c0 HG8.out.lt
          have l1 := later_cell HG8.out.four.c1 HG8.out.lt
          have l2 := later_cell HG8.out.four.c2 HG8.out.lt
          have l3 := later_cell HG8.out.four.c3 HG8.out.lt
          simp only [Nat.zero_add] at l1 l2 l3
          refine wp_region_later W3 (by kernel_rfl) (by kernel_rfl) (Ext.refl _) ?_
          repeat (go_big_quiet_step ((go_at_call 16; exact later_call (HA2.out _ (HG8.out.later (Later.ext _)).rel))))
          refine wpQuiet_nil ?_
          rintro ⟨w9, hg9⟩
          dsimp only
          clear l0 l1 l2 l3
          have HX9 := Lib.hid (HG8.out.rel.ext.trans hg9)
          have HD9 := Lib.hid (HD8.out.later hg9)
          have hz9 := HD9.out.lt
          have hzn : w7.heap.size ≠ w9.heap.size := Nat.ne_of_lt hz9
          have hzm : w9.heap.size ≠ w7.heap.size := Nat.ne_of_gt hz9
          obtain ⟨c0, c1, c2, c3⟩ := (HC8.out.later hg9).four
          obtain ⟨d0, d1, d2, d3⟩ := (HA8.out.later hg9).four
          obtain ⟨f0, f1, f2, f3⟩ := (HB8.out.later hg9).four
          obtain ⟨g0, g1, g2, g3⟩ := (HD8.out.later hg9).four
          simp only [Nat.zero_add] at c1 c2 c3 d1 d2 d3 f1 f2 f3 g1 g2 g3
          clear hg9
          have hkmb : ((k : Int) == (m : Int)) = false := by simp; omega
          go_wp2_with fail
          go_region_with (first
            | (go_at_call 9
               refine (HS.out _ _ _ (by simp) (by intro j hj; obtain rfl | rfl | rfl | rfl | rfl | rfl | rfl | rfl : j = 0 ∨ j = 1 ∨ j = 2 ∨ j = 3 ∨ j = 4 ∨ j = 5 ∨ j = 6 ∨ j = 7 := (by omega) <;> simp)).mono ?_
               rintro r w10 ⟨rfl, hx10⟩
               obtain ⟨q0, q1, q2, q3⟩ := (HD9.out.later (((Ext.refl _).drew.alloc _ _).trans hx10)).four
               simp only [Nat.zero_add] at q1 q2 q3
               have HX10 := Lib.hid (HX9.out.trans (((Ext.refl _).drew.alloc _ _).trans hx10))
               clear hx10)
            | (go_at_call 8; refine (awake_any _).mono ?_; rintro r w11 ⟨rfl, hx11⟩))
          all_goals (try go_wp2)
          all_goals go_ret
          all_goals exact ⟨rfl, HX10.out.trans hx11⟩

end Go.Proofs.Ytdklcflclpmcbaa
