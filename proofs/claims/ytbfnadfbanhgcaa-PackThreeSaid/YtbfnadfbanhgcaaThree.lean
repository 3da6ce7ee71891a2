/- The walk of the law PackThree. -/
import Derived.Test.YtbfnadfbanhgcaaThreeLaw
import Derived.Test.YtbfnadfbanhgcaaMerges
import Derived.Test.YtbfnadfbanhgcaaFar
namespace Go.Proofs.Ytbfnadfbanhgcaa
open Go.RowKit Go.Deep Go.ChangeShapes Go.WideShapes
set_option linter.unusedVariables false

theorem mergeT_bad {l : List Sm} {p : Int} (h : rightsB l p = false) : mergeT l p = .tuple #[.agg #[.int .i64 0, .int .i64 0, .int .i64 0], .int .i64 1] := by
  unfold mergeT; rw [if_neg (by rw [h]; decide)]
theorem mergeT_good {l : List Sm} {p : Int} (h : rightsB l p = true) : ∃ a b c : Int, mergeT l p = .tuple #[.agg #[.int .i64 a, .int .i64 b, .int .i64 c], .int .i64 0] := by
  unfold mergeT; rw [if_pos h]; exact ⟨_, _, _, rfl⟩

theorem even_test {n m : Nat} (h : n = m * 2) : ((n : Int) % 2 == 1) = false := by simp; omega
theorem even_test2 {n m : Nat} (h : n = m * 2) : ((n : Int).tmod 2 == 1) = false := by rw [Int.tmod_eq_emod_of_nonneg (by omega)]; exact even_test h

set_option maxHeartbeats 1000000 in
theorem three_bad (v : Value) (l : List Sm) (W : World) (h : SlAt W v l) (p c m : Int) (mm : Nat) (hm : l.length = mm * 2) (hl : l.length ≤ 32) (hp : p ≤ 524288) (hr : rightsB l p = false) :
    Calls Try.prog 4 #[v, .int .i64 p, .int .i64 c] W fun r w' => r = .returned (.bool true) ∧ Ext W w' := by
  have HM := Lib.hid (mergeT_bad hr)
  obtain ⟨ad0, c0, rfl⟩ := sl_form h
  have H := Lib.hid h
  clear h
  have k1 : decide (32 < (l.length : Int)) = false := by simp; omega
  have k2 := even_test hm
  have k3 := even_test2 hm
  have k0 : 0 ≤ (l.length : Int) := by omega
  clear hm
  go_enter Try.func4, Try.ntmps4
  go_wp2_with fail
  refine (merge_any _ l _ _ H.out).mono ?_
  rintro r w1 ⟨rfl, hg1⟩
  rw [HM.out]
  go_wp2_with (go_at_call 16; refine (awake_any _).mono ?_; rintro r w2 ⟨rfl, hg2⟩)
  go_ret
  exact ⟨rfl, (hg1.trans ((Ext.refl w1).alloc _ _)).trans hg2⟩

/-- the memory of the loop: so many pairs are merged. -/
structure TRel (W wr : World) (p : Int) (l : List Sm) (v : Value) (k : Nat) : Prop where
  own : wr.ownsRow W.heap.size 25 3 v (pairsTo p l k).length (rowCells (pairsTo p l k))
  ext : Ext W wr

theorem slice_pair {w : World} {b off : Nat} {l : List Sm} (hb : b < w.heap.size) (hc : SumsAt w b off l) (j : Nat) (h : j + 1 < l.length) (cap' : Nat) : SlAt w (.slice (some ⟨b, off + j * 3, none⟩) 2 cap') [l.getD j ⟨0, 0, 0⟩, l.getD (j + 1) ⟨0, 0, 0⟩] := by
  refine .inr ⟨b, off + j * 3, cap', rfl, hb, fun i hi => ?_⟩
  have hi' : i = 0 ∨ i = 1 := by simp at hi; omega
  rcases hi' with rfl | rfl
  · have := hc j (by omega)
    simpa [List.getD, show j < l.length by omega] using this
  · have := hc (j + 1) h
    rw [show off + (j + 1) * 3 = off + j * 3 + 1 * 3 by omega] at this
    simpa [List.getD, h] using this

set_option maxHeartbeats 4000000 in
theorem three_row (b off cap : Nat) (l : List Sm) (W : World) (hb : b < W.heap.size) (hc : Hid (SumsAt W b off l)) (hcap : l.length ≤ cap) (hcm : cap ≤ 9223372036854775807) (p c : Int) (mm : Nat) (hm : Hid (l.length = mm * 2)) (hm2 : mm * 2 ≤ l.length) (hm3 : l.length ≤ mm * 2) (hl : l.length ≤ 32) (hp : p ≤ 524288) (hr : rightsB l p = true) :
    Calls Try.prog 4 #[.slice (some ⟨b, off, none⟩) l.length cap, .int .i64 p, .int .i64 c] W fun r w' => r = .returned (.bool true) ∧ Ext W w' := by
  obtain ⟨x0, x1, x2, hmt⟩ := mergeT_good hr
  have HM := Lib.hid hmt
  have HP := Lib.hid (three_all hr hp hm.out)
  have HR := Lib.hid (rights_of hr)
  obtain ⟨p1, p2, -, -⟩ := HR.out
  have H : Hid (SlAt W (.slice (some ⟨b, off, none⟩) l.length cap) l) := Lib.hid (.inr ⟨b, off, cap, rfl, hb, hc.out⟩)
  clear hmt
  have k1 : decide (32 < (l.length : Int)) = false := by simp; omega
  have k2 := even_test hm.out
  have k3 := even_test2 hm.out
  have k0 : 0 ≤ (l.length : Int) := by omega
  obtain ⟨i0, hi, hz0, hz1, hz2⟩ := info_parts info25'
  go_enter Try.func4, Try.ntmps4
  go_wp2_with fail
  refine (merge_any _ l _ _ H.out).mono ?_
  rintro r w1 ⟨rfl, hg1⟩
  rw [HM.out]
  go_wp2_with fail
  have hW1 : Ext W (w1.alloc (.cells #[.int .i64 x0, .int .i64 x1, .int .i64 x2] 25)) := hg1.alloc _ _
  obtain ⟨q0, q1, q2, -, qz⟩ := Ext.new3 (Ext.refl (w1.alloc (.cells #[.int .i64 x0, .int .i64 x1, .int .i64 x2] 25)))
  generalize w1.alloc (.cells #[.int .i64 x0, .int .i64 x1, .int .i64 x2] 25) = W1 at hW1 q0 q1 q2 qz ⊢
  have HW1 := Lib.hid hW1
  clear hW1 hg1
  have hwz := HW1.out.size
  go_loopw [9, 10] (fun v i wr => ∃ k : Nat, k ≤ mm ∧ i = .int .i64 ((k * 2 : Nat) : Int) ∧ Hid (TRel W1 wr p l v k)) (fun _ i _ => l.length + 2 - (intOf i).toNat)
  case atStart => exact ⟨0, Nat.zero_le _, rfl, Lib.hid ⟨by simpa [pairsTo, rowCells] using World.ownsRow_nil _ _ _ _, Ext.refl _⟩⟩
  case round =>
    obtain ⟨k, hk, rfl, hrel⟩ := hrel
    by_cases hlt : k < mm
    · have hbr : b < wr.heap.size := by have := hrel.out.ext.size; omega
      have hS := slice_pair hbr ((hc.out.ext hb HW1.out).ext (by omega) hrel.out.ext) (k * 2) (by omega)
      have HS := Lib.hid hS
      clear hS
      have HT := Lib.hid (three_pair p1 p2 (by have := HR.out.2.2.2 (k * 2) (by omega); rw [← getD_lt (by omega)] at this; exact this) (by have := HR.out.2.2.2 (k * 2 + 1) (by omega); rw [← getD_lt (by omega)] at this; exact this))
      have hlen := pairsTo_len p l k
      have HN := Lib.hid (pairsTo_snoc p l k)
      go_wp2_with fail
      refine (merge_any _ _ p _ (HS.out _)).mono ?_
      rintro r w2 ⟨rfl, hg2⟩
      rw [HT.out]
      have hO := owns_later hrel.out.own hg2.below
      have hX := hrel.out.ext.trans hg2
      have HO := Lib.hid hO
      have HX := Lib.hid hX
      have hsz := hX.size
      have HY := Lib.hid (show pairsTo p l (k + 1) = pairsTo p l k ++ [pairSm p (l.getD (k * 2) ⟨0, 0, 0⟩) (l.getD (k * 2 + 1) ⟨0, 0, 0⟩)] from HN.out)
      clear hO hX hg2 hrel HS HT HN
      generalize pairSm p (l.getD (k * 2) ⟨0, 0, 0⟩) (l.getD (k * 2 + 1) ⟨0, 0, 0⟩) = y at *
      obtain ⟨ys, ym, ye⟩ := y
      unfold Sm.val
      dsimp only
      go_wp2_with (first | (at_builtin; refine wpList_append_off W1.heap.size _ rfl (.tmp 62) (.tmp 64) 22 rfl 25 i0 _ 3 24 Try.underlying22 hi hz0 hz1 hz2 rfl (by decide) _ _ _ (by rfl) (by exact owns_later HO.out (Ext.below (by repeat (first | exact Ext.refl _ | refine Ext.drew ?_ | refine Ext.alloc ?_ _ _)))) (.slice (some ⟨w2.heap.size + 1, 0, none⟩) 1 1) 1 [.int .i64 ys, .int .i64 ym, .int .i64 ye] (by rfl) (by
        refine .inr ⟨_, _, rfl, rfl, fun j u hu => ?_⟩
        match j, hu with
        | 0, hu => simp at hu; subst hu; simp [Addr.add]
        | 1, hu => simp at hu; subst hu; simp [Addr.add]
        | 2, hu => simp at hu; subst hu; simp [Addr.add]) (by intro u hu; simp at hu; rcases hu with rfl | rfl | rfl <;> rfl) (by unfold maxLen; omega) (by omega) (by simp; omega) ?_) | fail)
      intro v' w3 hown' hoff
      have hx3 : Ext W1 w3 := (HX.out.trans (by repeat (first | exact Ext.refl _ | refine Ext.drew ?_ | refine Ext.alloc ?_ _ _))).off hoff (Nat.le_refl _)
      have HN := Lib.hid (TRel.mk (W := W1) (wr := w3) (p := p) (l := l) (v := v') (k := k + 1) (by rw [HY.out, ← rowCells_snoc, List.length_append, hlen]; exact hown') hx3)
      clear hown' hoff hx3 hlen
      go_wp2
      go_roundw
      case rel => exact ⟨k + 1, by omega, by go_num, HN⟩
      case measure => simp [intOf]; omega
    · obtain rfl : k = mm := by omega
      have HS := Lib.hid (sl_of_owns hrel.out.own)
      have HX := Lib.hid hrel.out.ext
      have d0 := (HX.out.cell _ _ qz).trans q0
      have d1 := (HX.out.cell _ _ qz).trans q1
      have d2 := (HX.out.cell _ _ qz).trans q2
      have dz := Nat.lt_of_lt_of_le qz HX.out.size
      clear hrel q0 q1 q2
      go_wp2_with fail
      refine (merge_any _ _ _ _ HS.out).mono ?_
      rintro r w3 ⟨rfl, hg3⟩
      rw [HP.out, HM.out]
      have e0 := (hg3.cell _ _ dz).trans d0
      have e1 := (hg3.cell _ _ dz).trans d1
      have e2 := (hg3.cell _ _ dz).trans d2
      have ez := Nat.lt_of_lt_of_le dz hg3.size
      have HX3 := Lib.hid (HX.out.trans hg3)
      clear hg3 d0 d1 d2 HS
      by_cases hpos : 0 < k
      · have hl0 : 0 < l.length := by omega
        have k4 : decide ((0 : Int) < (l.length : Int)) = true := decide_eq_true (by omega)
        have hc1 : 1 ≤ cap := by omega
        have hbw : b < w3.heap.size := by have := HX3.out.size; omega
        obtain ⟨a0, a1, a2⟩ := ((hc.out.ext hb HW1.out).ext (by omega) HX3.out) 0 hl0
        simp only [Nat.zero_mul, Nat.add_zero] at a0 a1 a2
        have HT := Lib.hid (three_one p1 p2 (HR.out.2.2.2 0 hl0))
        have HSl : Hid (∀ cap', SlAt w3 (.slice (some ⟨b, off, none⟩) 1 cap') [l[0]]) := Lib.hid (fun cap' => .inr ⟨b, off, cap', rfl, hbw, fun i hi => by
          obtain rfl : i = 0 := by simp at hi; omega
          simpa using ⟨a0, a1, a2⟩⟩)
        generalize l[0] = y at *
        obtain ⟨ys, ym, ye⟩ := y
        dsimp only at a0 a1 a2
        go_wp2_with fail
        refine (merge_any _ [⟨ys, ym, ye⟩] p _ ((HSl.out _).ext (by repeat (first | exact Ext.refl _ | refine Ext.drew ?_ | refine Ext.alloc ?_ _ _)))).mono ?_
        rintro r w4 ⟨rfl, hg4⟩
        rw [HT.out]
        have z4 : w3.heap.size + 2 ≤ w4.heap.size := by have := hg4.size; simp at this; omega
        have g0 : w4.cell? ⟨w3.heap.size, 0, none⟩ = some (.int .i64 x0) := (hg4.cell _ _ (by simp; omega)).trans (by simp)
        have g1 : w4.cell? ⟨w3.heap.size, 1, none⟩ = some (.int .i64 x1) := (hg4.cell _ _ (by simp; omega)).trans (by simp)
        have g2 : w4.cell? ⟨w3.heap.size, 2, none⟩ = some (.int .i64 x2) := (hg4.cell _ _ (by simp; omega)).trans (by simp)
        have f0 : w4.cell? ⟨w3.heap.size + 1, 0, none⟩ = some (.int .i64 0) := (hg4.cell _ _ (by simp)).trans (by simp)
        have f1 : w4.cell? ⟨w3.heap.size + 1, 1, none⟩ = some (.int .i64 0) := (hg4.cell _ _ (by simp)).trans (by simp)
        have f2 : w4.cell? ⟨w3.heap.size + 1, 2, none⟩ = some (.int .i64 0) := (hg4.cell _ _ (by simp)).trans (by simp)
        have hE4 : Ext w3 w4 := Ext.trans (by repeat (first | exact Ext.refl _ | refine Ext.drew ?_ | refine Ext.alloc ?_ _ _)) hg4
        have HX4 := Lib.hid (HW1.out.trans (HX3.out.trans hE4))
        have r0 := (hE4.cell _ _ ez).trans e0
        have r1 := (hE4.cell _ _ ez).trans e1
        have r2 := (hE4.cell _ _ ez).trans e2
        have b0 := (hE4.cell _ _ hbw).trans a0
        have b1 := (hE4.cell _ _ hbw).trans a1
        have b2 := (hE4.cell _ _ hbw).trans a2
        have hz3 : W.heap.size ≤ w3.heap.size := (HW1.out.trans HX3.out).size
        have fr : ∀ j, w4.frozen? ⟨w3.heap.size + 1, j, none⟩ = false := fun j => by
          rw [HX4.out.frozen]; exact frozen_none _ _ _ (by omega)
        have n1 : w1.heap.size ≠ w3.heap.size + 1 := by omega
        have n2 : b ≠ w3.heap.size + 1 := by omega
        have n3 : w3.heap.size + 1 ≠ w1.heap.size := by omega
        have n4 : w3.heap.size + 1 ≠ b := by omega
        clear hg4 hE4 e0 e1 e2 a0 a1 a2 HT HSl
        unfold Sm.val
        dsimp only
        go_wp2
        go_quiet (fail)
        go_wp2_with (go_at_call 16; refine (awake_any _).mono ?_; rintro r w5 ⟨rfl, hg5⟩)
        go_ret
        refine ⟨rfl, Ext.trans ?_ hg5⟩
        exact (((HX4.out.setCell (by show W.heap.size ≤ w3.heap.size + 1; omega) _).setCell (by show W.heap.size ≤ w3.heap.size + 1; omega) _).setCell (by show W.heap.size ≤ w3.heap.size + 1; omega) _).drewN _
      · have hl0 : l.length = 0 := by omega
        have k4 : decide ((0 : Int) < (l.length : Int)) = false := decide_eq_false (by omega)
        clear hl0
        go_wp2_with (go_at_call 16; refine (awake_any _).mono ?_; rintro r w5 ⟨rfl, hg5⟩)
        go_ret
        exact ⟨rfl, (((HW1.out.trans HX3.out).alloc _ _).alloc _ _).trans hg5⟩

set_option maxHeartbeats 1000000 in
theorem three_nil (W : World) (p c : Int) (hp : p ≤ 524288) (hr : rightsB [] p = true) :
    Calls Try.prog 4 #[.slice none 0 0, .int .i64 p, .int .i64 c] W fun r w' => r = .returned (.bool true) ∧ Ext W w' := by
  obtain ⟨x0, x1, x2, hmt⟩ := mergeT_good hr
  have HM := Lib.hid hmt
  have HP : Hid (mergeT [] (2 * p) = mergeT [] p) := Lib.hid (three_all (m := 0) hr hp rfl)
  obtain ⟨p1, p2, -, -⟩ := rights_of hr
  have H : Hid (∀ w, SlAt w (.slice none 0 0) []) := Lib.hid (fun _ => .inl ⟨rfl, rfl⟩)
  clear hmt
  go_enter Try.func4, Try.ntmps4
  go_wp2_with fail
  refine (merge_any _ [] _ _ (H.out _)).mono ?_
  rintro r w1 ⟨rfl, hg1⟩
  rw [HM.out]
  go_wp2_with fail
  obtain ⟨q0, q1, q2, -, qz⟩ := Ext.new3 (Ext.refl (w1.alloc (.cells #[.int .i64 x0, .int .i64 x1, .int .i64 x2] 25)))
  have hW1 : Ext W (w1.alloc (.cells #[.int .i64 x0, .int .i64 x1, .int .i64 x2] 25)) := hg1.alloc _ _
  generalize w1.alloc (.cells #[.int .i64 x0, .int .i64 x1, .int .i64 x2] 25) = W1 at hW1 q0 q1 q2 qz ⊢
  have HW1 := Lib.hid hW1
  clear hW1 hg1
  refine wp_loop_rounds 1 ?_
  rw [rounds_succ]
  go_wp2_with fail
  refine (merge_any _ [] _ _ (H.out _)).mono ?_
  rintro r w3 ⟨rfl, hg3⟩
  rw [HP.out, HM.out]
  have e0 := (hg3.cell _ _ qz).trans q0
  have e1 := (hg3.cell _ _ qz).trans q1
  have e2 := (hg3.cell _ _ qz).trans q2
  have ez := Nat.lt_of_lt_of_le qz hg3.size
  have HX3 := Lib.hid (HW1.out.trans hg3)
  clear hg3 q0 q1 q2
  go_wp2_with (go_at_call 16; refine (awake_any _).mono ?_; rintro r w5 ⟨rfl, hg5⟩)
  go_ret
  exact ⟨rfl, ((HX3.out.alloc _ _).alloc _ _).trans hg5⟩

theorem open_sums2 {H : Type} {enc : TypeId × Value → H} {W : World} {base : Nat} {v : Value} {d : DataW H} {p : List MemPlace} (hval : Value.okWide Try.prog W .any base 22 v) (h : DataW.Trod enc Try.prog W 0 (fun _ => true) true 22 v d p) :
    ∃ l : List Sm, l.length ≤ maxLen ∧ ((v = .slice none 0 0 ∧ l = []) ∨ ∃ b off cap, v = .slice (some ⟨b, off, none⟩) l.length cap ∧ b < W.heap.size ∧ l.length ≤ cap ∧ cap ≤ maxLen ∧ SumsAt W b off l) := by
  obtain ⟨l, hs, hl⟩ := open_sums hval h
  refine ⟨l, hl, ?_⟩
  rcases hs with ⟨h1, h2⟩ | ⟨b, off, cap, h1, h2, h3⟩
  · exact .inl ⟨h1, h2⟩
  · rcases open_recs2 (fs := _) Try.underlying22 Try.underlying25 (by kernel_rfl) (by kernel_rfl) (by decide) hval h with hv | ⟨b', off', len', cap', hv, hl', hm', hb', hc'⟩
    · rw [h1] at hv; cases hv
    · rw [h1] at hv
      injection hv with e1 e2 e3
      subst e2 e3
      exact .inr ⟨b, off, cap, h1, h2, hl', hm', h3⟩

theorem walk_PackThree {W : World} (v : Value) (l : List Sm) (hl : l.length ≤ maxLen ∧ ((v = .slice none 0 0 ∧ l = []) ∨ ∃ b off cap, v = .slice (some ⟨b, off, none⟩) l.length cap ∧ b < W.heap.size ∧ l.length ≤ cap ∧ cap ≤ maxLen ∧ SumsAt W b off l)) (p : Int) (_wp : (Lit.int .i64 p).wf = true) (c : Int) (_wc : (Lit.int .i64 c).wf = true) :
    Calls Try.prog 4 #[v, .int .i64 p, .int .i64 c] W fun r w' => r = .returned (.bool true) ∧ Ext W w' := by
  obtain ⟨hm, hv⟩ := hl
  have hs : SlAt W v l := by
    rcases hv with h | ⟨b, off, cap, h1, h2, h3, h4, h5⟩
    · exact .inl h
    · exact .inr ⟨b, off, cap, h1, h2, h5⟩
  unfold maxLen at hm
  by_cases ho : l.length ≤ 32 ∧ l.length % 2 = 0 ∧ p ≤ 524288
  · obtain ⟨o1, o2, o3⟩ := ho
    have hmm : l.length = l.length / 2 * 2 := by omega
    cases hr : rightsB l p
    · exact three_bad v l W hs p c 0 _ hmm o1 o3 hr
    · rcases hv with ⟨rfl, rfl⟩ | ⟨b, off, cap, rfl, h2, h3, h4, h5⟩
      · exact three_nil W p c o3 hr
      · unfold maxLen at h4
        exact three_row b off cap l W h2 (Lib.hid h5) h3 (by omega) p c _ (Lib.hid hmm) (by omega) (by omega) o1 o3 hr
  · obtain ⟨ad0, c0, rfl⟩ := sl_form hs
    clear hs hv
    by_cases h1 : 32 < l.length
    · have k1 : decide (32 < (l.length : Int)) = true := by simp; omega
      clear ho
      go_enter Try.func4, Try.ntmps4
      go_wp2
      go_ret
      exact ⟨rfl, Ext.refl _⟩
    · have k1 : decide (32 < (l.length : Int)) = false := by simp; omega
      have k0 : 0 ≤ (l.length : Int) := by omega
      by_cases h2 : l.length % 2 = 1
      · have k2 : ((l.length : Int) % 2 == 1) = true := by simp; omega
        have k3 : ((l.length : Int).tmod 2 == 1) = true := by rw [Int.tmod_eq_emod_of_nonneg (by omega)]; exact k2
        clear ho h2
        go_enter Try.func4, Try.ntmps4
        go_wp2
        go_ret
        exact ⟨rfl, Ext.refl _⟩
      · have k2 : ((l.length : Int) % 2 == 1) = false := by simp; omega
        have k3 : ((l.length : Int).tmod 2 == 1) = false := by rw [Int.tmod_eq_emod_of_nonneg (by omega)]; exact k2
        have h3 : 524288 < p := by omega
        clear ho h2
        go_enter Try.func4, Try.ntmps4
        go_wp2
        go_ret
        exact ⟨rfl, Ext.refl _⟩

end Go.Proofs.Ytbfnadfbanhgcaa
