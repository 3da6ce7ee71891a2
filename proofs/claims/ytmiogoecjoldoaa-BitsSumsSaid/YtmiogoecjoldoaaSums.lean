/- The walk of the law BitsSums. -/
import Derived.Test.YtmiogoecjoldoaaFirst
import Derived.Test.YtmiogoecjoldoaaSumsP
import Derived.Test.YtmiogoecjoldoaaLater
namespace Go.Proofs.Ytmiogoecjoldoaa
open Go.RowKit
set_option linter.unusedVariables false

theorem cntF_at0 (f : Nat → Bool) (n : Nat) (h : n ≤ 512) : cntF f 0 (n : Nat) = (cnt f 0 n : Nat) := cntF_nat f 0 n (by omega)

theorem sums_facts (f : Nat → Bool) : ∃ s m e : Nat, sumV f = .agg #[.int .i64 (s : Nat), .int .i64 (m : Nat), .int .i64 (e : Nat)] ∧ s ≤ m ∧ e ≤ m ∧ m ≤ 512 ∧ cntF f 0 (s : Nat) = 0 ∧ cntF f (512 - (e : Nat)) (e : Nat) = 0 ∧
    (s < 512 → getB f (s : Nat) = true) ∧ (e < 512 → getB f (511 - (e : Nat)) = true) ∧ (0 < m → findB f (m : Nat) 0 = true) ∧ findB f ((m : Nat) + 1) 0 = false ∧ m + cnt f 0 512 ≤ 512 := by
  obtain ⟨s1, s2⟩ := startS_spec f 512
  obtain ⟨e1, e2⟩ := endS_spec f 512
  have hsm := start_le_max f 512
  have hem := end_le_max f 512
  have hm0 := maxS_le f 512
  have F1 := find_max f
  have F2 := find_more f
  have M1 := max_cnt f
  have hv : sumV f = .agg #[.int .i64 (startS f 512 : Nat), .int .i64 (maxS f 512 : Nat), .int .i64 (endS f 512 : Nat)] := rfl
  rw [hv]
  generalize startS f 512 = s at *
  generalize maxS f 512 = m at *
  generalize endS f 512 = e at *
  refine ⟨s, m, e, rfl, hsm, hem, hm0, ?_, ?_, fun h => ?_, fun h => ?_, F1, F2, M1⟩
  · rw [cntF_at0 f s (by omega), cnt_zero _ 0 (fun j _ h => s1 j (by omega))]; rfl
  · rw [show (512 : Int) - ((e : Nat) : Int) = ((512 - e : Nat) : Int) by omega, cntF_nat f (512 - e) e (by omega), cnt_zero _ _ (fun j h1 h2 => e1 j h1 (by omega))]; rfl
  · unfold getB
    rw [decide_eq_true (by omega), Bool.true_and, Int.toNat_natCast]
    rcases s2 with h2 | ⟨_, h2⟩
    · omega
    · exact h2
  · unfold getB
    rw [decide_eq_true (by omega), Bool.true_and, show (511 - ((e : Nat) : Int)).toNat = 512 - e - 1 by omega]
    rcases e2 with h2 | h2
    · omega
    · exact h2

set_option maxRecDepth 100000 in
set_option maxHeartbeats 2000000 in
theorem sums_law (f : Nat → Bool) (w : World) : Calls Try.prog 5 #[.agg (arr f)] w fun r w' => r = .returned (.bool true) ∧ Ext w w' := by
  have HR := Lib.hid (boxed_row w f)
  have HX := Lib.hid (boxed_ext w f)
  obtain ⟨s, m, e, hv, hsm, hem, hm0, c1, c2, g1, g2, f1, f2, M1⟩ := sums_facts f
  have C1 := Lib.hid c1
  have C2 := Lib.hid c2
  have G1 := Lib.hid g1
  have G2 := Lib.hid g2
  have F1 := Lib.hid f1
  have F2 := Lib.hid f2
  clear c1 c2 g1 g2 f1 f2
  have h512 := cntF_at0 f 512 (by omega)
  have CB := Lib.hid (show cntF f 0 512 = (cnt f 0 512 : Nat) from h512)
  have hcl := cnt_le f 512 0
  clear h512
  generalize cnt f 0 512 = c at *
  unfold boxed at HR HX
  have HSum := Lib.hid (fun (b : Nat) w h => sum_any b 0 f w h)
  rw [hv] at HSum
  clear hv
  have HCnt := Lib.hid (fun (b : Nat) i n w h => count_any b 0 i n f w h)
  have HGet := Lib.hid (fun (b : Nat) i w h => get_any b 0 i f w h)
  have HFind := Lib.hid (fun (b : Nat) n w h => find_any b 0 n 0 f w h (by omega))
  unfold arr at HR HX ⊢
  generalize word f 0 = x0 at *
  generalize word f 1 = x1 at *
  generalize word f 2 = x2 at *
  generalize word f 3 = x3 at *
  generalize word f 4 = x4 at *
  generalize word f 5 = x5 at *
  generalize word f 6 = x6 at *
  generalize word f 7 = x7 at *
  go_enter Try.func5, Try.ntmps5
  go_wp2_with fail
  refine (HSum.out (w.heap.size + 1) _ HR.out).mono ?_
  rintro r w1 ⟨rfl, hx⟩
  have HR1 := Lib.hid ((HR.out.later hx).later ((Ext.refl w1).alloc #[.int .i64 (s : Nat), .int .i64 (m : Nat), .int .i64 (e : Nat)] 34))
  have HX1 := Lib.hid ((HX.out.trans hx).alloc #[.int .i64 (s : Nat), .int .i64 (m : Nat), .int .i64 (e : Nat)] 34)
  have HB1 := Lib.hid (Blk.new w1 34 #[.int .i64 (s : Nat), .int .i64 (m : Nat), .int .i64 (e : Nat)])
  clear hx HR HX
  go_wp2_with fail
  refine (HCnt.out (w.heap.size + 1) _ _ _ HR1.out).mono ?_
  rw [C1.out]
  rintro r w2 ⟨rfl, hx⟩
  have HR2 := Lib.hid (HR1.out.later hx)
  have HX2 := Lib.hid (HX1.out.trans hx)
  have HB2 := Lib.hid (HB1.out.later hx)
  clear hx HR1 HX1 HB1
  have c0 := HB2.out.cell 0
  have c1 := HB2.out.cell 1
  have c2 := HB2.out.cell 2
  simp only [List.getElem?_toArray, List.getElem?_cons_succ, List.getElem?_cons_zero] at c0 c1 c2
  go_wp2_with fail
  refine (HCnt.out (w.heap.size + 1) _ _ _ HR2.out).mono ?_
  rw [C2.out]
  rintro r w3 ⟨rfl, hx⟩
  have HR3 := Lib.hid (HR2.out.later hx)
  have HX3 := Lib.hid (HX2.out.trans hx)
  have HB3 := Lib.hid (HB2.out.later hx)
  clear hx HR2 HX2 HB2 c0 c1 c2
  have c0 := HB3.out.cell 0
  have c1 := HB3.out.cell 1
  have c2 := HB3.out.cell 2
  simp only [List.getElem?_toArray, List.getElem?_cons_succ, List.getElem?_cons_zero] at c0 c1 c2
  have hblt := HB3.out.lt
  have key : Hid (∀ (i : Int), Calls Try.prog 20 #[.pointer (some ⟨w.heap.size + 1, 0, none⟩), .int .i64 i] w3 fun r w' => r = .returned (.bool (getB f i)) ∧ w3 = w') := Lib.hid (fun i => HGet.out _ i _ HR3.out)
  have hs5 : 512 ≤ s ∨ s < 512 := by omega
  have he5 : 512 ≤ e ∨ e < 512 := by omega
  rcases hs5 with hs5 | hs5
  · have hm5 : 0 < m := by omega
    rcases he5 with he5 | he5
    · go_wp2_with fail
      refine (HFind.out _ _ _ HR3.out).mono ?_
      rw [F1.out hm5]
      rintro r w4 ⟨rfl, rfl⟩
      go_wp2_with fail
      refine (HFind.out _ _ _ HR3.out).mono ?_
      rw [F2.out]
      rintro r w4 ⟨rfl, rfl⟩
      go_wp2_with fail
      have l0 := later_cell c0 hblt
      have l1 := later_cell c1 hblt
      have l2 := later_cell c2 hblt
      have q1 : IntKind.i64.wrap (512 - (c : Int)) = 512 - (c : Int) := IntWalk.i64_in _ (by omega)
      have q2 : decide ((m : Int) ≤ 512 - (c : Int)) = true := decide_eq_true (by omega)
      have HC := Lib.hid (fun (x : Later w3) => later_call (HCnt.out (w.heap.size + 1) 0 512 x.w (HR3.out.later x.ext)))
      rw [CB.out] at HC
      refine wp_region_later w3 (by kernel_rfl) (by kernel_rfl) (Ext.refl _) ?_
      repeat (go_big_quiet_step (first | (go_at_call 15; exact HC.out _) | (go_at_call 19; exact later_call (awake_any _))))
      refine wpQuiet_nil ?_
      rintro ⟨w7, hg7⟩
      dsimp only
      clear l0 l1 l2 q1 q2
      go_wp2
      go_ret
      exact ⟨rfl, HX3.out.trans hg7⟩
    · go_wp2_with fail
      refine (key.out _).mono ?_
      rw [G2.out he5]
      rintro r w4 ⟨rfl, rfl⟩
      go_wp2_with fail
      refine (HFind.out _ _ _ HR3.out).mono ?_
      rw [F1.out hm5]
      rintro r w4 ⟨rfl, rfl⟩
      go_wp2_with fail
      refine (HFind.out _ _ _ HR3.out).mono ?_
      rw [F2.out]
      rintro r w4 ⟨rfl, rfl⟩
      go_wp2_with fail
      have l0 := later_cell c0 hblt
      have l1 := later_cell c1 hblt
      have l2 := later_cell c2 hblt
      have q1 : IntKind.i64.wrap (512 - (c : Int)) = 512 - (c : Int) := IntWalk.i64_in _ (by omega)
      have q2 : decide ((m : Int) ≤ 512 - (c : Int)) = true := decide_eq_true (by omega)
      have HC := Lib.hid (fun (x : Later w3) => later_call (HCnt.out (w.heap.size + 1) 0 512 x.w (HR3.out.later x.ext)))
      rw [CB.out] at HC
      refine wp_region_later w3 (by kernel_rfl) (by kernel_rfl) (Ext.refl _) ?_
      repeat (go_big_quiet_step (first | (go_at_call 15; exact HC.out _) | (go_at_call 19; exact later_call (awake_any _))))
      refine wpQuiet_nil ?_
      rintro ⟨w7, hg7⟩
      dsimp only
      clear l0 l1 l2 q1 q2
      go_wp2
      go_ret
      exact ⟨rfl, HX3.out.trans hg7⟩
  · rcases he5 with he5 | he5
    · have hm5 : 0 < m := by omega
      go_wp2_with fail
      refine (key.out _).mono ?_
      rw [G1.out hs5]
      rintro r w4 ⟨rfl, rfl⟩
      go_wp2_with fail
      refine (HFind.out _ _ _ HR3.out).mono ?_
      rw [F1.out hm5]
      rintro r w4 ⟨rfl, rfl⟩
      go_wp2_with fail
      refine (HFind.out _ _ _ HR3.out).mono ?_
      rw [F2.out]
      rintro r w4 ⟨rfl, rfl⟩
      go_wp2_with fail
      have l0 := later_cell c0 hblt
      have l1 := later_cell c1 hblt
      have l2 := later_cell c2 hblt
      have q1 : IntKind.i64.wrap (512 - (c : Int)) = 512 - (c : Int) := IntWalk.i64_in _ (by omega)
      have q2 : decide ((m : Int) ≤ 512 - (c : Int)) = true := decide_eq_true (by omega)
      have HC := Lib.hid (fun (x : Later w3) => later_call (HCnt.out (w.heap.size + 1) 0 512 x.w (HR3.out.later x.ext)))
      rw [CB.out] at HC
      refine wp_region_later w3 (by kernel_rfl) (by kernel_rfl) (Ext.refl _) ?_
      repeat (go_big_quiet_step (first | (go_at_call 15; exact HC.out _) | (go_at_call 19; exact later_call (awake_any _))))
      refine wpQuiet_nil ?_
      rintro ⟨w7, hg7⟩
      dsimp only
      clear l0 l1 l2 q1 q2
      go_wp2
      go_ret
      exact ⟨rfl, HX3.out.trans hg7⟩
    · go_wp2_with fail
      refine (key.out _).mono ?_
      rw [G1.out hs5]
      rintro r w4 ⟨rfl, rfl⟩
      go_wp2_with fail
      refine (key.out _).mono ?_
      rw [G2.out he5]
      rintro r w4 ⟨rfl, rfl⟩
      have hm5 : m ≤ 0 ∨ 0 < m := by omega
      rcases hm5 with hm5 | hm5
      · go_wp2_with fail
        refine (HFind.out _ _ _ HR3.out).mono ?_
        rw [F2.out]
        rintro r w4 ⟨rfl, rfl⟩
        go_wp2_with fail
        have l0 := later_cell c0 hblt
        have l1 := later_cell c1 hblt
        have l2 := later_cell c2 hblt
        have q1 : IntKind.i64.wrap (512 - (c : Int)) = 512 - (c : Int) := IntWalk.i64_in _ (by omega)
        have q2 : decide ((m : Int) ≤ 512 - (c : Int)) = true := decide_eq_true (by omega)
        have HC := Lib.hid (fun (x : Later w3) => later_call (HCnt.out (w.heap.size + 1) 0 512 x.w (HR3.out.later x.ext)))
        rw [CB.out] at HC
        refine wp_region_later w3 (by kernel_rfl) (by kernel_rfl) (Ext.refl _) ?_
        repeat (go_big_quiet_step (first | (go_at_call 15; exact HC.out _) | (go_at_call 19; exact later_call (awake_any _))))
        refine wpQuiet_nil ?_
        rintro ⟨w7, hg7⟩
        dsimp only
        clear l0 l1 l2 q1 q2
        go_wp2
        go_ret
        exact ⟨rfl, HX3.out.trans hg7⟩
      · go_wp2_with fail
        refine (HFind.out _ _ _ HR3.out).mono ?_
        rw [F1.out hm5]
        rintro r w4 ⟨rfl, rfl⟩
        go_wp2_with fail
        refine (HFind.out _ _ _ HR3.out).mono ?_
        rw [F2.out]
        rintro r w4 ⟨rfl, rfl⟩
        go_wp2_with fail
        have l0 := later_cell c0 hblt
        have l1 := later_cell c1 hblt
        have l2 := later_cell c2 hblt
        have q1 : IntKind.i64.wrap (512 - (c : Int)) = 512 - (c : Int) := IntWalk.i64_in _ (by omega)
        have q2 : decide ((m : Int) ≤ 512 - (c : Int)) = true := decide_eq_true (by omega)
        have HC := Lib.hid (fun (x : Later w3) => later_call (HCnt.out (w.heap.size + 1) 0 512 x.w (HR3.out.later x.ext)))
        rw [CB.out] at HC
        refine wp_region_later w3 (by kernel_rfl) (by kernel_rfl) (Ext.refl _) ?_
        repeat (go_big_quiet_step (first | (go_at_call 15; exact HC.out _) | (go_at_call 19; exact later_call (awake_any _))))
        refine wpQuiet_nil ?_
        rintro ⟨w7, hg7⟩
        dsimp only
        clear l0 l1 l2 q1 q2
        go_wp2
        go_ret
        exact ⟨rfl, HX3.out.trans hg7⟩

theorem walk_BitsSums {W : World} (v : Value) (f : Nat → Bool) (hv : v = .agg (arr f)) :
    Calls Try.prog 5 #[v] W fun r w' => r = .returned (.bool true) ∧ Ext W w' := by
  subst hv
  exact sums_law f W

end Go.Proofs.Ytmiogoecjoldoaa
