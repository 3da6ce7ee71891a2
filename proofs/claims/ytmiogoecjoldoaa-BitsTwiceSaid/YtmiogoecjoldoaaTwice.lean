/- The walk of the law BitsTwice. -/
import Derived.Test.YtmiogoecjoldoaaFirst
import Derived.Test.YtmiogoecjoldoaaBitsF
import Derived.BigRegion
namespace Go.Proofs.Ytmiogoecjoldoaa
open Go.RowKit
set_option linter.unusedVariables false

def twiceW (w : World) (f : Nat → Bool) : World := (((w.alloc (.cells (arr f) 23)).alloc (.cells (arr f) 24)).alloc (.cells (arr f) 24)).drew

theorem twice_world (w : World) (f : Nat → Bool) : RowAt (twiceW w f) (w.heap.size + 1) 0 f ∧ RowAt (twiceW w f) (w.heap.size + 1 + 1) 0 f ∧ Blk (twiceW w f) w.heap.size 23 (arr f) ∧ Ext w (twiceW w f) := by
  have h1 := (Blk.new (w.alloc (.cells (arr f) 23)) 24 (arr f)).alloc (.cells (arr f) 24)
  have h2 := Blk.new ((w.alloc (.cells (arr f) 23)).alloc (.cells (arr f) 24)) 24 (arr f)
  simp only [World.size_alloc] at h1 h2
  exact ⟨row_of_blk (h1.drew), row_of_blk (h2.drew), ((((Blk.new w _ _).alloc _).alloc _).drew), ((((Ext.refl w).alloc _ _).alloc _ _).alloc _ _).drew⟩

theorem row_cell {w : World} {b : Nat} {f : Nat → Bool} (h : RowAt w b 0 f) (k : Nat) (hk : k < 8) {x : Nat} (e : word f k = x) : w.cell? ⟨b, k, none⟩ = some (.int .u64 (x : Nat)) := by
  have := h.cell k hk
  rw [e, Nat.zero_add] at this
  exact this

theorem get_set {f : Nat → Bool} {p m k : Nat} (h : p ≤ k ∧ k < p + m) : getB (setB f p m) (k : Nat) = decide (k < 512) := by
  have h1 : inB p m k = true := by unfold inB; simp; omega
  have h2 : setB f p m k = true := by unfold setB; rw [h1, Bool.or_true]
  unfold getB
  rw [Int.toNat_natCast, h2, Bool.and_true]
  exact decide_eq_decide.2 (by omega)

theorem get_same {f g : Nat → Bool} {k : Nat} (h : f k = g k) : getB f (k : Nat) = getB g (k : Nat) := by
  unfold getB
  rw [Int.toNat_natCast, h]

set_option maxRecDepth 100000 in
set_option maxHeartbeats 4000000 in
theorem twice_out (f : Nat → Bool) (i n : Int) (w : World) (hri : rightB i n = false) : Calls Try.prog 8 #[.agg (arr f), .int .i64 i, .int .i64 n] w fun r w' => r = .returned (.bool true) ∧ Ext w w' := by
  have HT := Lib.hid (twice_world w f)
  unfold twiceW at HT
  unfold arr at HT ⊢
  generalize h0 : word f 0 = x0 at *
  generalize h1 : word f 1 = x1 at *
  generalize h2 : word f 2 = x2 at *
  generalize h3 : word f 3 = x3 at *
  generalize h4 : word f 4 = x4 at *
  generalize h5 : word f 5 = x5 at *
  generalize h6 : word f 6 = x6 at *
  generalize h7 : word f 7 = x7 at *
  go_enter Try.func8, Try.ntmps8
  go_wp2_with fail
  go_region
  all_goals go_wp2_with fail
  · obtain ⟨t1, t2, t3, t4⟩ := HT.out
    clear HT
    generalize (((w.alloc _).alloc _).alloc _).drew = w1 at *
    have hne : w.heap.size + 1 ≠ w.heap.size + 1 + 1 := by omega
    have hlt1 : w.heap.size < w.heap.size + 1 := by omega
    have hlt2 : w.heap.size < w.heap.size + 1 + 1 := by omega
    generalize w.heap.size + 1 + 1 = b at *
    generalize w.heap.size + 1 = a at *
    have HA := Lib.hid t1
    have HB := Lib.hid t2
    have hab : a ≠ b := by omega
    have ha : w.heap.size < a := by omega
    have hb : w.heap.size < b := by omega
    have HV := Lib.hid t3
    have HX := Lib.hid t4
    clear t1 t2 t3 t4 hne hlt1 hlt2
    have hE : putE i n = 1 := by unfold putE; rw [if_neg (by rw [hri]; decide)]
    refine (clear_any a 0 i n f _ HA.out).mono ?_
    rintro r w2 ⟨rfl, hr, hx⟩
    rw [hE]
    have HA2 := Lib.hid (hr.congr (g := f) (fun j hj => by unfold clrF; rw [if_neg (by rw [hri]; decide)]))
    have HB2 := Lib.hid (HB.out.chg hx.chg (fun h => hab h.symm))
    have HV2 := Lib.hid (HV.out.chg hx.chg (fun h => by omega))
    have HX2 := Lib.hid (hx.chg.ext HX.out (fun i hi => by omega))
    clear hr hx HA HB HV HX
    go_wp2_with fail
    refine (set_any a 0 i n f _ HA2.out).mono ?_
    rintro r w3 ⟨rfl, hr, hx⟩
    rw [hE]
    have HA3 := Lib.hid (hr.congr (g := f) (fun j hj => by unfold setF; rw [if_neg (by rw [hri]; decide)]))
    have HB3 := Lib.hid (HB2.out.chg hx.chg (fun h => hab h.symm))
    have HV3 := Lib.hid (HV2.out.chg hx.chg (fun h => by omega))
    have HX3 := Lib.hid (hx.chg.ext HX2.out (fun i hi => by omega))
    clear hr hx HA2 HB2 HV2 HX2
    go_wp2_with fail
    refine (set_any b 0 i n f _ HB3.out).mono ?_
    rintro r w4 ⟨rfl, hr, hx⟩
    rw [hE]
    have HB4 := Lib.hid (hr.congr (g := f) (fun j hj => by unfold setF; rw [if_neg (by rw [hri]; decide)]))
    have HA4 := Lib.hid (HA3.out.chg hx.chg (fun h => hab h))
    have HV4 := Lib.hid (HV3.out.chg hx.chg (fun h => by omega))
    have HX4 := Lib.hid (hx.chg.ext HX3.out (fun i hi => by omega))
    clear hr hx HA3 HB3 HV3 HX3 hE
    have c0 := row_cell HA4.out 0 (by omega) h0
    have c1 := row_cell HA4.out 1 (by omega) h1
    have c2 := row_cell HA4.out 2 (by omega) h2
    have c3 := row_cell HA4.out 3 (by omega) h3
    have c4 := row_cell HA4.out 4 (by omega) h4
    have c5 := row_cell HA4.out 5 (by omega) h5
    have c6 := row_cell HA4.out 6 (by omega) h6
    have c7 := row_cell HA4.out 7 (by omega) h7
    have d0 := row_cell HB4.out 0 (by omega) h0
    have d1 := row_cell HB4.out 1 (by omega) h1
    have d2 := row_cell HB4.out 2 (by omega) h2
    have d3 := row_cell HB4.out 3 (by omega) h3
    have d4 := row_cell HB4.out 4 (by omega) h4
    have d5 := row_cell HB4.out 5 (by omega) h5
    have d6 := row_cell HB4.out 6 (by omega) h6
    have d7 := row_cell HB4.out 7 (by omega) h7
    have v0 := HV4.out.cell 0
    have v1 := HV4.out.cell 1
    have v2 := HV4.out.cell 2
    have v3 := HV4.out.cell 3
    have v4 := HV4.out.cell 4
    have v5 := HV4.out.cell 5
    have v6 := HV4.out.cell 6
    have v7 := HV4.out.cell 7
    simp only [List.getElem?_toArray, List.getElem?_cons_succ, List.getElem?_cons_zero] at v0 v1 v2 v3 v4 v5 v6 v7
    clear h0 h1 h2 h3 h4 h5 h6 h7
    have he := fun w => row_same x0 x1 x2 x3 x4 x5 x6 x7 w
    have he2 := fun w => words_same x0 x1 x2 x3 x4 x5 x6 x7 w
    go_wp2_with (go_at_call 19; refine (awake_any _).mono ?_; rintro r w7 ⟨rfl, hx7⟩)
    go_ret
    exact ⟨rfl, HX4.out.trans hx7⟩
  · obtain ⟨t1, t2, t3, t4⟩ := HT.out
    clear HT
    generalize (((w.alloc _).alloc _).alloc _).drew = w1 at *
    have hne : w.heap.size + 1 ≠ w.heap.size + 1 + 1 := by omega
    have hlt1 : w.heap.size < w.heap.size + 1 := by omega
    have hlt2 : w.heap.size < w.heap.size + 1 + 1 := by omega
    generalize w.heap.size + 1 + 1 = a at *
    generalize w.heap.size + 1 = b at *
    have HA := Lib.hid t2
    have HB := Lib.hid t1
    have hab : a ≠ b := by omega
    have ha : w.heap.size < a := by omega
    have hb : w.heap.size < b := by omega
    have HV := Lib.hid t3
    have HX := Lib.hid t4
    clear t1 t2 t3 t4 hne hlt1 hlt2
    have hE : putE i n = 1 := by unfold putE; rw [if_neg (by rw [hri]; decide)]
    refine (clear_any a 0 i n f _ HA.out).mono ?_
    rintro r w2 ⟨rfl, hr, hx⟩
    rw [hE]
    have HA2 := Lib.hid (hr.congr (g := f) (fun j hj => by unfold clrF; rw [if_neg (by rw [hri]; decide)]))
    have HB2 := Lib.hid (HB.out.chg hx.chg (fun h => hab h.symm))
    have HV2 := Lib.hid (HV.out.chg hx.chg (fun h => by omega))
    have HX2 := Lib.hid (hx.chg.ext HX.out (fun i hi => by omega))
    clear hr hx HA HB HV HX
    go_wp2_with fail
    refine (set_any a 0 i n f _ HA2.out).mono ?_
    rintro r w3 ⟨rfl, hr, hx⟩
    rw [hE]
    have HA3 := Lib.hid (hr.congr (g := f) (fun j hj => by unfold setF; rw [if_neg (by rw [hri]; decide)]))
    have HB3 := Lib.hid (HB2.out.chg hx.chg (fun h => hab h.symm))
    have HV3 := Lib.hid (HV2.out.chg hx.chg (fun h => by omega))
    have HX3 := Lib.hid (hx.chg.ext HX2.out (fun i hi => by omega))
    clear hr hx HA2 HB2 HV2 HX2
    go_wp2_with fail
    refine (set_any b 0 i n f _ HB3.out).mono ?_
    rintro r w4 ⟨rfl, hr, hx⟩
    rw [hE]
    have HB4 := Lib.hid (hr.congr (g := f) (fun j hj => by unfold setF; rw [if_neg (by rw [hri]; decide)]))
    have HA4 := Lib.hid (HA3.out.chg hx.chg (fun h => hab h))
    have HV4 := Lib.hid (HV3.out.chg hx.chg (fun h => by omega))
    have HX4 := Lib.hid (hx.chg.ext HX3.out (fun i hi => by omega))
    clear hr hx HA3 HB3 HV3 HX3 hE
    have c0 := row_cell HA4.out 0 (by omega) h0
    have c1 := row_cell HA4.out 1 (by omega) h1
    have c2 := row_cell HA4.out 2 (by omega) h2
    have c3 := row_cell HA4.out 3 (by omega) h3
    have c4 := row_cell HA4.out 4 (by omega) h4
    have c5 := row_cell HA4.out 5 (by omega) h5
    have c6 := row_cell HA4.out 6 (by omega) h6
    have c7 := row_cell HA4.out 7 (by omega) h7
    have d0 := row_cell HB4.out 0 (by omega) h0
    have d1 := row_cell HB4.out 1 (by omega) h1
    have d2 := row_cell HB4.out 2 (by omega) h2
    have d3 := row_cell HB4.out 3 (by omega) h3
    have d4 := row_cell HB4.out 4 (by omega) h4
    have d5 := row_cell HB4.out 5 (by omega) h5
    have d6 := row_cell HB4.out 6 (by omega) h6
    have d7 := row_cell HB4.out 7 (by omega) h7
    have v0 := HV4.out.cell 0
    have v1 := HV4.out.cell 1
    have v2 := HV4.out.cell 2
    have v3 := HV4.out.cell 3
    have v4 := HV4.out.cell 4
    have v5 := HV4.out.cell 5
    have v6 := HV4.out.cell 6
    have v7 := HV4.out.cell 7
    simp only [List.getElem?_toArray, List.getElem?_cons_succ, List.getElem?_cons_zero] at v0 v1 v2 v3 v4 v5 v6 v7
    clear h0 h1 h2 h3 h4 h5 h6 h7
    have he := fun w => row_same x0 x1 x2 x3 x4 x5 x6 x7 w
    have he2 := fun w => words_same x0 x1 x2 x3 x4 x5 x6 x7 w
    go_wp2_with (go_at_call 19; refine (awake_any _).mono ?_; rintro r w7 ⟨rfl, hx7⟩)
    go_ret
    exact ⟨rfl, HX4.out.trans hx7⟩

set_option maxRecDepth 100000 in
set_option maxHeartbeats 4000000 in
theorem twice_in (f : Nat → Bool) (p m : Nat) (w : World) (hpm : p + m ≤ 512) (hri : rightB (p : Nat) (m : Nat) = true) : Calls Try.prog 8 #[.agg (arr f), .int .i64 p, .int .i64 m] w fun r w' => r = .returned (.bool true) ∧ Ext w w' := by
  have HT := Lib.hid (twice_world w f)
  unfold twiceW at HT
  unfold arr at HT ⊢
  generalize h0 : word f 0 = x0 at *
  generalize h1 : word f 1 = x1 at *
  generalize h2 : word f 2 = x2 at *
  generalize h3 : word f 3 = x3 at *
  generalize h4 : word f 4 = x4 at *
  generalize h5 : word f 5 = x5 at *
  generalize h6 : word f 6 = x6 at *
  generalize h7 : word f 7 = x7 at *
  go_enter Try.func8, Try.ntmps8
  go_wp2_with fail
  go_region
  all_goals go_wp2_with fail
  · obtain ⟨t1, t2, t3, t4⟩ := HT.out
    clear HT
    generalize (((w.alloc _).alloc _).alloc _).drew = w1 at *
    have hne : w.heap.size + 1 ≠ w.heap.size + 1 + 1 := by omega
    have hlt1 : w.heap.size < w.heap.size + 1 := by omega
    have hlt2 : w.heap.size < w.heap.size + 1 + 1 := by omega
    generalize w.heap.size + 1 + 1 = b at *
    generalize w.heap.size + 1 = a at *
    have HA := Lib.hid t1
    have HB := Lib.hid t2
    have hab : a ≠ b := by omega
    have ha : w.heap.size < a := by omega
    have hb : w.heap.size < b := by omega
    have HV := Lib.hid t3
    have HX := Lib.hid t4
    clear t1 t2 t3 t4 hne hlt1 hlt2
    have hE : putE p m = 0 := by unfold putE; rw [if_pos hri]
    refine (clear_any a 0 p m f _ HA.out).mono ?_
    rintro r w2 ⟨rfl, hr, hx⟩
    rw [hE]
    have HA2 := Lib.hid hr
    have HB2 := Lib.hid (HB.out.chg hx.chg (fun h => hab h.symm))
    have HV2 := Lib.hid (HV.out.chg hx.chg (fun h => by omega))
    have HX2 := Lib.hid (hx.chg.ext HX.out (fun i hi => by omega))
    clear hr hx HA HB HV HX
    go_wp2_with fail
    refine (set_any a 0 p m _ _ HA2.out).mono ?_
    rintro r w3 ⟨rfl, hr, hx⟩
    rw [hE]
    have HA3 := Lib.hid (hr.congr (g := setB f p m) (fun j hj => by
      unfold setF clrF; rw [if_pos hri, if_pos hri]; unfold setB clrB
      simp only [Int.toNat_natCast]
      cases inB p m j <;> simp))
    have HB3 := Lib.hid (HB2.out.chg hx.chg (fun h => hab h.symm))
    have HV3 := Lib.hid (HV2.out.chg hx.chg (fun h => by omega))
    have HX3 := Lib.hid (hx.chg.ext HX2.out (fun i hi => by omega))
    clear hr hx HA2 HB2 HV2 HX2
    go_wp2_with fail
    refine (set_any b 0 p m f _ HB3.out).mono ?_
    rintro r w4 ⟨rfl, hr, hx⟩
    rw [hE]
    have HB4 := Lib.hid (hr.congr (g := setB f p m) (fun j hj => by
      unfold setF; rw [if_pos hri]; rfl))
    have HA4 := Lib.hid (HA3.out.chg hx.chg (fun h => hab h))
    have HV4 := Lib.hid (HV3.out.chg hx.chg (fun h => by omega))
    have HX4 := Lib.hid (hx.chg.ext HX3.out (fun i hi => by omega))
    clear hr hx HA3 HB3 HV3 HX3 hE
    have key : Hid (∀ k : Nat, (p ≤ k ∧ k < p + m → getB (setB f p m) k = decide (k < 512)) ∧ (¬ (p ≤ k ∧ k < p + m) → getB (setB f p m) k = getB f k)) := Lib.hid (fun k => ⟨fun h => get_set h, fun h => get_same (by unfold setB inB; simp; omega)⟩)
    have HC := Lib.hid (fun w h => count_any a 0 p m (setB f p m) w h)
    rw [cntF_nat (setB f p m) p m hpm, cnt_all (f := setB f p m) m p (fun j h1 h2 => by unfold setB inB; simp; omega)] at HC
    generalize hg : setB f p m = g at *
    generalize g0 : word g 0 = y0 at *
    generalize g1 : word g 1 = y1 at *
    generalize g2 : word g 2 = y2 at *
    generalize g3 : word g 3 = y3 at *
    generalize g4 : word g 4 = y4 at *
    generalize g5 : word g 5 = y5 at *
    generalize g6 : word g 6 = y6 at *
    generalize g7 : word g 7 = y7 at *
    have c0 := row_cell HA4.out 0 (by omega) g0
    have c1 := row_cell HA4.out 1 (by omega) g1
    have c2 := row_cell HA4.out 2 (by omega) g2
    have c3 := row_cell HA4.out 3 (by omega) g3
    have c4 := row_cell HA4.out 4 (by omega) g4
    have c5 := row_cell HA4.out 5 (by omega) g5
    have c6 := row_cell HA4.out 6 (by omega) g6
    have c7 := row_cell HA4.out 7 (by omega) g7
    have d0 := row_cell HB4.out 0 (by omega) g0
    have d1 := row_cell HB4.out 1 (by omega) g1
    have d2 := row_cell HB4.out 2 (by omega) g2
    have d3 := row_cell HB4.out 3 (by omega) g3
    have d4 := row_cell HB4.out 4 (by omega) g4
    have d5 := row_cell HB4.out 5 (by omega) g5
    have d6 := row_cell HB4.out 6 (by omega) g6
    have d7 := row_cell HB4.out 7 (by omega) g7
    have v0 := HV4.out.cell 0
    have v1 := HV4.out.cell 1
    have v2 := HV4.out.cell 2
    have v3 := HV4.out.cell 3
    have v4 := HV4.out.cell 4
    have v5 := HV4.out.cell 5
    have v6 := HV4.out.cell 6
    have v7 := HV4.out.cell 7
    simp only [List.getElem?_toArray, List.getElem?_cons_succ, List.getElem?_cons_zero] at v0 v1 v2 v3 v4 v5 v6 v7
    have he := fun w => row_same y0 y1 y2 y3 y4 y5 y6 y7 w
    clear hg g0 g1 g2 g3 g4 g5 g6 g7
    have HW := Lib.hid (Blk.new w4 24 #[.int .u64 x0, .int .u64 x1, .int .u64 x2, .int .u64 x3, .int .u64 x4, .int .u64 x5, .int .u64 x6, .int .u64 x7])
    have HA5 := Lib.hid (HA4.out.later ((Ext.refl w4).alloc #[.int .u64 x0, .int .u64 x1, .int .u64 x2, .int .u64 x3, .int .u64 x4, .int .u64 x5, .int .u64 x6, .int .u64 x7] 24))
    have HX5 := Lib.hid (HX4.out.alloc #[.int .u64 x0, .int .u64 x1, .int .u64 x2, .int .u64 x3, .int .u64 x4, .int .u64 x5, .int .u64 x6, .int .u64 x7] 24)
    go_wp2_with fail
    clear c0 c1 c2 c3 c4 c5 c6 c7 d0 d1 d2 d3 d4 d5 d6 d7 v0 v1 v2 v3 v4 v5 v6 v7 he HA4 HB4 HV4 HX4
    have HW5 : Hid (RowAt (w4.alloc (.cells #[.int .u64 x0, .int .u64 x1, .int .u64 x2, .int .u64 x3, .int .u64 x4, .int .u64 x5, .int .u64 x6, .int .u64 x7] 24)) w4.heap.size 0 f) := Lib.hid (by
      refine row_of_blk (t := 24) ?_
      unfold arr
      rw [h0, h1, h2, h3, h4, h5, h6, h7]
      exact HW.out)
    clear HW h0 h1 h2 h3 h4 h5 h6 h7
    go_loopw [13] (fun vk wr => ∃ k : Nat, vk = .int .i64 k ∧ k ≤ 512 ∧ Hid (RowAt wr a 0 g) ∧ Hid (RowAt wr w4.heap.size 0 f) ∧ Hid (Ext w wr)) (fun vk _ => 512 - (intOf vk).toNat)
    case atStart => exact ⟨0, rfl, by omega, HA5, HW5, HX5⟩
    case round =>
      obtain ⟨k, rfl, hk, hA, hW, hX⟩ := hrel
      clear HA5 HW5 HX5
      by_cases hlt : k < 512
      · obtain ⟨key1, key2⟩ := key.out k
        have HG := Lib.hid (get_any a 0 k g wr hA.out)
        have HG2 := Lib.hid (get_any w4.heap.size 0 k f wr hW.out)
        have hway : (p ≤ k ∧ k < p + m) ∨ k < p ∨ (p ≤ k ∧ p + m ≤ k) := by omega
        rcases hway with hw | hw | hw
        · rw [key1 hw, decide_eq_true hlt] at HG
          obtain ⟨hw1, hw2⟩ := hw
          clear key1 key2
          go_wp2_with fail
          refine HG.out.mono ?_
          rintro r w6 ⟨rfl, rfl⟩
          go_wp2_with fail
          go_roundw
          case rel => exact ⟨k + 1, by go_num, by omega, hA, hW, hX⟩
          case measure => simp [intOf]; omega
        · rw [key2 (by omega)] at HG
          clear key1 key2
          generalize getB f k = z at *
          go_wp2_with fail
          refine HG.out.mono ?_
          rintro r w6 ⟨rfl, rfl⟩
          go_wp2_with fail
          refine HG2.out.mono ?_
          rintro r w6 ⟨rfl, rfl⟩
          cases z
          all_goals
            go_wp2_with fail
            go_roundw
            case rel => exact ⟨k + 1, by go_num, by omega, hA, hW, hX⟩
            case measure => simp [intOf]; omega
        · rw [key2 (by omega)] at HG
          clear key1 key2
          obtain ⟨hw1, hw2⟩ := hw
          generalize getB f k = z at *
          go_wp2_with fail
          refine HG.out.mono ?_
          rintro r w6 ⟨rfl, rfl⟩
          go_wp2_with fail
          refine HG2.out.mono ?_
          rintro r w6 ⟨rfl, rfl⟩
          cases z
          all_goals
            go_wp2_with fail
            go_roundw
            case rel => exact ⟨k + 1, by go_num, by omega, hA, hW, hX⟩
            case measure => simp [intOf]; omega
      · go_wp2_with fail
        refine (HC.out _ hA.out).mono ?_
        rintro r w6 ⟨rfl, hx6⟩
        go_wp2_with (go_at_call 19; refine (awake_any _).mono ?_; rintro r w7 ⟨rfl, hx7⟩)
        go_ret
        exact ⟨rfl, (hX.out.trans hx6).trans hx7⟩
  · obtain ⟨t1, t2, t3, t4⟩ := HT.out
    clear HT
    generalize (((w.alloc _).alloc _).alloc _).drew = w1 at *
    have hne : w.heap.size + 1 ≠ w.heap.size + 1 + 1 := by omega
    have hlt1 : w.heap.size < w.heap.size + 1 := by omega
    have hlt2 : w.heap.size < w.heap.size + 1 + 1 := by omega
    generalize w.heap.size + 1 + 1 = a at *
    generalize w.heap.size + 1 = b at *
    have HA := Lib.hid t2
    have HB := Lib.hid t1
    have hab : a ≠ b := by omega
    have ha : w.heap.size < a := by omega
    have hb : w.heap.size < b := by omega
    have HV := Lib.hid t3
    have HX := Lib.hid t4
    clear t1 t2 t3 t4 hne hlt1 hlt2
    have hE : putE p m = 0 := by unfold putE; rw [if_pos hri]
    refine (clear_any a 0 p m f _ HA.out).mono ?_
    rintro r w2 ⟨rfl, hr, hx⟩
    rw [hE]
    have HA2 := Lib.hid hr
    have HB2 := Lib.hid (HB.out.chg hx.chg (fun h => hab h.symm))
    have HV2 := Lib.hid (HV.out.chg hx.chg (fun h => by omega))
    have HX2 := Lib.hid (hx.chg.ext HX.out (fun i hi => by omega))
    clear hr hx HA HB HV HX
    go_wp2_with fail
    refine (set_any a 0 p m _ _ HA2.out).mono ?_
    rintro r w3 ⟨rfl, hr, hx⟩
    rw [hE]
    have HA3 := Lib.hid (hr.congr (g := setB f p m) (fun j hj => by
      unfold setF clrF; rw [if_pos hri, if_pos hri]; unfold setB clrB
      simp only [Int.toNat_natCast]
      cases inB p m j <;> simp))
    have HB3 := Lib.hid (HB2.out.chg hx.chg (fun h => hab h.symm))
    have HV3 := Lib.hid (HV2.out.chg hx.chg (fun h => by omega))
    have HX3 := Lib.hid (hx.chg.ext HX2.out (fun i hi => by omega))
    clear hr hx HA2 HB2 HV2 HX2
    go_wp2_with fail
    refine (set_any b 0 p m f _ HB3.out).mono ?_
    rintro r w4 ⟨rfl, hr, hx⟩
    rw [hE]
    have HB4 := Lib.hid (hr.congr (g := setB f p m) (fun j hj => by
      unfold setF; rw [if_pos hri]; rfl))
    have HA4 := Lib.hid (HA3.out.chg hx.chg (fun h => hab h))
    have HV4 := Lib.hid (HV3.out.chg hx.chg (fun h => by omega))
    have HX4 := Lib.hid (hx.chg.ext HX3.out (fun i hi => by omega))
    clear hr hx HA3 HB3 HV3 HX3 hE
    have key : Hid (∀ k : Nat, (p ≤ k ∧ k < p + m → getB (setB f p m) k = decide (k < 512)) ∧ (¬ (p ≤ k ∧ k < p + m) → getB (setB f p m) k = getB f k)) := Lib.hid (fun k => ⟨fun h => get_set h, fun h => get_same (by unfold setB inB; simp; omega)⟩)
    have HC := Lib.hid (fun w h => count_any a 0 p m (setB f p m) w h)
    rw [cntF_nat (setB f p m) p m hpm, cnt_all (f := setB f p m) m p (fun j h1 h2 => by unfold setB inB; simp; omega)] at HC
    generalize hg : setB f p m = g at *
    generalize g0 : word g 0 = y0 at *
    generalize g1 : word g 1 = y1 at *
    generalize g2 : word g 2 = y2 at *
    generalize g3 : word g 3 = y3 at *
    generalize g4 : word g 4 = y4 at *
    generalize g5 : word g 5 = y5 at *
    generalize g6 : word g 6 = y6 at *
    generalize g7 : word g 7 = y7 at *
    have c0 := row_cell HA4.out 0 (by omega) g0
    have c1 := row_cell HA4.out 1 (by omega) g1
    have c2 := row_cell HA4.out 2 (by omega) g2
    have c3 := row_cell HA4.out 3 (by omega) g3
    have c4 := row_cell HA4.out 4 (by omega) g4
    have c5 := row_cell HA4.out 5 (by omega) g5
    have c6 := row_cell HA4.out 6 (by omega) g6
    have c7 := row_cell HA4.out 7 (by omega) g7
    have d0 := row_cell HB4.out 0 (by omega) g0
    have d1 := row_cell HB4.out 1 (by omega) g1
    have d2 := row_cell HB4.out 2 (by omega) g2
    have d3 := row_cell HB4.out 3 (by omega) g3
    have d4 := row_cell HB4.out 4 (by omega) g4
    have d5 := row_cell HB4.out 5 (by omega) g5
    have d6 := row_cell HB4.out 6 (by omega) g6
    have d7 := row_cell HB4.out 7 (by omega) g7
    have v0 := HV4.out.cell 0
    have v1 := HV4.out.cell 1
    have v2 := HV4.out.cell 2
    have v3 := HV4.out.cell 3
    have v4 := HV4.out.cell 4
    have v5 := HV4.out.cell 5
    have v6 := HV4.out.cell 6
    have v7 := HV4.out.cell 7
    simp only [List.getElem?_toArray, List.getElem?_cons_succ, List.getElem?_cons_zero] at v0 v1 v2 v3 v4 v5 v6 v7
    have he := fun w => row_same y0 y1 y2 y3 y4 y5 y6 y7 w
    clear hg g0 g1 g2 g3 g4 g5 g6 g7
    have HW := Lib.hid (Blk.new w4 24 #[.int .u64 x0, .int .u64 x1, .int .u64 x2, .int .u64 x3, .int .u64 x4, .int .u64 x5, .int .u64 x6, .int .u64 x7])
    have HA5 := Lib.hid (HA4.out.later ((Ext.refl w4).alloc #[.int .u64 x0, .int .u64 x1, .int .u64 x2, .int .u64 x3, .int .u64 x4, .int .u64 x5, .int .u64 x6, .int .u64 x7] 24))
    have HX5 := Lib.hid (HX4.out.alloc #[.int .u64 x0, .int .u64 x1, .int .u64 x2, .int .u64 x3, .int .u64 x4, .int .u64 x5, .int .u64 x6, .int .u64 x7] 24)
    go_wp2_with fail
    clear c0 c1 c2 c3 c4 c5 c6 c7 d0 d1 d2 d3 d4 d5 d6 d7 v0 v1 v2 v3 v4 v5 v6 v7 he HA4 HB4 HV4 HX4
    have HW5 : Hid (RowAt (w4.alloc (.cells #[.int .u64 x0, .int .u64 x1, .int .u64 x2, .int .u64 x3, .int .u64 x4, .int .u64 x5, .int .u64 x6, .int .u64 x7] 24)) w4.heap.size 0 f) := Lib.hid (by
      refine row_of_blk (t := 24) ?_
      unfold arr
      rw [h0, h1, h2, h3, h4, h5, h6, h7]
      exact HW.out)
    clear HW h0 h1 h2 h3 h4 h5 h6 h7
    go_loopw [13] (fun vk wr => ∃ k : Nat, vk = .int .i64 k ∧ k ≤ 512 ∧ Hid (RowAt wr a 0 g) ∧ Hid (RowAt wr w4.heap.size 0 f) ∧ Hid (Ext w wr)) (fun vk _ => 512 - (intOf vk).toNat)
    case atStart => exact ⟨0, rfl, by omega, HA5, HW5, HX5⟩
    case round =>
      obtain ⟨k, rfl, hk, hA, hW, hX⟩ := hrel
      clear HA5 HW5 HX5
      by_cases hlt : k < 512
      · obtain ⟨key1, key2⟩ := key.out k
        have HG := Lib.hid (get_any a 0 k g wr hA.out)
        have HG2 := Lib.hid (get_any w4.heap.size 0 k f wr hW.out)
        have hway : (p ≤ k ∧ k < p + m) ∨ k < p ∨ (p ≤ k ∧ p + m ≤ k) := by omega
        rcases hway with hw | hw | hw
        · rw [key1 hw, decide_eq_true hlt] at HG
          obtain ⟨hw1, hw2⟩ := hw
          clear key1 key2
          go_wp2_with fail
          refine HG.out.mono ?_
          rintro r w6 ⟨rfl, rfl⟩
          go_wp2_with fail
          go_roundw
          case rel => exact ⟨k + 1, by go_num, by omega, hA, hW, hX⟩
          case measure => simp [intOf]; omega
        · rw [key2 (by omega)] at HG
          clear key1 key2
          generalize getB f k = z at *
          go_wp2_with fail
          refine HG.out.mono ?_
          rintro r w6 ⟨rfl, rfl⟩
          go_wp2_with fail
          refine HG2.out.mono ?_
          rintro r w6 ⟨rfl, rfl⟩
          cases z
          all_goals
            go_wp2_with fail
            go_roundw
            case rel => exact ⟨k + 1, by go_num, by omega, hA, hW, hX⟩
            case measure => simp [intOf]; omega
        · rw [key2 (by omega)] at HG
          clear key1 key2
          obtain ⟨hw1, hw2⟩ := hw
          generalize getB f k = z at *
          go_wp2_with fail
          refine HG.out.mono ?_
          rintro r w6 ⟨rfl, rfl⟩
          go_wp2_with fail
          refine HG2.out.mono ?_
          rintro r w6 ⟨rfl, rfl⟩
          cases z
          all_goals
            go_wp2_with fail
            go_roundw
            case rel => exact ⟨k + 1, by go_num, by omega, hA, hW, hX⟩
            case measure => simp [intOf]; omega
      · go_wp2_with fail
        refine (HC.out _ hA.out).mono ?_
        rintro r w6 ⟨rfl, hx6⟩
        go_wp2_with (go_at_call 19; refine (awake_any _).mono ?_; rintro r w7 ⟨rfl, hx7⟩)
        go_ret
        exact ⟨rfl, (hX.out.trans hx6).trans hx7⟩

theorem walk_BitsTwice {W : World} (v : Value) (f : Nat → Bool) (hv : v = .agg (arr f)) (i : Int) (wi : (Lit.int .i64 i).wf = true) (n : Int) (wn : (Lit.int .i64 n).wf = true) :
    Calls Try.prog 8 #[v, .int .i64 i, .int .i64 n] W fun r w' => r = .returned (.bool true) ∧ Ext W w' := by
  subst hv
  cases h : rightB i n
  · exact twice_out f i n W h
  · obtain ⟨h1, h2, h3, h4⟩ := right_parts h
    have := twice_in f i.toNat n.toNat W (by omega) (by rwa [show ((i.toNat : Nat) : Int) = i by omega, show ((n.toNat : Nat) : Int) = n by omega])
    rwa [show ((i.toNat : Nat) : Int) = i by omega, show ((n.toNat : Nat) : Int) = n by omega] at this

end Go.Proofs.Ytmiogoecjoldoaa
