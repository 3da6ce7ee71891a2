/- The walk of the law ChunkRelease. -/
import Derived.Test.YtahabnepjjcgoaaRel1
import Derived.Test.YtahabnepjjcgoaaRowsC
import Derived.Test.YtahabnepjjcgoaaBitsF
import Derived.Deep.RegionWith
import Derived.Deep.CutBlock
import Derived.Deep.CutRange
namespace Go.Proofs.Ytahabnepjjcgoaa
open Go.RowKit
set_option linter.unusedVariables false

theorem row_cell {w : World} {b : Nat} {f : Nat → Bool} (h : RowAt w b 0 f) (k : Nat) (hk : k < 8) {x : Nat} (e : word f k = x) : w.cell? ⟨b, k, none⟩ = some (.int .u64 (x : Nat)) := by
  have := h.cell k hk
  rw [e, Nat.zero_add] at this
  exact this
theorem setF_zero (f : Nat → Bool) (i : Int) : setF f i 0 = f := by
  unfold setF; split
  · exact setB_zero f _
  · rfl
theorem rows_new (w : World) (u g : Nat → Bool) : RowAt ((w.alloc (.cells (arr u) 39)).alloc (.cells (arr g) 39)) w.heap.size 0 u ∧ RowAt ((w.alloc (.cells (arr u) 39)).alloc (.cells (arr g) 39)) (w.heap.size + 1) 0 g ∧ Ext w ((w.alloc (.cells (arr u) 39)).alloc (.cells (arr g) 39)) := by
  have h1 := (Blk.new w 39 (arr u)).alloc (.cells (arr g) 39)
  have h2 := Blk.new (w.alloc (.cells (arr u) 39)) 39 (arr g)
  simp only [World.size_alloc] at h2
  exact ⟨row_of_blk h1, row_of_blk h2, ((Ext.refl w).alloc _ _).alloc _ _⟩
theorem cnt5_bounds (g : Nat → Bool) : 0 ≤ cnt5 g ∧ cnt5 g ≤ 512 := by
  rw [cnt5_is]
  have := cnt_le g 512 0
  omega

set_option maxRecDepth 100000 in
set_option maxHeartbeats 6000000 in
theorem rel_any (p : Option Addr) (cap : Nat) (l : Acts) (each : Nat) (W : World) (hl : l.len ≤ 300) (h1 : 1 ≤ each) (h2 : each ≤ 600) (hA : ActsAt W p l) :
    Calls Try.prog 4 #[.slice p l.len cap, .int .i64 each] W fun r w' => r = .returned (.bool true) ∧ Ext W w' := by
  have HA := Lib.hid hA
  clear hA
  have k1 : decide (300 < (l.len : Int)) = false := decide_eq_false (by omega)
  have k2 : decide ((each : Int) < 1) = false := decide_eq_false (by omega)
  have k3 : decide (600 < (each : Int)) = false := decide_eq_false (by omega)
  go_enter Try.func4, Try.ntmps4
  go_wp2_with fail
  clear k1 k2 k3
  refine (chunk_new W).mono ?_
  rintro r w1 ⟨rfl, hc, hx⟩
  have HC1 := Lib.hid hc
  have HX1 := Lib.hid hx
  clear hc hx
  go_wp2_with fail
  go_loopw [6] (fun vk wr => ∃ (k : Nat) (u g : Nat → Bool), vk = .int .i64 k ∧ k ≤ l.len ∧ Hid (ChunkAt wr W.heap.size u g) ∧ Hid (Ext W wr) ∧ Hid (Apart u g)) (fun vk _ => l.len - (intOf vk).toNat)
  case atStart => exact ⟨0, noB, allB, rfl, by omega, HC1, HX1, Lib.hid (fun j _ h => by unfold noB at h; cases h)⟩
  case round =>
    obtain ⟨k, u, g, rfl, hk, hC, hX, hP⟩ := hrel
    clear HC1 HX1
    by_cases hlt : k < l.len
    · obtain ⟨b0, off, rfl, hb0, c0, c1, c2, fx, fy, fz⟩ := HA.out k hlt
      have c0 := (hX.out.cell _ _ hb0).trans c0
      have c1 := (hX.out.cell _ _ hb0).trans c1
      have c2 := (hX.out.cell _ _ hb0).trans c2
      generalize l.x k = x at *
      generalize l.y k = y at *
      generalize l.z k = z at *
      have hx : x = 1 ∨ x = 2 ∨ x = 3 ∨ (x ≠ 1 ∧ x ≠ 2 ∧ x ≠ 3) := by omega
      rcases hx with rfl | rfl | rfl | ⟨hx1, hx2, hx3⟩
      · have HRd := Lib.hid (hC.out.later (Ext.refl _).drew)
        have HTk := Lib.hid (take_any W.heap.size u g y z _ HRd.out)
        have HAp := Lib.hid (apart_take hP.out y z)
        generalize (if lookE u y z 0 32 = 0 then setF u y z else u) = u2 at HTk HAp
        generalize (if lookE u y z 0 32 = 0 then clrF g y z else g) = g2 at HTk HAp
        generalize (if lookE u y z 0 32 = 0 then cntF g y z else 0) = v1 at HTk
        generalize lookE u y z 0 32 = v2 at HTk
        clear HRd hC hP
        go_wp2_with fail
        go_region_with (first | (go_at_call 10; refine HTk.out.mono ?_; rintro r w5 ⟨rfl, hc, hx⟩; have HC5 := Lib.hid hc; have HX5 := Lib.hid (hx.ext (hX.out.trans (Ext.refl _).drew) (fun i hi => by rw [hi]; exact Nat.le_refl _)); clear hc hx))
        all_goals
          go_wp2
          go_roundw
          case rel => exact ⟨k + 1, _, _, by go_num, by omega, HC5, HX5, HAp⟩
          case measure => simp [intOf]; omega
      · have HRd := Lib.hid (hC.out.later (Ext.refl _).drew)
        have HTk := Lib.hid (give_any W.heap.size u g y z _ HRd.out)
        have HAp := Lib.hid (apart_give hP.out y z)
        generalize (if lookE u y z z 31 = 0 then clrF u y z else u) = u2 at HTk HAp
        generalize lookE u y z z 31 = v2 at HTk
        clear HRd hC hP
        go_wp2_with fail
        go_region_with (first | (go_at_call 13; refine HTk.out.mono ?_; rintro r w5 ⟨rfl, hc, hx⟩; have HC5 := Lib.hid hc; have HX5 := Lib.hid (hx.ext (hX.out.trans (Ext.refl _).drew) (fun i hi => by rw [hi]; exact Nat.le_refl _)); clear hc hx))
        all_goals
          go_wp2
          go_roundw
          case rel => exact ⟨k + 1, _, _, by go_num, by omega, HC5, HX5, HAp⟩
          case measure => simp [intOf]; omega
      · have HRd := Lib.hid (hC.out.later (Ext.refl _).drew)
        have HTk := Lib.hid (back_any W.heap.size u g y z _ HRd.out)
        have HAp := Lib.hid (apart_back hP.out y z)
        generalize (if lookE u y z z 31 = 0 then clrF u y z else u) = u2 at HTk HAp
        generalize (if lookE u y z z 31 = 0 then setF g y z else g) = g2 at HTk HAp
        generalize lookE u y z z 31 = v2 at HTk
        clear HRd hC hP
        go_wp2_with fail
        go_region_with (first | (go_at_call 14; refine HTk.out.mono ?_; rintro r w5 ⟨rfl, hc, hx⟩; have HC5 := Lib.hid hc; have HX5 := Lib.hid (hx.ext (hX.out.trans (Ext.refl _).drew) (fun i hi => by rw [hi]; exact Nat.le_refl _)); clear hc hx))
        all_goals
          go_wp2
          go_roundw
          case rel => exact ⟨k + 1, _, _, by go_num, by omega, HC5, HX5, HAp⟩
          case measure => simp [intOf]; omega
      · have k1 : (x == 1) = false := by simpa using hx1
        have k2 : (x == 2) = false := by simpa using hx2
        have k3 : (x == 3) = false := by simpa using hx3
        go_wp2_with fail
        go_roundw
        case rel => exact ⟨k + 1, _, _, by go_num, by omega, hC, hX, hP⟩
        case measure => simp [intOf]; omega
    · have HRows := Lib.hid (rows_any W.heap.size u g wr hC.out)
      have HNew := Lib.hid (fun w5 => rows_new w5 u g)
      unfold arr at HRows HNew
      generalize hu0 : word u 0 = x0 at HRows HNew
      generalize hu1 : word u 1 = x1 at HRows HNew
      generalize hu2 : word u 2 = x2 at HRows HNew
      generalize hu3 : word u 3 = x3 at HRows HNew
      generalize hu4 : word u 4 = x4 at HRows HNew
      generalize hu5 : word u 5 = x5 at HRows HNew
      generalize hu6 : word u 6 = x6 at HRows HNew
      generalize hu7 : word u 7 = x7 at HRows HNew
      have Hhu0 := Lib.hid hu0
      have Hhu1 := Lib.hid hu1
      have Hhu2 := Lib.hid hu2
      have Hhu3 := Lib.hid hu3
      have Hhu4 := Lib.hid hu4
      have Hhu5 := Lib.hid hu5
      have Hhu6 := Lib.hid hu6
      have Hhu7 := Lib.hid hu7
      clear hu0 hu1 hu2 hu3 hu4 hu5 hu6 hu7
      generalize word g 0 = y0 at HRows HNew
      generalize word g 1 = y1 at HRows HNew
      generalize word g 2 = y2 at HRows HNew
      generalize word g 3 = y3 at HRows HNew
      generalize word g 4 = y4 at HRows HNew
      generalize word g 5 = y5 at HRows HNew
      generalize word g 6 = y6 at HRows HNew
      generalize word g 7 = y7 at HRows HNew
      go_wp2_with fail
      refine HRows.out.mono ?_
      rintro r w5 ⟨rfl, hx⟩
      obtain ⟨t1, -, t3⟩ := HNew.out w5
      have HC6 := Lib.hid ((hC.out.later hx).later t3)
      have HX6 := Lib.hid ((hX.out.trans hx).trans t3)
      have HU6 := Lib.hid t1
      have hub : W.heap.size ≠ w5.heap.size := by
        have := (hC.out.later hx).used.lt
        omega
      clear hx t1 t3 HRows HNew hC hX
      go_upto_block 3 with fail
      generalize (w5.alloc _).alloc _ = w6 at *
      generalize w5.heap.size = ub at *
      go_cut [9, 10, 11, 12] from 88 to 122 (fun s9 s10 s11 s12 wx => ∃ g2 : Nat → Bool, Hid (ChunkAt wx W.heap.size u g2) ∧ Hid (RowAt wx ub 0 u) ∧ Hid (Ext W wx) ∧ Hid (∀ j, j < 512 → g2 j = !u j))
      case first =>
        go_wp2_with fail
        go_loopw [9] (fun vl wr => ∃ (L : Nat) (g : Nat → Bool), vl = .int .i64 L ∧ L ≤ 512 ∧ Hid (ChunkAt wr W.heap.size u g) ∧ Hid (RowAt wr ub 0 u) ∧ Hid (Ext W wr) ∧ Hid (Apart u g) ∧ Hid (∀ j, L ≤ j → j < 512 → orB u g j = true)) (fun vl _ => (intOf vl).toNat)
        case atStart => exact ⟨512, g, rfl, by omega, HC6, HU6, HX6, hP, Lib.hid (fun j h1 h2 => by omega)⟩
        case round =>
          obtain ⟨L, g2, rfl, hL, hC, hU, hX, hP2, hT⟩ := hrel
          clear HC6 HU6 HX6 hP
          have hcc := cnt5_bounds g2
          go_wp2_with fail
          refine (released_any W.heap.size u g2 _ hC.out).mono ?_
          rintro r w7 ⟨rfl, hx⟩
          have HC7 := Lib.hid (hC.out.later hx)
          have HU7 := Lib.hid (hU.out.later hx)
          have HX7 := Lib.hid (hX.out.trans hx)
          clear hx hC hU hX
          have HS := Lib.hid (scav_any W.heap.size u g2 each w7 HC7.out (by omega))
          go_wp2_with fail
          rcases scav_step hP2.out each L h1 hL hT.out with ⟨e1, e2⟩ | ⟨i, n, e1, e2, e3, e4, e5, e6, e7, e8, e9⟩
          · rw [e1, setF_zero] at HS
            have E2 := Lib.hid e2
            clear e1 e2 hT hcc hP2
            generalize scavI u g2 each = si at *
            refine HS.out.mono ?_
            rintro r w8 ⟨rfl, hc, hx⟩
            have HC8 := Lib.hid hc
            have HU8 := Lib.hid (HU7.out.chg hx (fun h => hub h.symm))
            have HX8 := Lib.hid (hx.ext HX7.out (fun i hi => by rw [hi]; exact Nat.le_refl _))
            clear hc hx HS HC7 HU7 HX7
            go_wp2_with fail
            go_meet
            exact ⟨g2, HC8, HU8, HX8, E2⟩
          · rw [e1, e2] at HS
            refine HS.out.mono ?_
            rintro r w8 ⟨rfl, hc, hx⟩
            have HC8 := Lib.hid hc
            have HU8 := Lib.hid (HU7.out.chg hx (fun h => hub h.symm))
            have HX8 := Lib.hid (hx.ext HX7.out (fun i hi => by rw [hi]; exact Nat.le_refl _))
            have E8 := Lib.hid e8
            have E9 := Lib.hid e9
            clear hc hx HS HC7 HU7 HX7 e1 e2 e8 e9 hT hP2
            have HCnt := Lib.hid (count_any ub 0 i n u w8 HU8.out)
            rw [e6] at HCnt
            clear e6
            generalize setF g2 i n = g3 at *
            generalize cnt5 g2 = cc at *
            have m1 : ((n : Int) == 0) = false := by simp; omega
            have m2 : decide (each < n) = false := decide_eq_false (by omega)
            have m3 : decide ((L : Int) < (i : Int) + (n : Int)) = false := decide_eq_false (by omega)
            have hin : (i : Int) + (n : Int) ≤ 512 := by omega
            go_wp2_with fail
            refine HCnt.out.mono ?_
            rintro r w9 ⟨rfl, hx⟩
            have HC9 := Lib.hid (HC8.out.later hx)
            have HU9 := Lib.hid (HU8.out.later hx)
            have HX9 := Lib.hid (HX8.out.trans hx)
            clear hx HC8 HU8 HX8 HCnt
            have HRel := Lib.hid (released_any W.heap.size u g3 _ HC9.out)
            rw [e7] at HRel
            clear e7
            go_wp2_with fail
            refine HRel.out.mono ?_
            rintro r w10 ⟨rfl, hx⟩
            have HC10 := Lib.hid (HC9.out.later hx)
            have HU10 := Lib.hid (HU9.out.later hx)
            have HX10 := Lib.hid (HX9.out.trans hx)
            clear hx HC9 HU9 HX9 HRel
            dsimp only
            go_wp2_with fail
            go_roundw
            case rel => exact ⟨i, g3, rfl, by omega, HC10, HU10, HX10, E8, E9⟩
            case measure => simp [intOf]; omega
      case rest =>
        obtain ⟨g2, HC8, HU8, HX8, e2⟩ := hcut
        clear HC6 HU6 HX6 hP
        have hee := scav_end e2.out
        have E2 := Lib.hid (get_not e2.out)
        clear e2
        have HRows := Lib.hid (rows_any W.heap.size u g2 wc HC8.out)
        have HNew := Lib.hid (fun w5 => rows_new w5 u g2)
        unfold arr at HRows HNew
        simp only [Hhu0.out, Hhu1.out, Hhu2.out, Hhu3.out, Hhu4.out, Hhu5.out, Hhu6.out, Hhu7.out] at HRows HNew
        generalize word g2 0 = z0 at HRows HNew
        generalize word g2 1 = z1 at HRows HNew
        generalize word g2 2 = z2 at HRows HNew
        generalize word g2 3 = z3 at HRows HNew
        generalize word g2 4 = z4 at HRows HNew
        generalize word g2 5 = z5 at HRows HNew
        generalize word g2 6 = z6 at HRows HNew
        generalize word g2 7 = z7 at HRows HNew
        go_wp2_with fail
        refine HRows.out.mono ?_
        rintro r w9 ⟨rfl, hx⟩
        obtain ⟨t1, t2, t3⟩ := HNew.out w9
        have HC10 := Lib.hid ((HC8.out.later hx).later t3)
        have HX10 := Lib.hid ((HX8.out.trans hx).trans t3)
        have HU10 := Lib.hid ((HU8.out.later hx).later t3)
        have HN10 := Lib.hid t1
        have HG10 := Lib.hid t2
        clear hx t1 t2 t3 HRows HNew HC8 HX8 HU8
        have he := fun w => row_same x0 x1 x2 x3 x4 x5 x6 x7 w
        have c0 := row_cell HU10.out 0 (by omega) Hhu0.out
        have c1 := row_cell HU10.out 1 (by omega) Hhu1.out
        have c2 := row_cell HU10.out 2 (by omega) Hhu2.out
        have c3 := row_cell HU10.out 3 (by omega) Hhu3.out
        have c4 := row_cell HU10.out 4 (by omega) Hhu4.out
        have c5 := row_cell HU10.out 5 (by omega) Hhu5.out
        have c6 := row_cell HU10.out 6 (by omega) Hhu6.out
        have c7 := row_cell HU10.out 7 (by omega) Hhu7.out
        have d0 := row_cell HN10.out 0 (by omega) Hhu0.out
        have d1 := row_cell HN10.out 1 (by omega) Hhu1.out
        have d2 := row_cell HN10.out 2 (by omega) Hhu2.out
        have d3 := row_cell HN10.out 3 (by omega) Hhu3.out
        have d4 := row_cell HN10.out 4 (by omega) Hhu4.out
        have d5 := row_cell HN10.out 5 (by omega) Hhu5.out
        have d6 := row_cell HN10.out 6 (by omega) Hhu6.out
        have d7 := row_cell HN10.out 7 (by omega) Hhu7.out
        go_wp2_with fail
        refine (released_any W.heap.size u g2 _ HC10.out).mono ?_
        rintro r w11 ⟨rfl, hx⟩
        rw [hee]
        have HC11 := Lib.hid (HC10.out.later hx)
        have HX11 := Lib.hid (HX10.out.trans hx)
        have HU11 := Lib.hid (HU10.out.later hx)
        have HG11 := Lib.hid (HG10.out.later hx)
        clear hx HC10 HX10 HU10 HG10 HN10 c0 c1 c2 c3 c4 c5 c6 c7 d0 d1 d2 d3 d4 d5 d6 d7 he
        go_wp2_with fail
        refine (free_any W.heap.size u g2 _ HC11.out).mono ?_
        rintro r w12 ⟨rfl, hx⟩
        have HX12 := Lib.hid (HX11.out.trans hx)
        have HU12 := Lib.hid (HU11.out.later hx)
        have HG12 := Lib.hid (HG11.out.later hx)
        clear hx HC11 HX11 HU11 HG11 hee
        generalize 512 - cnt5 u = cu at *
        generalize w9.heap.size + 1 = gb at *
        clear h1 h2 HA
        go_wp2_with fail
        clear hub
        go_loopw [15] (fun vk wr => ∃ k : Nat, vk = .int .i64 k ∧ k ≤ 512 ∧ Hid (RowAt wr ub 0 u) ∧ Hid (RowAt wr gb 0 g2) ∧ Hid (Ext W wr)) (fun vk _ => 512 - (intOf vk).toNat)
        case atStart => exact ⟨0, rfl, by omega, HU12, HG12, HX12⟩
        case round =>
          obtain ⟨q, rfl, hq, hU, hG, hX⟩ := hrel
          clear HU12 HG12 HX12
          by_cases hlt : q < 512
          · have HQ1 := Lib.hid (get_any gb 0 q g2 wr hG.out)
            have HQ2 := Lib.hid (get_any ub 0 q u wr hU.out)
            rw [E2.out q hlt] at HQ1
            generalize getB u q = bv at *
            have hq5 : (q : Int) < 512 := by omega
            go_wp2_with fail
            refine HQ1.out.mono ?_
            rintro r w13 ⟨rfl, hw⟩
            subst hw
            go_wp2_with fail
            refine HQ2.out.mono ?_
            rintro r w13 ⟨rfl, hw⟩
            subst hw
            clear HQ1 HQ2
            cases bv
            all_goals
              go_wp2_with fail
              go_roundw
              case rel => exact ⟨q + 1, by go_num, by omega, hU, hG, hX⟩
              case measure => simp [intOf]; omega
          · have hq5 : decide ((q : Int) < 512) = false := decide_eq_false (by omega)
            clear hlt hq
            go_wp2_with (go_at_call 12; refine (awake_any _).mono ?_; rintro r w13 ⟨rfl, hx13⟩)
            go_ret
            exact ⟨rfl, hX.out.trans hx13⟩

theorem rel_out (p : Option Addr) (len cap : Nat) (each : Int) (W : World) (hm : len ≤ 9223372036854775807) (h : 300 < len ∨ each < 1 ∨ 600 < each) :
    Calls Try.prog 4 #[.slice p len cap, .int .i64 each] W fun r w' => r = .returned (.bool true) ∧ Ext W w' := by
  have hway : decide (300 < (len : Int)) = true ∨ (decide (300 < (len : Int)) = false ∧ decide (each < 1) = true) ∨ (decide (300 < (len : Int)) = false ∧ decide (each < 1) = false ∧ decide (600 < each) = true) := by
    simp only [decide_eq_true_eq, decide_eq_false_iff_not]
    omega
  clear h
  rcases hway with k1 | ⟨k1, k2⟩ | ⟨k1, k2, k3⟩
  all_goals
    go_enter Try.func4, Try.ntmps4
    go_wp2
    go_ret
    exact ⟨rfl, Ext.refl _⟩

theorem walk_ChunkRelease {W : World} (v : Value) (l : Acts) (hl : ActsIn W v l) (each : Int) (we : (Lit.int .i64 each).wf = true) :
    Calls Try.prog 4 #[v, .int .i64 each] W fun r w' => r = .returned (.bool true) ∧ Ext W w' := by
  obtain ⟨hm, p, cap, rfl, hA⟩ := hl
  unfold maxLen at hm
  by_cases h : 300 < l.len ∨ each < 1 ∨ 600 < each
  · exact rel_out p l.len cap each W hm h
  · obtain ⟨m, rfl⟩ : ∃ m : Nat, each = m := ⟨each.toNat, by omega⟩
    exact rel_any p cap l m W (by omega) (by omega) (by omega) hA

end Go.Proofs.Ytahabnepjjcgoaa
