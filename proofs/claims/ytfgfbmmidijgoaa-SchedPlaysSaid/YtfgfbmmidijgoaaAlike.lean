/- The contract of alike: both tell the same. -/
import Derived.Test.YtfgfbmmidijgoaaAlikeP
import Derived.Deep.RegionHeld3
namespace Go.Proofs.Ytfgfbmmidijgoaa
open Go.RowKit
set_option linter.unusedVariables false

/-- what all rows read as, in later worlds. -/
theorem len_ens (s : Sc) : ((enL s s.ts.length).map fun (j : Nat) => (j : Int)).length = (enL s s.ts.length).length := List.length_map _

set_option maxRecDepth 20000 in
set_option maxHeartbeats 8000000 in
theorem alike_any {W w : World} {bs br : Nat} {s : Sc} {R : Nat → Prop} (h : Two W w bs br s s R) (vn : Value) (ns : List Int) (hn : RdI w vn ns) (hwf : ∀ n ∈ ns, (Lit.int .i64 n).wf = true) (hlen : ns.length ≤ 9223372036854775807) :
    Calls Try.prog 23 #[.pointer (some ⟨bs, 0, none⟩), .pointer (some ⟨br, 0, none⟩), vn] w fun e w' => e = .returned (.bool true) ∧ Ext w w' := by
  obtain ⟨i0, hi0, hz0, hz1, hz2⟩ := info_parts int_info
  obtain ⟨pn, capn, rfl, hzn⟩ := hn
  obtain ⟨po, capo, c4, hoo, hbr, hol⟩ := h.out
  obtain ⟨pt, capt, c0, -, htl⟩ := h.tasks
  have HT := Lib.hid h
  have HN := Lib.hid hzn
  have HWf := Lib.hid hwf
  have HOut := Lib.hid (RdI.own hoo)
  have hel := enL_len s s.ts.length
  generalize hne : (enL s s.ts.length).length = n at *
  have HNE := Lib.hid hne
  generalize hme : s.out.length = m at *
  have HME := Lib.hid hme
  have HINT := Lib.hid (ints_map (enL s s.ts.length))
  have HLE := Lib.hid (show ((enL s s.ts.length).map fun (j : Nat) => (j : Int)).length = n by rw [List.length_map]; exact hne)
  have hn64 : n ≤ 64 := by omega
  clear h hzn hwf hoo hne hme hel
  go_enter Try.func23, Try.ntmps23
  go_wp2_with (first
    | (go_at_call 33; refine (t_renabled HT.out).mono ?_; rintro e w1 ⟨v0, rfl, ho0, hx1⟩; rw [HNE.out] at ho0; obtain ⟨p0, cap0, rfl, -, -, -⟩ := owns_form ho0; have HO0 := Lib.hid ho0; have H1 := Lib.hid (HT.out.later hx1); have HX1 := Lib.hid hx1; clear ho0 hx1)
    | (go_at_call 13; ((with_reducible refine (t_enabled H1.out).mono ?_); rintro e w2 ⟨va, rfl, hoa, hx2⟩; rw [HNE.out] at hoa; obtain ⟨pa, capa, rfl, -, -, -⟩ := owns_form hoa; have HOa := Lib.hid hoa; have H2 := Lib.hid (H1.out.later hx2); have HX2 := Lib.hid hx2; clear hoa hx2 H1))
    | (go_at_call 13; ((with_reducible refine (t_enabled H2.out).mono ?_); rintro e w3 ⟨vb, rfl, hob, hx3⟩; rw [HNE.out] at hob; obtain ⟨pb, capb, rfl, -, -, -⟩ := owns_form hob; have HOb := Lib.hid hob; have H3 := Lib.hid (H2.out.later hx3); have HX3 := Lib.hid hx3; clear hob hx3 H2))
    | (go_at_call 15; ((with_reducible refine (t_said H3.out).mono ?_); rintro e w4 ⟨vc, rfl, hoc, hx4⟩; rw [HME.out] at hoc; obtain ⟨pc, capc, rfl, -, -, -⟩ := owns_form hoc; have HOc := Lib.hid hoc; have H4 := Lib.hid (H3.out.later hx4); have HX4 := Lib.hid hx4; clear hoc hx4 H3))
    | (go_at_call 15; ((with_reducible refine (t_said H4.out).mono ?_); rintro e w5 ⟨vd, rfl, hod, hx5⟩; rw [HME.out] at hod; obtain ⟨pd, capd, rfl, -, -, -⟩ := owns_form hod; have HOd := Lib.hid hod; have H5 := Lib.hid (H4.out.later hx5); have HX5 := Lib.hid hx5; have HX05 := Lib.hid ((((HX1.out.trans HX2.out).trans HX3.out).trans HX4.out).trans hx5); have c45 := (HX05.out.cell _ _ hbr).trans c4; have hbr5 := Nat.lt_of_lt_of_le hbr HX05.out.size; have HL := Lib.hid (show RdI w5 (.slice pa n capa) ((enL s s.ts.length).map fun (j : Nat) => (j : Int)) ∧ RdI w5 (.slice pb n capb) ((enL s s.ts.length).map fun (j : Nat) => (j : Int)) ∧ RdI w5 (.slice p0 n cap0) ((enL s s.ts.length).map fun (j : Nat) => (j : Int)) ∧ RdI w5 (.slice pc m capc) s.out ∧ RdI w5 (.slice pd m capd) s.out ∧ RdI w5 (.slice po m capo) s.out from ⟨((RdI.own (B := w1.heap.size) (by rw [HLE.out, ← HINT.out]; exact HOa.out)).later ((HX3.out.trans HX4.out).trans hx5)), ((RdI.own (B := w2.heap.size) (by rw [HLE.out, ← HINT.out]; exact HOb.out)).later (HX4.out.trans hx5)), ((RdI.own (B := w.heap.size) (by rw [HLE.out, ← HINT.out]; exact HO0.out)).later (((HX2.out.trans HX3.out).trans HX4.out).trans hx5)), ((RdI.own (B := w3.heap.size) (by rw [HME.out]; exact HOc.out)).later hx5), RdI.own (B := w4.heap.size) (by rw [HME.out]; exact hod), HOut.out.later HX05.out⟩); clear hod hx5 H4))
    | (go_at_call 26; ((with_reducible refine (list_same (.slice pa n capa) (.slice p0 n cap0) _ w5 HL.out.1 HL.out.2.2.1 (by rw [HLE.out]; omega)).mono ?_); rintro e w6 ⟨rfl, hx6⟩; have HX6 := Lib.hid hx6; have c46 := (hx6.cell _ _ hbr5).trans c45; have hbr6 := Nat.lt_of_lt_of_le hbr5 hx6.size; clear hx6 c45))
    | (go_at_call 26; ((with_reducible refine (list_same (.slice pb n capb) (.slice p0 n cap0) _ w6 (HL.out.2.1.later HX6.out) (HL.out.2.2.1.later HX6.out) (by rw [HLE.out]; omega)).mono ?_); rintro e w7 ⟨rfl, hx7⟩; have HX7 := Lib.hid (HX6.out.trans hx7); have c47 := (hx7.cell _ _ hbr6).trans c46; have hbr7 := Nat.lt_of_lt_of_le hbr6 hx7.size; clear hx7 c46))
    | (go_at_call 26; ((with_reducible refine (list_same (.slice pc m capc) (.slice po m capo) _ w7 (HL.out.2.2.2.1.later HX7.out) (HL.out.2.2.2.2.2.later HX7.out) (by rw [HME.out]; omega)).mono ?_); rintro e w8 ⟨rfl, hx8⟩; have HX8 := Lib.hid (HX7.out.trans hx8); have c48 := (hx8.cell _ _ hbr7).trans c47; have hbr8 := Nat.lt_of_lt_of_le hbr7 hx8.size; clear hx8 c47))
    | (go_at_call 26; ((with_reducible refine (list_same (.slice pd m capd) (.slice po m capo) _ w8 (HL.out.2.2.2.2.1.later HX8.out) (HL.out.2.2.2.2.2.later HX8.out) (by rw [HME.out]; omega)).mono ?_); rintro e w9 ⟨rfl, hx9⟩; have HX9 := Lib.hid (HX8.out.trans hx9); have c49 := (hx9.cell _ _ hbr8).trans c48; have hbr9 := Nat.lt_of_lt_of_le hbr8 hx9.size; clear hx9 c48)))
  have HQ := Lib.hid (Q4.start HX1.out.size HX05.out HOa.out HOb.out HOc.out HOd.out HX2.out HX3.out HX4.out HX5.out HX9.out)
  go_loopw [12] (fun i wr => ∃ k : Nat, k ≤ n ∧ i = .int .i64 k ∧ Hid (Q4 w wr w1.heap.size w2.heap.size w3.heap.size w4.heap.size w5.heap.size (.slice pa n capa) (.slice pb n capb) (.slice pc m capc) (.slice pd m capd) n m k)) (fun i _ => n - (intOf i).toNat)
  case atStart => exact ⟨0, by omega, rfl, HQ⟩
  case round =>
    obtain ⟨k, hk, rfl, hQ⟩ := hrel
    by_cases hlt : k < n
    · obtain ⟨xa, ha, -⟩ := hQ.out.a
      obtain ⟨xb, hb, -⟩ := hQ.out.b
      have la := ha.1.1
      have lb := hb.1.1
      obtain ⟨ga, cap', e, ga1, ga2, gal, gaf, gac⟩ := ha.at_ (by omega)
      cases e
      obtain ⟨gb, cap', e, gb1, gb2, gbl, gbf, gbc⟩ := hb.at_ (by omega)
      cases e
      have ca := gac k hlt
      have cb := gbc k hlt
      rw [List.getElem?_eq_getElem (by omega)] at ca cb
      have fa := gaf k
      have fb := gbf k
      generalize xa[k]'(by omega) = ua at *
      generalize xb[k]'(by omega) = ub at *
      have q1 : ga ≠ gb := by omega
      have q2 : gb ≠ ga := by omega
      have HN := Lib.hid (hQ.out.ab hlt)
      clear gac gbc gaf gbf ha hb hQ HQ
      go_wp2_with fail
      go_roundw
      case rel => exact ⟨k + 1, by omega, by go_num, HN⟩
      case measure => simp [intOf]; omega
    · obtain rfl : k = n := by omega
      clear HQ
      go_wp2_with fail
      go_loopw [13] (fun i wr => ∃ q : Nat, q ≤ m ∧ i = .int .i64 q ∧ Hid (Q4 w wr w1.heap.size w2.heap.size w3.heap.size w4.heap.size w5.heap.size (.slice pa k capa) (.slice pb k capb) (.slice pc m capc) (.slice pd m capd) k m k)) (fun i _ => m - (intOf i).toNat)
      case atStart => exact ⟨0, by omega, rfl, hQ⟩
      case round =>
        obtain ⟨q, hq, rfl, hQ⟩ := hrel
        by_cases hlt2 : q < m
        · obtain ⟨xc, hc⟩ := hQ.out.c
          obtain ⟨xd, hd⟩ := hQ.out.d
          have lc := hc.1.1
          have ld := hd.1.1
          obtain ⟨gc, cap', e, gc1, gc2, gcl, gcf, gcc⟩ := hc.at_ (by omega)
          cases e
          obtain ⟨gd, cap', e, gd1, gd2, gdl, gdf, gdc⟩ := hd.at_ (by omega)
          cases e
          have cc := gcc q hlt2
          have cd := gdc q hlt2
          rw [List.getElem?_eq_getElem (by omega)] at cc cd
          have fc := gcf q
          have fd := gdf q
          generalize xc[q]'(by omega) = uc at *
          generalize xd[q]'(by omega) = ud at *
          have q1 : gc ≠ gd := by omega
          have q2 : gd ≠ gc := by omega
          have HN := Lib.hid (hQ.out.cd (q := q) (.int .i64 203) (.int .i64 204))
          clear gcc gdc gcf gdf hc hd hQ
          go_wp2_with fail
          go_roundw
          case rel => exact ⟨q + 1, by omega, by go_num, HN⟩
          case measure => simp [intOf]; omega
        · obtain rfl : q = m := by omega
          obtain ⟨xa, ha, fa⟩ := hQ.out.a
          obtain ⟨xb, hb, fb⟩ := hQ.out.b
          have HA := Lib.hid ha
          have HB := Lib.hid hb
          have lz1 := hQ.out.l1
          have lz2 := hQ.out.l2
          have lz3 := hQ.out.l3
          have lz4 := hQ.out.l4
          have lz5 := hQ.out.l5
          have lz6 := hQ.out.l6
          clear ha hb
          go_wp2_with (first | (at_builtin; refine wpList_append_all w1.heap.size _ rfl (.tmp 87) (.tmp 88) 31 rfl 3 i0 _ 1 8 Try.underlying31 hi0 hz0 hz1 hz2 rfl (by decide) _ _ _ (by rfl) (by exact owns_later HA.out.1 (((Ext.refl _).alloc _ _).below)) (.slice (some ⟨wr.heap.size, 0, none⟩) 1 1) 1 [.int .i64 201] (by rfl) (by exact src_one wr [.int .i64 201] _ 1 rfl) (by intro u hu; simp at hu; subst hu; rfl) (by unfold maxLen; omega) (by omega) (by simp; omega) ?_) | fail)
          intro va' w10 ho10 hc10 hat10
          have HO10 := Lib.hid ho10
          have HC10 := Lib.hid hc10
          have HAT10 := Lib.hid hat10
          obtain ⟨pa', capa', rfl, -, -, -⟩ := owns_form ho10
          have hs10 := hc10.size
          rw [World.size_alloc] at hs10
          have HB10 := Lib.hid (show w10.ownsRow w2.heap.size 3 1 (.slice pb k capb) k xb from owns_chg (owns_later HB.out.1 (((Ext.refl wr).alloc #[.int .i64 201] 3).below)) hc10 fun g hg hh => by
            have h1 := (owns_lt HB.out.1 g hg).1
            have h2 := HA.out.2 g hh
            omega)
          clear ho10 hc10 hat10
          go_wp2_with (first | (at_builtin; refine wpList_append_all w2.heap.size _ rfl (.tmp 90) (.tmp 91) 31 rfl 3 i0 _ 1 8 Try.underlying31 hi0 hz0 hz1 hz2 rfl (by decide) _ _ _ (by rfl) (by exact owns_later HB10.out (((Ext.refl _).alloc _ _).below)) (.slice (some ⟨w10.heap.size, 0, none⟩) 1 1) 1 [.int .i64 202] (by rfl) (by exact src_one w10 [.int .i64 202] _ 1 rfl) (by intro u hu; simp at hu; subst hu; rfl) (by unfold maxLen; omega) (by omega) (by simp; omega) ?_) | fail)
          intro vb' w11 ho11 hc11 _
          have HG := Lib.hid (hQ.out.grown HA.out fa HB.out fb HO10.out HC10.out HAT10.out ho11 hc11)
          obtain ⟨pb', capb', rfl, -, -, -⟩ := owns_form ho11
          clear ho11 hc11 HC10 HAT10 HO10 HB10 HA HB fa fb hQ
          have H12 := Lib.hid (HT.out.later HG.out.1)
          obtain ⟨ga, capx, e, gal, gac⟩ := HG.out.2.1
          cases e
          obtain ⟨gb, capx, e, gbl, gbc⟩ := HG.out.2.2
          cases e
          have GAC := Lib.hid gac
          have GBC := Lib.hid gbc
          clear gac gbc
          obtain ⟨W11, rfl⟩ : ∃ W11, W11 = w11 := ⟨_, rfl⟩
          go_wp2_with fail
          go_loopw [14] (fun i wr => ∃ j : Nat, j ≤ k + 1 ∧ i = .int .i64 j ∧ wr = W11) (fun i _ => k + 1 - (intOf i).toNat)
          case atStart => exact ⟨0, by omega, rfl, rfl⟩
          case round =>
            obtain ⟨j, hj, rfl, rfl⟩ := hrel
            by_cases hlt3 : j < k + 1
            · have ca := GAC.out j hlt3
              have cb := GBC.out j hlt3
              go_wp2_with fail
              go_roundw
              case rel => exact ⟨j + 1, by omega, by go_num, by first | trivial | rfl⟩
              case measure => simp [intOf]; omega
            · have d4 := (HG.out.1.cell _ _ hbr).trans c4
              have hbr11 := Nat.lt_of_lt_of_le hbr HG.out.1.size
              clear GAC GBC
              go_wp2_with fail
              go_region_held3 (fun w' => w'.cell? ⟨br, 4, none⟩ = some (.slice po q capo)) (first | exact e14 | exact e13 | exact d4) (first
                | (go_at_call 15; refine (t_said (H12.out.later ((Ext.refl _).drew))).mono ?_; rintro e w13 ⟨v13, rfl, ho13, hx13⟩; rw [HME.out] at ho13; obtain ⟨p13, cap13, rfl, -, -, -⟩ := owns_form ho13; have HO13 := Lib.hid ho13; have HX13 := Lib.hid (((Ext.refl wr).drew).trans hx13); have e13 := (hx13.cell _ _ hbr11).trans d4; have hbr13 := Nat.lt_of_lt_of_le hbr11 hx13.size; clear ho13 hx13)
                | (go_at_call 26; ((with_reducible refine (list_same (.slice p13 q cap13) (.slice po q capo) s.out w13 (RdI.own (by rw [HME.out]; exact HO13.out)) (by have := HOut.out.later (HG.out.1.trans HX13.out); exact this) (by rw [HME.out]; omega)).mono ?_); rintro e w14 ⟨rfl, hx14⟩; have HX14 := Lib.hid (HG.out.1.trans (HX13.out.trans hx14)); have e14 := (hx14.cell _ _ hbr13).trans e13; clear hx14)))
              have HX := HX14
              clear HX13 HO13 e13 e14 d4 HO0 HOa HOb HOc HOd HX1 HX2 HX3 HX4 HX5 HX05 HL HX6 HX7 HX8 HX9 H5 H12
              go_wp2_with fail
              generalize hN : s.ts.length = N at *
              clear hN
              go_loopw [15] (fun i wr => ∃ k : Nat, k ≤ N + 2 ∧ i = .int .i64 ((k : Int) - 1) ∧ Hid (Ext w wr)) (fun i _ => ((N : Int) + 1 - intOf i).toNat)
              case atStart => exact ⟨0, by omega, by go_num, HX⟩
              case round =>
                obtain ⟨k, hk, rfl, hX⟩ := hrel
                have d0 := (hX.out.cell _ _ hbr).trans c0
                clear HX
                by_cases hlt4 : k < N + 2
                · have HWi := Lib.hid (show (Lit.int .i64 ((k : Int) - 1)).wf = true by simp [Lit.wf, IntKind.min, IntKind.max, IntKind.signed, IntKind.bits]; omega)
                  have HL1 := Lib.hid (t_left (HT.out.later hX.out) ((k : Int) - 1) HWi.out)
                  have HL2 := Lib.hid fun w' (hx' : Ext wr w') => t_rleft (HT.out.later (hX.out.trans hx')) ((k : Int) - 1) HWi.out
                  generalize (leftI s ((k : Int) - 1)).1 = lx at *
                  generalize (leftI s ((k : Int) - 1)).2 = ly at *
                  go_wp2_with (first
                    | (go_at_call 18; refine HL1.out.mono ?_; rintro e w15 ⟨rfl, hx15⟩; have HX15 := Lib.hid hx15; clear hx15)
                    | (go_at_call 38; refine (HL2.out _ HX15.out).mono ?_; rintro e w16 ⟨rfl, hx16⟩; have HX16 := Lib.hid ((hX.out.trans HX15.out).trans hx16); clear hx16))
                  go_roundw
                  case rel => exact ⟨k + 1, by omega, by go_num, HX16⟩
                  case measure => simp [intOf]; omega
                · obtain rfl : k = N + 2 := by omega
                  rw [show ((N + 2 : Nat) : Int) - 1 = (N : Int) + 1 by omega]
                  go_wp2_with fail
                  go_loopw [20] (fun i wr => ∃ k : Nat, k ≤ ns.length ∧ k ≤ 20 ∧ i = .int .i64 k ∧ Hid (Ext w wr)) (fun i _ => 20 - (intOf i).toNat)
                  case atStart => exact ⟨0, by omega, by omega, rfl, hX⟩
                  case round =>
                    obtain ⟨k, hk, hk20, rfl, hX⟩ := hrel
                    by_cases hlt5 : k < ns.length
                    · by_cases hk2 : k < 20
                      · obtain ⟨b, off, rfl, hb, cz⟩ := HN.out.get hlt5 hX.out
                        have HWz := Lib.hid (HWf.out (ns.getD k 0) (by rw [List.getD_eq_getElem?_getD, List.getElem?_eq_getElem hlt5]; exact List.getElem_mem hlt5))
                        generalize ns.getD k 0 = z at *
                        have HH1 := Lib.hid fun w' (hx' : Ext wr w') => t_holder (HT.out.later (hX.out.trans hx')) z HWz.out
                        have HH2 := Lib.hid fun w' (hx' : Ext wr w') => t_rholder (HT.out.later (hX.out.trans hx')) z
                        have HC1 := Lib.hid fun w' (hx' : Ext wr w') => t_cell (HT.out.later (hX.out.trans hx')) z HWz.out
                        have HC2 := Lib.hid fun w' (hx' : Ext wr w') => t_rcell (HT.out.later (hX.out.trans hx')) z
                        generalize (s.lk z).getD 0 = x1 at *
                        generalize (s.lk z).isSome = x2 at *
                        generalize (s.cl z).getD 0 = x3 at *
                        have hbw := Nat.lt_of_lt_of_le hb hX.out.size
                        go_wp2_with (first
                          | (go_at_call 16; refine (HH1.out _ (Ext.refl _)).mono ?_; rintro e w15 ⟨rfl, hx15⟩; have HX15 := Lib.hid hx15; have cz5 := (hx15.cell _ off hbw); have cz5 := (hx15.cell _ (off + k) hbw).trans cz; have hbw5 := Nat.lt_of_lt_of_le hbw hx15.size; clear hx15)
                          | (go_at_call 34; refine (HH2.out _ HX15.out).mono ?_; rintro e w16 ⟨rfl, rfl⟩))
                        have l0 := later_cell cz5 hbw5
                        have HC3 := Lib.hid (fun (x : Later w15) => later_call (HC1.out _ (HX15.out.trans x.ext)))
                        have HC4 := Lib.hid (fun (x : Later w15) => later_same (HC2.out _ (HX15.out.trans x.ext)))
                        refine wp_region_later w15 (by kernel_rfl) (by kernel_rfl) (Ext.refl _) ?_
                        repeat (go_big_quiet_step (first | (go_at_call 17; exact HC3.out _) | (go_at_call 37; exact HC4.out _)))
                        refine wpQuiet_nil ?_
                        rintro ⟨w17, hg17⟩
                        dsimp only
                        have HX17 := Lib.hid ((hX.out.trans HX15.out).trans hg17)
                        clear l0 cz5 hg17
                        go_wp2_with fail
                        go_roundw
                        case rel => exact ⟨k + 1, by omega, by omega, by go_num, HX17⟩
                        case measure => simp [intOf]; omega
                      · go_wp2_with fail
                        go_ret
                        exact ⟨rfl, hX.out⟩
                    · go_wp2_with fail
                      go_ret
                      exact ⟨rfl, hX.out⟩

end Go.Proofs.Ytfgfbmmidijgoaa
