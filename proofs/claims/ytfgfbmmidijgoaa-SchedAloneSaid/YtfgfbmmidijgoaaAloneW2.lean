/- The walk of SchedAlone. -/
import Derived.Test.YtfgfbmmidijgoaaAloneW
import Derived.Deep.RegionHeldLaw
namespace Go.Proofs.Ytfgfbmmidijgoaa
open Go.RowKit
set_option linter.unusedVariables false

theorem chg_undrew {F : Nat → Prop} {a w : World} (h : Chg F a.drew w) : Chg F a w := ⟨h.os, h.tape, h.output, h.size, h.frozen, h.block⟩
theorem wrap_id {x : Int} (h0 : 0 ≤ x) (h1 : x ≤ 1000000) : IntKind.i64.wrap x = x := by rw [IntKind.wrap_i64]; omega
theorem src_blks {w : World} {g m : Nat} {t : TypeId} {cs : Array Value} {size : Nat} (h : Blk w g t cs) (hs : cs.size = m * size) : Src w size (.slice (some ⟨g, 0, none⟩) m m) m cs.toList :=
  .inr ⟨_, _, rfl, by simpa using hs, fun j u hu => by
    rw [Addr.add_lit, Nat.zero_add, h.cell]
    simpa using hu⟩

set_option maxRecDepth 20000 in
set_option maxHeartbeats 8000000 in
theorem walk_SchedAlone (v : Value) (l : Rw) {W : World} (hr : RwIn W v l) (v2 : Value) (zs : List Int) (hz : ZsIn W .i64 v2 zs) :
    Calls Try.prog 5 #[v, v2] W fun e W' => e = .returned (.bool true) ∧ Ext W W' := by
  obtain ⟨i0, hi0, hz0, hz1, hz2⟩ := info_parts row_info
  obtain ⟨i1, hi1, hy0, hy1, hy2⟩ := info_parts step_info
  obtain ⟨hlm, pr, capr, rfl, hrows⟩ := hr
  obtain ⟨p, cap, rfl, hz, hl⟩ := hz.open_
  unfold maxLen at hlm
  by_cases h20 : 20 < l.len
  · clear hz hrows
    go_enter Try.func5, Try.ntmps5
    go_wp2
    go_ret
    exact ⟨rfl, Ext.refl _⟩
  have h20 : l.len ≤ 20 := by omega
  by_cases h400 : 400 < zs.length
  · clear hz hrows
    go_enter Try.func5, Try.ntmps5
    go_wp2
    go_ret
    exact ⟨rfl, Ext.refl _⟩
  have h400 : zs.length ≤ 400 := by omega
  have HZ := Lib.hid hz
  have HR := Lib.hid hrows
  clear hz hl hrows hlm
  go_enter Try.func5, Try.ntmps5
  go_wp2
  go_loopw [5, 6, 7] (fun nv v i wr => ∃ (k n : Nat) (vals : List Value), k ≤ l.len ∧ i = .int .i64 k ∧ nv = .int .i64 n ∧ n ≤ 100 ∧ Hid (AlB W wr v vals l.z k n)) (fun _ _ i _ => l.len - (intOf i).toNat)
  case atStart => exact ⟨0, 0, _, by omega, rfl, rfl, by omega, Lib.hid (AlB.start W l.z)⟩
  case round =>
    obtain ⟨k, n, vals, hk, rfl, rfl, hn, hR⟩ := hrel
    have HO : Hid (wr.ownsRow W.heap.size 23 1 _ k vals) := Lib.hid (by have := hR.out.at_.own; rwa [alN_len] at this)
    obtain ⟨pv, capv, rfl, -, -, -⟩ := owns_form HO.out
    by_cases hlt : k < l.len
    · obtain ⟨b, off, A, C, rfl, hb, hc, hlen, hwf, hzr⟩ := HR.out k hlt
      have HZR := Lib.hid hzr
      have HC := Lib.hid hc
      have c0 := (hR.out.at_.ext.cell b (off + k) hb).trans hc
      unfold maxLen at hlen
      generalize hrow : l.z k = row at *
      have HRow := Lib.hid hrow
      clear hzr hwf hc hrow
      go_wp2_with fail
      obtain ⟨W3, rfl⟩ : ∃ W3, W3 = wr := ⟨_, rfl⟩
      go_loopw [5, 8, 9] (fun nv t kk wr => ∃ (j m : Nat), j ≤ row.length ∧ kk = .int .i64 j ∧ nv = .int .i64 m ∧ m ≤ 100 ∧ Hid (AlT W3 wr t k row j m n)) (fun _ _ kk _ => row.length - (intOf kk).toNat)
      case atStart => exact ⟨0, n, by omega, rfl, rfl, hn, Lib.hid (AlT.start _ _ _ _)⟩
      case round =>
        obtain ⟨j, m, hj, rfl, rfl, hm, hT⟩ := hrel
        obtain ⟨pt, capt, rfl, -, -, -⟩ := owns_form hT.out.own
        have HX := Lib.hid (hR.out.at_.ext.trans hT.out.ext)
        have c1 := (HX.out.cell b (off + k) hb).trans HC.out
        have hj200 : j ≤ 100 := by have := hT.out.tot; omega
        clear c0
        by_cases hjl : j < row.length
        · obtain ⟨b2, off2, rfl, hb2, cz⟩ := HZR.out.get hjl HX.out
          have HZE := Lib.hid (show row[j]? = some (row.getD j 0) by rw [List.getD_eq_getElem?_getD, List.getElem?_eq_getElem hjl]; rfl)
          generalize hge : row.getD j 0 = z at *
          have HZV := Lib.hid hge
          clear hge
          by_cases hm2 : m = 100
          · subst hm2
            go_wp2_with fail
            go_ret
            exact ⟨rfl, HX.out⟩
          by_cases hzl : z < 0
          · go_wp2_with fail
            go_ret
            exact ⟨rfl, HX.out⟩
          by_cases hzh : 50 < z
          · go_wp2_with fail
            go_ret
            exact ⟨rfl, HX.out⟩
          have hzl : 0 ≤ z := by omega
          have hzh : z ≤ 50 := by omega
          have hm : m < 100 := by omega
          obtain ⟨t0, t2⟩ := tmod3 hzl
          have HWR := Lib.hid (show IntKind.i64.wrap (IntKind.i64.wrap (100 * (k : Int)) + z) = 100 * (k : Int) + z by rw [wrap_id (x := 100 * (k : Int)) (by omega) (by omega), wrap_id (by omega) (by omega)])
          go_wp2_with fail
          go_region_held_law (fun w' => w'.cell? ⟨b, off + k, none⟩ = some (.slice (some ⟨b2, off2, none⟩) row.length C) ∧ w'.cell? ⟨b2, off2 + j, none⟩ = some (.int .i64 z)) (go_keep) (first | (refine step_append_all W3.heap.size rfl (.tmp 72) (.tmp 102) 23 rfl 25 i1 _ 3 24 Try.underlying23 hi1 hy0 hy1 hy2 rfl (by decide) (.slice pt (3 * j) capt) (3 * j) _ (by simp [Act.eval]) (owns_later hT.out.own ((Ext.refl wr).drew.alloc _ _).below) (.slice (some ⟨wr.heap.size, 0, none⟩) 3 3) 3 [.int .i64 1, .int .i64 (z.tmod 3), .int .i64 0, .int .i64 5, .int .i64 (IntKind.i64.wrap (IntKind.i64.wrap (100 * (k : Int)) + z)), .int .i64 0, .int .i64 2, .int .i64 (z.tmod 3), .int .i64 0] (by simp [Act.eval]) (src_blks (t := 25) (m := 3) (Blk.new _ _ _) rfl) (by intro u hu; simp at hu; rcases hu with rfl | rfl | rfl | rfl | rfl | rfl | rfl | rfl | rfl <;> rfl) (by unfold maxLen; omega) (by omega) (by have := hT.out.ext.size; simp; omega) ?_; intro v' w2 hown hchg hat; rw [HWR.out] at hown; have HN := Lib.hid (hT.out.add_ HZE.out hzl hzh hown (chg_undrew hchg)); obtain ⟨p', cap', rfl, -, -, -⟩ := owns_form hown; have hx2 := hR.out.at_.ext.trans HN.out.ext; have c2 := (hx2.cell b (off + k) hb).trans HC.out; have cz2 := (HZR.out.at_ hjl hx2).2; rw [HZV.out] at cz2; clear hown hchg hat hx2))
          all_goals (
            go_wp2_with fail
            go_roundw
            case rel => exact ⟨j + 1, m + 1, by omega, by go_num, by go_num, by omega, HN⟩
            case measure => simp [intOf]; omega)
        · obtain rfl : j = row.length := by omega
          go_wp2_with (first | (at_builtin; refine wpList_append_all W.heap.size _ rfl (.tmp 104) (.tmp 106) 22 rfl 23 i0 _ 1 24 Try.underlying22 hi0 hz0 hz1 hz2 rfl (by decide) _ _ _ (by rfl) (by exact owns_later HO.out ((hT.out.ext.alloc _ _).below)) (.slice (some ⟨wr.heap.size, 0, none⟩) 1 1) 1 [.slice pt (3 * row.length) capt] (by rfl) (by exact src_one wr [.slice pt (3 * row.length) capt] _ 1 rfl) (by intro u hu; simp at hu; subst hu; rfl) (by unfold maxLen; omega) (by omega) (by have := HX.out.size; simp; omega) ?_) | fail)
          intro v' w2 hown hc _
          have HN := Lib.hid (hR.out.push HRow.out hT.out hown hc)
          obtain ⟨p', cap', rfl, -, -, -⟩ := owns_form hown
          clear hown hc hT HO
          go_wp2_with fail
          go_roundw
          case rel => exact ⟨k + 1, m, _, by omega, by go_num, by go_num, hm, HN⟩
          case measure => simp [intOf]; omega
    · obtain rfl : k = l.len := by omega
      have HX := Lib.hid hR.out.at_.ext
      have HT : Hid (TsIn wr (.slice pv l.len capv) (alN l.z l.len)) := Lib.hid hR.out.at_.tsin
      have HB := Lib.hid (show total (alN l.z l.len) = 3 * n by rw [alN_total, hR.out.cnt])
      have HC := Lib.hid (AloneI.start hR.out.small hR.out.cnt)
      have HW := Lib.hid (alN_wf l.z l.len h20 hR.out.small)
      clear HO hR
      go_wp2_with (first
        | (go_at_call 11; refine (g_new (W := W) (R := fun _ => False) HX.out (fun _ h => h.elim) (alN l.z l.len) _ HT.out (by rw [alN_len]; omega) (by rw [HB.out]; omega) HW.out (by rw [alN_len]; omega) (by rw [HB.out]; omega) (alN_ok _ _)).mono ?_; rintro r w1 ⟨b, rfl, h, -⟩; have H1 := Lib.hid (show AlW W w1 b l.z l.len n 0 from ⟨_, h, HC.out⟩); clear h HT HB HC HW HX))
      go_loopw [12] (fun i wr => ∃ k : Nat, k ≤ 3 * n ∧ i = .int .i64 k ∧ Hid (AlW W wr b l.z l.len n k)) (fun i _ => 3 * n - (intOf i).toNat)
      case atStart => exact ⟨0, by omega, rfl, H1⟩
      case round =>
        obtain ⟨k, hk, rfl, hI⟩ := hrel
        clear H1
        by_cases hlt2 : k < 3 * n
        · by_cases hp : k < zs.length
          · obtain ⟨bb, off, rfl, hbb, cz⟩ := HZ.out.get hp hI.out.ext
            go_wp2_with (first
              | (go_at_call 14; refine (al_go hI.out hlt2 _).mono ?_; rintro r w3 ⟨i, rfl, h⟩; have H3 := Lib.hid h; clear h hI))
            go_roundw
            case rel => exact ⟨k + 1, by omega, by go_num, H3⟩
            case measure => simp [intOf]; omega
          · go_wp2_with (first
              | (go_at_call 14; refine (al_go hI.out hlt2 _).mono ?_; rintro r w3 ⟨i, rfl, h⟩; have H3 := Lib.hid h; clear h hI))
            go_roundw
            case rel => exact ⟨k + 1, by omega, by go_num, H3⟩
            case measure => simp [intOf]; omega
        · obtain rfl : k = 3 * n := by omega
          have hmk := make_ints l.len (by omega)
          go_wp2_with (first
            | (go_at_call 14; refine (al_done hI.out 0).mono ?_; rintro r w3 ⟨rfl, h⟩; have H3 := Lib.hid h; clear h hI)
            | (go_at_call 15; refine (al_said H3.out).mono ?_; rintro r w4 ⟨p4, cap4, out, rfl, hs, ho, h⟩; have H4 := Lib.hid (AlE.start (N := l.len) h hs); have HOut := Lib.hid ho; clear h hs ho H3))
          generalize w4.heap.size = g at *
          clear hmk
          go_loopw [20] (fun i wr => ∃ j : Nat, j ≤ n ∧ i = .int .i64 j ∧ Hid (AlE W wr b out (.slice p4 n cap4) g l.len n j)) (fun i _ => n - (intOf i).toNat)
          case atStart => exact ⟨0, by omega, rfl, H4⟩
          case round =>
            obtain ⟨j, hj, rfl, hE⟩ := hrel
            clear H4
            by_cases hlt3 : j < n
            · obtain ⟨x, t, hx, ht, x0, x3, hd, htag, hcl, hval⟩ := HOut.out.at_ h20 (j := j) (by rw [HOut.out.len]; exact hlt3)
              have HX := Lib.hid hE.out.sch.ext
              have HS := Lib.hid fun nq => (hE.out.drewN nq).step hx ht htag
              obtain ⟨b, off, A, C, rfl, hb, hc, hlen, -, hzr⟩ := HR.out t ht
              obtain ⟨b2, off2, rfl, hb2, cz⟩ := hzr.get hcl HX.out
              have c1 := (HX.out.cell b (off + t) hb).trans hc
              have ca : wr.cell? ⟨g, t, none⟩ = some (.int .i64 (cntT out j t : Nat)) := by rw [hE.out.blk.cell, nl_get (fun t => cntT out j t) _ t ht]
              have fa := hE.out.blk.frozen t
              have la := hE.out.blk.lt
              have hsd := hE.out.said
              obtain ⟨ps, caps, e, -, -, hps⟩ := owns_form hsd
              cases e
              rcases hps with hps | ⟨gs, rfl, -, hgs⟩
              · omega
              have cs : wr.cell? ⟨gs, j, none⟩ = some (.int .i64 x) := by rw [hsd.cellAt j (by omega), List.getElem?_map, hx]; rfl
              rw [hval] at cz
              have hcn : cntT out j t ≤ 1000 := by
                have h1 : (out.take j).length = j := by rw [List.length_take, HOut.out.len]; omega
                have h2 := List.length_filter_le (tagB t) (out.take j)
                unfold cntT
                omega
              generalize cntT out j t = c at *
              generalize l.z t = row at *
              clear hc hzr hsd hx htag hval hE
              have hd2 : x / 100 = (t : Int) := by rw [← hd, Int.tdiv_eq_ediv_of_nonneg x0]
              have q1 : decide ((l.len : Int) ≤ (t : Int)) = false := decide_eq_false (by omega)
              have q2 : decide ((row.length : Int) ≤ (c : Int)) = false := decide_eq_false (by omega)
              go_wp2_with fail
              go_quiet (fail)
              go_wp2_with fail
              go_roundw
              case rel => exact ⟨j + 1, by omega, by go_num, Lib.hid (HS.out _)⟩
              case measure => simp [intOf]; omega
            · obtain rfl : j = n := by omega
              have H5 := Lib.hid hE.out.sch
              clear hE HOut
              go_wp2_with fail
              go_loopw [22] (fun i wr => ∃ j : Nat, j ≤ 3 ∧ i = .int .i64 j ∧ Hid (AlD W wr b (fun k => k = g))) (fun i _ => 3 - (intOf i).toNat)
              case atStart => exact ⟨0, by omega, rfl, H5⟩
              case round =>
                obtain ⟨q, hq, rfl, hD⟩ := hrel
                clear H5
                by_cases hlt4 : q < 3
                · go_wp2_with (first
                    | (go_at_call 16; refine (al_holder hD.out q (by simp [Lit.wf, IntKind.min, IntKind.max, IntKind.signed, IntKind.bits]; omega)).mono ?_; rintro r w6 ⟨rfl, h⟩; have H6 := Lib.hid h; clear h hD))
                  go_roundw
                  case rel => exact ⟨q + 1, by omega, by go_num, H6⟩
                  case measure => simp [intOf]; omega
                · obtain rfl : q = 3 := by omega
                  go_wp2_with (first
                    | (go_at_call 13; refine (al_enabled hD.out).mono ?_; rintro r w6 ⟨p6, cap6, rfl, hx⟩; have H6 := Lib.hid hx; clear hx hD)
                    | (go_at_call 12; refine (awake_any _).mono ?_; rintro r w9 ⟨rfl, hx⟩; have H9 := Lib.hid (H6.out.trans hx); clear hx H6))
                  go_ret
                  exact ⟨rfl, H9.out⟩

end Go.Proofs.Ytfgfbmmidijgoaa
