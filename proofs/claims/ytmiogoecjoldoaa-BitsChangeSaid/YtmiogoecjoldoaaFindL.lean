/- The walk of the law BitsFind. -/
import Derived.Test.YtmiogoecjoldoaaRefOf6
import Derived.Test.YtmiogoecjoldoaaFirst
import Derived.Test.YtmiogoecjoldoaaBitsF
namespace Go.Proofs.Ytmiogoecjoldoaa
open Go.RowKit
set_option linter.unusedVariables false

theorem wf_top {a : Int} (h : (Lit.int .i64 a).wf = true) : a ≤ 9223372036854775807 := by
  simp [Lit.wf, IntKind.min, IntKind.max, IntKind.signed, IntKind.bits] at h; omega

theorem blk8 {w : World} {b : Nat} {t : TypeId} {x0 x1 x2 x3 x4 x5 x6 x7 : Value} (h : Blk w b t #[x0, x1, x2, x3, x4, x5, x6, x7]) :
    w.cell? ⟨b, 0, none⟩ = some x0 ∧ w.cell? ⟨b, 1, none⟩ = some x1 ∧ w.cell? ⟨b, 2, none⟩ = some x2 ∧ w.cell? ⟨b, 3, none⟩ = some x3 ∧ w.cell? ⟨b, 4, none⟩ = some x4 ∧ w.cell? ⟨b, 5, none⟩ = some x5 ∧ w.cell? ⟨b, 6, none⟩ = some x6 ∧ w.cell? ⟨b, 7, none⟩ = some x7 :=
  ⟨h.cell 0, h.cell 1, h.cell 2, h.cell 3, h.cell 4, h.cell 5, h.cell 6, h.cell 7⟩
theorem boxed_own (w : World) (f : Nat → Bool) : Blk (boxed w f) (w.heap.size + 1) 24 (arr f) := by
  have := Blk.new (w.alloc (.cells (arr f) 23)) 24 (arr f)
  simp only [World.size_alloc] at this
  exact this

set_option maxRecDepth 100000 in
set_option maxHeartbeats 2000000 in
theorem findl_any (f : Nat → Bool) (n frm i k : Int) (hn : n ≤ 9223372036854775807) (hf : frm ≤ 9223372036854775807) (w : World) : Calls Try.prog 3 #[.agg (arr f), .int .i64 n, .int .i64 frm, .int .i64 i, .int .i64 k] w fun r w' => r = .returned (.bool true) ∧ Ext w w' := by
  have hz := zeroT_run
  have hst := fun w => run_storeCells_new (P := Try.prog) w 26 (zeroT 512) (arrT f) (by rw [row_cells, arrT_size]) (by rw [zeroT_size, arrT_size]) (arrT_one f)
  have hsz := arrT_size f
  have HA := Lib.hid (boxed_arg w f)
  have HO := Lib.hid (boxed_own w f)
  have HR := Lib.hid (boxed_row w f)
  have HX := Lib.hid (boxed_ext w f)
  have HOf := Lib.hid (fun w => rof_any f w)
  have hn := Lib.hid hn
  have hf := Lib.hid hf
  have HS1 := Lib.hid (fun b w h => sum_any b 0 f w h)
  have HS2 := Lib.hid (fun b w h => rsum_any b 0 f w h)
  have HT := Lib.hid (fun w b h => @true_of_blk w b 26 f h)
  have HB := Lib.hid (fun w => Blk.new w 26 (arrT f))
  have HXB := Lib.hid (fun w => (Ext.refl w).alloc (arrT f) 26)
  unfold sumV at HS1 HS2
  unfold boxed at HR HX HA HO
  unfold arr at HR HX HA HO HOf ⊢
  generalize word f 0 = x0 at *
  generalize word f 1 = x1 at *
  generalize word f 2 = x2 at *
  generalize word f 3 = x3 at *
  generalize word f 4 = x4 at *
  generalize word f 5 = x5 at *
  generalize word f 6 = x6 at *
  generalize word f 7 = x7 at *
  generalize startS f 512 = s0 at *
  generalize maxS f 512 = s1 at *
  generalize endS f 512 = s2 at *
  generalize arrT f = AT at *
  go_enter Try.func3, Try.ntmps3
  go_wp2_with fail
  refine (HOf.out _).mono ?_
  rintro r w1 ⟨rfl, hx⟩
  have HA1 := Lib.hid (HA.out.later hx)
  have HO1 := Lib.hid (HO.out.later hx)
  have HR1 := Lib.hid (HR.out.later hx)
  have HX1 := Lib.hid (HX.out.trans hx)
  clear hx HA HO HR HX HOf
  generalize w.heap.size = g at *
  go_wp2_with fail
  have HA2 := Lib.hid (HA1.out.later (HXB.out w1))
  have HO2 := Lib.hid (HO1.out.later (HXB.out w1))
  have HR2 := Lib.hid (HR1.out.later (HXB.out w1))
  have HX2 := Lib.hid (HX1.out.trans (HXB.out w1))
  have HQ2 := Lib.hid (HT.out _ _ (HB.out w1))
  clear HA1 HO1 HR1 HX1 HXB HB HT hst hz
  generalize w1.heap.size = q at *
  generalize w1.alloc _ = w2 at *
  refine (find_any (g + 1) 0 n frm f _ HR2.out hf.out).mono ?_
  rintro r w3 ⟨rfl, rfl⟩
  go_wp2_with fail
  refine (rfind_any q 0 n frm f _ HQ2.out hf.out).mono ?_
  rintro r w3 ⟨rfl, rfl⟩
  go_wp2_with fail
  refine (last_any (g + 1) 0 n frm f _ HR2.out hn.out).mono ?_
  rintro r w3 ⟨rfl, rfl⟩
  go_wp2_with fail
  refine (rlast_any q 0 n frm f _ HQ2.out hn.out).mono ?_
  rintro r w3 ⟨rfl, rfl⟩
  go_wp2_with fail
  refine (count_any (g + 1) 0 i k f _ HR2.out).mono ?_
  rintro r w3 ⟨rfl, hx⟩
  have HA3 := Lib.hid (HA2.out.later hx)
  have HO3 := Lib.hid (HO2.out.later hx)
  have HR3 := Lib.hid (HR2.out.later hx)
  have HX3 := Lib.hid (HX2.out.trans hx)
  have HQ3 := Lib.hid (HQ2.out.later hx)
  clear hx HA2 HO2 HR2 HX2 HQ2
  go_wp2_with fail
  refine (rcount_any q 0 i k f _ HQ3.out).mono ?_
  rintro r w4 ⟨rfl, rfl⟩
  go_wp2_with fail
  refine (HS1.out (g + 1) _ HR3.out).mono ?_
  rintro r w4 ⟨rfl, hx⟩
  have HA4 := Lib.hid (HA3.out.later hx)
  have HO4 := Lib.hid (HO3.out.later hx)
  have HX4 := Lib.hid (HX3.out.trans hx)
  have HQ4 := Lib.hid (HQ3.out.later hx)
  clear hx HA3 HO3 HR3 HX3 HQ3
  go_wp2_with fail
  refine (HS2.out q _ HQ4.out).mono ?_
  rintro r w5 ⟨rfl, hx⟩
  obtain ⟨c0, c1, c2, c3, c4, c5, c6, c7⟩ := blk8 (HA4.out.later hx)
  obtain ⟨d0, d1, d2, d3, d4, d5, d6, d7⟩ := blk8 (HO4.out.later hx)
  have HX5 := Lib.hid (HX4.out.trans hx)
  clear hx HA4 HO4 HX4 HQ4
  have e1 := fun w => words_same x0 x1 x2 x3 x4 x5 x6 x7 w
  go_wp2_with (go_at_call 19; refine (awake_any _).mono ?_; rintro r w13 ⟨rfl, hx13⟩)
  go_ret
  exact ⟨rfl, HX5.out.trans hx13⟩

theorem walk_BitsFind {W : World} (v : Value) (f : Nat → Bool) (hv : v = .agg (arr f)) (n : Int) (wn : (Lit.int .i64 n).wf = true) (frm : Int) (wf : (Lit.int .i64 frm).wf = true) (i : Int) (wi : (Lit.int .i64 i).wf = true) (k : Int) (wk : (Lit.int .i64 k).wf = true) :
    Calls Try.prog 3 #[v, .int .i64 n, .int .i64 frm, .int .i64 i, .int .i64 k] W fun r w' => r = .returned (.bool true) ∧ Ext W w' := by
  subst hv
  exact findl_any f n frm i k (wf_top wn) (wf_top wf) W

end Go.Proofs.Ytmiogoecjoldoaa
