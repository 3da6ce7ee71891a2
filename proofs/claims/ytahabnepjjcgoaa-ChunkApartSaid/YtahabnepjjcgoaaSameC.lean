/- A chunk and the reference's: all that is told is the same. -/
import Derived.Test.YtahabnepjjcgoaaActC
import Derived.Test.YtahabnepjjcgoaaRowsC
import Derived.Test.YtahabnepjjcgoaaBitsF
import Derived.Test.YtahabnepjjcgoaaQuick
namespace Go.Proofs.Ytahabnepjjcgoaa
open Go.RowKit
set_option linter.unusedVariables false

theorem blks_new (w : World) (u g : Array Value) : Blk ((w.alloc (.cells u 39)).alloc (.cells g 39)) w.heap.size 39 u ∧ Blk ((w.alloc (.cells u 39)).alloc (.cells g 39)) (w.heap.size + 1) 39 g ∧ Ext w ((w.alloc (.cells u 39)).alloc (.cells g 39)) := by
  have h1 := (Blk.new w 39 u).alloc (.cells g 39)
  have h2 := Blk.new (w.alloc (.cells u 39)) 39 g
  simp only [World.size_alloc] at h2
  exact ⟨h1, h2, ((Ext.refl w).alloc _ _).alloc _ _⟩

theorem blk8 {w : World} {b : Nat} {t : TypeId} {x0 x1 x2 x3 x4 x5 x6 x7 : Value} (h : Blk w b t #[x0, x1, x2, x3, x4, x5, x6, x7]) :
    w.cell? ⟨b, 0, none⟩ = some x0 ∧ w.cell? ⟨b, 1, none⟩ = some x1 ∧ w.cell? ⟨b, 2, none⟩ = some x2 ∧ w.cell? ⟨b, 3, none⟩ = some x3 ∧ w.cell? ⟨b, 4, none⟩ = some x4 ∧ w.cell? ⟨b, 5, none⟩ = some x5 ∧ w.cell? ⟨b, 6, none⟩ = some x6 ∧ w.cell? ⟨b, 7, none⟩ = some x7 :=
  ⟨h.cell 0, h.cell 1, h.cell 2, h.cell 3, h.cell 4, h.cell 5, h.cell 6, h.cell 7⟩

theorem blk_st8 {w : World} {b : Nat} {t : TypeId} {a0 a1 a2 a3 a4 a5 a6 a7 : Value} (h : Blk w b t #[a0, a1, a2, a3, a4, a5, a6, a7]) (v0 v1 v2 v3 v4 v5 v6 v7 : Value) :
    Blk ((((((((w.setCell ⟨b, 0, none⟩ v0).setCell ⟨b, 1, none⟩ v1).setCell ⟨b, 2, none⟩ v2).setCell ⟨b, 3, none⟩ v3).setCell ⟨b, 4, none⟩ v4).setCell ⟨b, 5, none⟩ v5).setCell ⟨b, 6, none⟩ v6).setCell ⟨b, 7, none⟩ v7) b t #[v0, v1, v2, v3, v4, v5, v6, v7] := by
  have h0 : Blk (w.setCell ⟨b, 0, none⟩ v0) b t #[v0, a1, a2, a3, a4, a5, a6, a7] := h.set_ 0 v0
  have h1 : Blk ((w.setCell ⟨b, 0, none⟩ v0).setCell ⟨b, 1, none⟩ v1) b t #[v0, v1, a2, a3, a4, a5, a6, a7] := h0.set_ 1 v1
  have h2 : Blk (((w.setCell ⟨b, 0, none⟩ v0).setCell ⟨b, 1, none⟩ v1).setCell ⟨b, 2, none⟩ v2) b t #[v0, v1, v2, a3, a4, a5, a6, a7] := h1.set_ 2 v2
  have h3 : Blk ((((w.setCell ⟨b, 0, none⟩ v0).setCell ⟨b, 1, none⟩ v1).setCell ⟨b, 2, none⟩ v2).setCell ⟨b, 3, none⟩ v3) b t #[v0, v1, v2, v3, a4, a5, a6, a7] := h2.set_ 3 v3
  have h4 : Blk (((((w.setCell ⟨b, 0, none⟩ v0).setCell ⟨b, 1, none⟩ v1).setCell ⟨b, 2, none⟩ v2).setCell ⟨b, 3, none⟩ v3).setCell ⟨b, 4, none⟩ v4) b t #[v0, v1, v2, v3, v4, a5, a6, a7] := h3.set_ 4 v4
  have h5 : Blk ((((((w.setCell ⟨b, 0, none⟩ v0).setCell ⟨b, 1, none⟩ v1).setCell ⟨b, 2, none⟩ v2).setCell ⟨b, 3, none⟩ v3).setCell ⟨b, 4, none⟩ v4).setCell ⟨b, 5, none⟩ v5) b t #[v0, v1, v2, v3, v4, v5, a6, a7] := h4.set_ 5 v5
  have h6 : Blk (((((((w.setCell ⟨b, 0, none⟩ v0).setCell ⟨b, 1, none⟩ v1).setCell ⟨b, 2, none⟩ v2).setCell ⟨b, 3, none⟩ v3).setCell ⟨b, 4, none⟩ v4).setCell ⟨b, 5, none⟩ v5).setCell ⟨b, 6, none⟩ v6) b t #[v0, v1, v2, v3, v4, v5, v6, a7] := h5.set_ 6 v6
  have h7 : Blk ((((((((w.setCell ⟨b, 0, none⟩ v0).setCell ⟨b, 1, none⟩ v1).setCell ⟨b, 2, none⟩ v2).setCell ⟨b, 3, none⟩ v3).setCell ⟨b, 4, none⟩ v4).setCell ⟨b, 5, none⟩ v5).setCell ⟨b, 6, none⟩ v6).setCell ⟨b, 7, none⟩ v7) b t #[v0, v1, v2, v3, v4, v5, v6, v7] := h6.set_ 7 v7
  exact h7
theorem blk_far8 {w : World} {b c : Nat} {t : TypeId} {A : Array Value} (h : Blk w b t A) (hne : b ≠ c) (v0 v1 v2 v3 v4 v5 v6 v7 : Value) :
    Blk ((((((((w.setCell ⟨c, 0, none⟩ v0).setCell ⟨c, 1, none⟩ v1).setCell ⟨c, 2, none⟩ v2).setCell ⟨c, 3, none⟩ v3).setCell ⟨c, 4, none⟩ v4).setCell ⟨c, 5, none⟩ v5).setCell ⟨c, 6, none⟩ v6).setCell ⟨c, 7, none⟩ v7) b t A :=
  (((((((h.far (p := ⟨c, 0, none⟩) hne v0).far (p := ⟨c, 1, none⟩) hne v1).far (p := ⟨c, 2, none⟩) hne v2).far (p := ⟨c, 3, none⟩) hne v3).far (p := ⟨c, 4, none⟩) hne v4).far (p := ⟨c, 5, none⟩) hne v5).far (p := ⟨c, 6, none⟩) hne v6).far (p := ⟨c, 7, none⟩) hne v7
theorem ext_st8 {W w : World} {c : Nat} (h : Ext W w) (hc : W.heap.size ≤ c) (v0 v1 v2 v3 v4 v5 v6 v7 : Value) :
    Ext W ((((((((w.setCell ⟨c, 0, none⟩ v0).setCell ⟨c, 1, none⟩ v1).setCell ⟨c, 2, none⟩ v2).setCell ⟨c, 3, none⟩ v3).setCell ⟨c, 4, none⟩ v4).setCell ⟨c, 5, none⟩ v5).setCell ⟨c, 6, none⟩ v6).setCell ⟨c, 7, none⟩ v7) :=
  (((((((h.setCell (p := ⟨c, 0, none⟩) hc v0).setCell (p := ⟨c, 1, none⟩) hc v1).setCell (p := ⟨c, 2, none⟩) hc v2).setCell (p := ⟨c, 3, none⟩) hc v3).setCell (p := ⟨c, 4, none⟩) hc v4).setCell (p := ⟨c, 5, none⟩) hc v5).setCell (p := ⟨c, 6, none⟩) hc v6).setCell (p := ⟨c, 7, none⟩) hc v7

set_option maxRecDepth 100000 in
set_option maxHeartbeats 2000000 in
theorem same_any (b rb : Nat) (u g : Nat → Bool) (w : World) (hc : ChunkAt w b u g) (hr : RChunkAt w rb u g) :
    Calls Try.prog 23 #[.pointer (some ⟨b, 0, none⟩), .pointer (some ⟨rb, 0, none⟩)] w fun r w' => r = .returned (.bool true) ∧ Ext w w' := by
  have HC := Lib.hid hc
  have HR := Lib.hid hr
  clear hc hr
  have HRows := Lib.hid (fun w h => rows_any b u g w h)
  have HW := Lib.hid (fun o f w h => rwords_any rb o f w h)
  have HW1 := Lib.hid (fun w h => HW.out 0 u w h)
  have HW2 := Lib.hid (fun w h => HW.out 512 g w h)
  have HS := Lib.hid (fun w h => csum_any b u g w h)
  have HS2 := Lib.hid (fun w h => rsum_any rb 0 u w h)
  have HF := Lib.hid (fun w h => free_any b u g w h)
  have HF2 := Lib.hid (fun w h => rfree_any rb u g w h)
  have HL := Lib.hid (fun w h => released_any b u g w h)
  have HL2 := Lib.hid (fun w h => rreleased_any rb u g w h)
  clear HW
  unfold arr at HRows HW1 HW2
  unfold sumV at HS HS2
  generalize word u 0 = x0 at *
  generalize word u 1 = x1 at *
  generalize word u 2 = x2 at *
  generalize word u 3 = x3 at *
  generalize word u 4 = x4 at *
  generalize word u 5 = x5 at *
  generalize word u 6 = x6 at *
  generalize word u 7 = x7 at *
  generalize word g 0 = y0 at *
  generalize word g 1 = y1 at *
  generalize word g 2 = y2 at *
  generalize word g 3 = y3 at *
  generalize word g 4 = y4 at *
  generalize word g 5 = y5 at *
  generalize word g 6 = y6 at *
  generalize word g 7 = y7 at *
  generalize startS u 512 = s0 at *
  generalize maxS u 512 = s1 at *
  generalize endS u 512 = s2 at *
  generalize cnt5 u = n1 at *
  generalize cnt5 g = n2 at *
  go_enter Try.func23, Try.ntmps23
  go_wp2_with fail
  refine (HRows.out _ HC.out).mono ?_
  rintro r w1 ⟨rfl, hx⟩
  obtain ⟨t1, t2, t3⟩ := blks_new w1 #[.int .u64 x0, .int .u64 x1, .int .u64 x2, .int .u64 x3, .int .u64 x4, .int .u64 x5, .int .u64 x6, .int .u64 x7] #[.int .u64 y0, .int .u64 y1, .int .u64 y2, .int .u64 y3, .int .u64 y4, .int .u64 y5, .int .u64 y6, .int .u64 y7]
  have HX2 := Lib.hid (hx.trans t3)
  have HU := Lib.hid t1
  have HG := Lib.hid t2
  have hub : w.heap.size ≤ w1.heap.size := hx.size
  clear hx t1 t2 t3
  go_wp2_with fail
  generalize (w1.alloc _).alloc _ = w2 at *
  generalize w1.heap.size = ub at *
  have HC2 := Lib.hid (HC.out.later HX2.out)
  have HR2 := Lib.hid (HR.out.later HX2.out)
  have e1 := fun w => words_same x0 x1 x2 x3 x4 x5 x6 x7 w
  have e2 := fun w => words_same y0 y1 y2 y3 y4 y5 y6 y7 w
  obtain ⟨c0, c1, c2, c3, c4, c5, c6, c7⟩ := blk8 HU.out
  obtain ⟨d0, d1, d2, d3, d4, d5, d6, d7⟩ := blk8 HG.out
  have hul := HU.out.lt
  have hgl := HG.out.lt
  have l0 := later_cell c0 hul
  have l1 := later_cell c1 hul
  have l2 := later_cell c2 hul
  have l3 := later_cell c3 hul
  have l4 := later_cell c4 hul
  have l5 := later_cell c5 hul
  have l6 := later_cell c6 hul
  have l7 := later_cell c7 hul
  have m0 := later_cell d0 hgl
  have m1 := later_cell d1 hgl
  have m2 := later_cell d2 hgl
  have m3 := later_cell d3 hgl
  have m4 := later_cell d4 hgl
  have m5 := later_cell d5 hgl
  have m6 := later_cell d6 hgl
  have m7 := later_cell d7 hgl
  clear c0 c1 c2 c3 c4 c5 c6 c7 d0 d1 d2 d3 d4 d5 d6 d7
  have HW1' := Lib.hid (fun (x : Later w2) => later_call (HW1.out x.w (HR2.out.later x.ext).used))
  have HW2' := Lib.hid (fun (x : Later w2) => later_call (HW2.out x.w (HR2.out.later x.ext).gone))
  have HS' := Lib.hid (fun (x : Later w2) => later_call (HS.out x.w (HC2.out.later x.ext)))
  have HS2' := Lib.hid (fun (x : Later w2) => later_call (HS2.out x.w (HR2.out.later x.ext).used))
  have HF' := Lib.hid (fun (x : Later w2) => later_call (HF.out x.w (HC2.out.later x.ext)))
  have HF2' := Lib.hid (fun (x : Later w2) => later_same (HF2.out x.w (HR2.out.later x.ext)))
  have HL' := Lib.hid (fun (x : Later w2) => later_call (HL.out x.w (HC2.out.later x.ext)))
  have HL2' := Lib.hid (fun (x : Later w2) => later_same (HL2.out x.w (HR2.out.later x.ext)))
  go_wp2_with fail
  refine wp_region_later w2 (by kernel_rfl) (lex_of_quick (by kernel_rfl) (by kernel_rfl)) (Ext.refl _) ?_
  try simp only [List.append_eq, List.cons_append, List.nil_append]
  repeat (go_big_quiet_step (first | (go_at_call 40; first | (with_reducible exact HW1'.out _) | (with_reducible exact HW2'.out _)) | (go_at_call 20; exact HS'.out _) | (go_at_call 41; exact HS2'.out _) | (go_at_call 11; exact HF'.out _) | (go_at_call 42; exact HF2'.out _) | (go_at_call 16; exact HL'.out _) | (go_at_call 43; exact HL2'.out _)))
  refine wpQuiet_nil ?_
  rintro ⟨w7, hg7⟩
  dsimp only
  have HU7 := Lib.hid (HU.out.later hg7)
  have HG7 := Lib.hid (HG.out.later hg7)
  have HX7 := Lib.hid (HX2.out.trans hg7)
  clear HU HG HX2 HW1' HW2' HS' HS2' HF' HF2' HL' HL2' HC2 HR2 HS HS2 HF HF2 HL HL2 hg7 hul hgl
  clear l0 m0 l1 m1 l2 m2 l3 m3 l4 m4 l5 m5 l6 m6 l7 m7
  have c0 := (blk8 HU7.out).1
  have d3 := (blk8 HG7.out).2.2.2.1
  have f0 := HU7.out.frozen 0
  have f3 := HG7.out.frozen 3
  go_wp2_with fail
  have HX8 := Lib.hid (fun v v' => (HX7.out.setCell (p := ⟨ub, 0, none⟩) hub v).setCell (p := ⟨ub + 1, 3, none⟩) (by show _ ≤ ub + 1; omega) v')
  have HU8 := Lib.hid (fun v v' => (HU7.out.set_ 0 v).far (p := ⟨ub + 1, 3, none⟩) (by simp) v')
  have HG8 := Lib.hid (fun v v' => (HG7.out.far (p := ⟨ub, 0, none⟩) (by simp) v).set_ 3 v')
  clear HU7 HG7 c0 d3 f0 f3 HX7
  refine (HRows.out _ (HC.out.later (HX8.out _ _))).mono ?_
  rintro r w9 ⟨rfl, hx⟩
  have HX9 := Lib.hid ((HX8.out _ _).trans hx)
  have hu := (HU8.out _ _).later hx
  have hg := (HG8.out _ _).later hx
  clear HX8 HU8 HG8 hx
  obtain ⟨a0, b0⟩ : ∃ v : Value, Blk w9 ub 39 #[v, .int .u64 (x1 : Nat), .int .u64 (x2 : Nat), .int .u64 (x3 : Nat), .int .u64 (x4 : Nat), .int .u64 (x5 : Nat), .int .u64 (x6 : Nat), .int .u64 (x7 : Nat)] := ⟨_, hu⟩
  obtain ⟨a3, b3⟩ : ∃ v : Value, Blk w9 (ub + 1) 39 #[.int .u64 (y0 : Nat), .int .u64 (y1 : Nat), .int .u64 (y2 : Nat), v, .int .u64 (y4 : Nat), .int .u64 (y5 : Nat), .int .u64 (y6 : Nat), .int .u64 (y7 : Nat)] := ⟨_, hg⟩
  clear hu hg
  have HU9 := Lib.hid (blk_far8 (c := ub + 1) (blk_st8 b0 (.int .u64 (x0 : Nat)) (.int .u64 (x1 : Nat)) (.int .u64 (x2 : Nat)) (.int .u64 (x3 : Nat)) (.int .u64 (x4 : Nat)) (.int .u64 (x5 : Nat)) (.int .u64 (x6 : Nat)) (.int .u64 (x7 : Nat))) (by simp) (.int .u64 (y0 : Nat)) (.int .u64 (y1 : Nat)) (.int .u64 (y2 : Nat)) (.int .u64 (y3 : Nat)) (.int .u64 (y4 : Nat)) (.int .u64 (y5 : Nat)) (.int .u64 (y6 : Nat)) (.int .u64 (y7 : Nat)))
  have HG9 := Lib.hid (blk_st8 (blk_far8 (c := ub) b3 (by simp) (.int .u64 (x0 : Nat)) (.int .u64 (x1 : Nat)) (.int .u64 (x2 : Nat)) (.int .u64 (x3 : Nat)) (.int .u64 (x4 : Nat)) (.int .u64 (x5 : Nat)) (.int .u64 (x6 : Nat)) (.int .u64 (x7 : Nat))) (.int .u64 (y0 : Nat)) (.int .u64 (y1 : Nat)) (.int .u64 (y2 : Nat)) (.int .u64 (y3 : Nat)) (.int .u64 (y4 : Nat)) (.int .u64 (y5 : Nat)) (.int .u64 (y6 : Nat)) (.int .u64 (y7 : Nat)))
  have HX10 := Lib.hid (ext_st8 (c := ub + 1) (ext_st8 (c := ub) HX9.out hub (.int .u64 (x0 : Nat)) (.int .u64 (x1 : Nat)) (.int .u64 (x2 : Nat)) (.int .u64 (x3 : Nat)) (.int .u64 (x4 : Nat)) (.int .u64 (x5 : Nat)) (.int .u64 (x6 : Nat)) (.int .u64 (x7 : Nat))) (by omega) (.int .u64 (y0 : Nat)) (.int .u64 (y1 : Nat)) (.int .u64 (y2 : Nat)) (.int .u64 (y3 : Nat)) (.int .u64 (y4 : Nat)) (.int .u64 (y5 : Nat)) (.int .u64 (y6 : Nat)) (.int .u64 (y7 : Nat)))
  obtain ⟨c0, c1, c2, c3, c4, c5, c6, c7⟩ := blk8 b0
  obtain ⟨d0, d1, d2, d3, d4, d5, d6, d7⟩ := blk8 b3
  have fu := b0.frozen
  have fg := b3.frozen
  clear b0 b3 HX9
  go_wp2_with fail
  clear c0 c1 c2 c3 c4 c5 c6 c7 d0 d1 d2 d3 d4 d5 d6 d7 fu fg
  generalize ((((((((((((((((w9.setCell ⟨ub, 0, none⟩ (.int .u64 (x0 : Nat))).setCell ⟨ub, 1, none⟩ (.int .u64 (x1 : Nat))).setCell ⟨ub, 2, none⟩ (.int .u64 (x2 : Nat))).setCell ⟨ub, 3, none⟩ (.int .u64 (x3 : Nat))).setCell ⟨ub, 4, none⟩ (.int .u64 (x4 : Nat))).setCell ⟨ub, 5, none⟩ (.int .u64 (x5 : Nat))).setCell ⟨ub, 6, none⟩ (.int .u64 (x6 : Nat))).setCell ⟨ub, 7, none⟩ (.int .u64 (x7 : Nat))).setCell ⟨(ub + 1), 0, none⟩ (.int .u64 (y0 : Nat))).setCell ⟨(ub + 1), 1, none⟩ (.int .u64 (y1 : Nat))).setCell ⟨(ub + 1), 2, none⟩ (.int .u64 (y2 : Nat))).setCell ⟨(ub + 1), 3, none⟩ (.int .u64 (y3 : Nat))).setCell ⟨(ub + 1), 4, none⟩ (.int .u64 (y4 : Nat))).setCell ⟨(ub + 1), 5, none⟩ (.int .u64 (y5 : Nat))).setCell ⟨(ub + 1), 6, none⟩ (.int .u64 (y6 : Nat))).setCell ⟨(ub + 1), 7, none⟩ (.int .u64 (y7 : Nat))) = w10 at *
  obtain ⟨c0, c1, c2, c3, c4, c5, c6, c7⟩ := blk8 HU9.out
  obtain ⟨d0, d1, d2, d3, d4, d5, d6, d7⟩ := blk8 HG9.out
  have hul := HU9.out.lt
  have hgl := HG9.out.lt
  have l0 := later_cell c0 hul
  have l1 := later_cell c1 hul
  have l2 := later_cell c2 hul
  have l3 := later_cell c3 hul
  have l4 := later_cell c4 hul
  have l5 := later_cell c5 hul
  have l6 := later_cell c6 hul
  have l7 := later_cell c7 hul
  have m0 := later_cell d0 hgl
  have m1 := later_cell d1 hgl
  have m2 := later_cell d2 hgl
  have m3 := later_cell d3 hgl
  have m4 := later_cell d4 hgl
  have m5 := later_cell d5 hgl
  have m6 := later_cell d6 hgl
  have m7 := later_cell d7 hgl
  clear c0 c1 c2 c3 c4 c5 c6 c7 d0 d1 d2 d3 d4 d5 d6 d7
  have HR10 := Lib.hid (HR.out.later HX10.out)
  have HW1' := Lib.hid (fun (x : Later w10) => later_call (HW1.out x.w (HR10.out.later x.ext).used))
  have HW2' := Lib.hid (fun (x : Later w10) => later_call (HW2.out x.w (HR10.out.later x.ext).gone))
  refine wp_region_later w10 (by kernel_rfl) (lex_of_quick (by kernel_rfl) (by kernel_rfl)) (Ext.refl _) ?_
  repeat (go_big_quiet_step (first | (go_at_call 40; first | (with_reducible exact HW1'.out _) | (with_reducible exact HW2'.out _))))
  refine wpQuiet_nil ?_
  rintro ⟨w11, hg11⟩
  dsimp only
  clear l0 m0 l1 m1 l2 m2 l3 m3 l4 m4 l5 m5 l6 m6 l7 m7
  go_wp2
  go_ret
  exact ⟨rfl, HX10.out.trans hg11⟩

end Go.Proofs.Ytahabnepjjcgoaa
