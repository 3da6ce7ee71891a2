/- The contracts of package chunk: taken, Scavenge, Sum. -/
import Derived.Test.YtahabnepjjcgoaaChunk
namespace Go.Proofs.Ytahabnepjjcgoaa
open Go.RowKit
set_option linter.unusedVariables false

def orB (u g : Nat → Bool) : Nat → Bool := fun j => u j || g j
def mixB (u g : Nat → Bool) (k : Nat) : Nat → Bool := fun j => u j || (decide (j < 64 * k) && g j)

theorem word_mix (u g : Nat → Bool) (k : Nat) : word (mixB u g k) k ||| word g k = word (mixB u g (k + 1)) k := by
  refine eq_word (Nat.or_lt_two_pow (word_lt _ k) (word_lt g k)) fun j hj => ?_
  rw [Nat.testBit_or, word_bit _ k j hj, word_bit g k j hj]
  unfold mixB
  rw [decide_eq_false (by omega), decide_eq_true (show 64 * k + j < 64 * (k + 1) by omega)]
  simp
theorem mix_zero (u g : Nat → Bool) : mixB u g 0 = u := by funext j; unfold mixB; simp
theorem mix_full (u g : Nat → Bool) : ∀ j, j < 512 → mixB u g 8 j = orB u g j := fun j hj => by unfold mixB orB; rw [decide_eq_true (show j < 64 * 8 by omega), Bool.true_and]

/-- the memory while pages are gathered. -/
structure TRel (w wr : World) (b : Nat) (u g : Nat → Bool) (k : Nat) : Prop where
  res : Blk wr w.heap.size 39 #[.int .u64 0, .int .u64 0, .int .u64 0, .int .u64 0, .int .u64 0, .int .u64 0, .int .u64 0, .int .u64 0]
  row : RowAt wr (w.heap.size + 1) 0 (mixB u g k)
  chunk : ChunkAt wr b u g
  ext : Ext w wr

theorem TRel.step {w wr : World} {b : Nat} {u g : Nat → Bool} {k : Nat} (h : TRel w wr b u g k) (hb : b < w.heap.size) (hk : k < 8) :
    TRel w (wr.drew.setCell ⟨w.heap.size + 1, k, none⟩ (.int .u64 (word (mixB u g k) k ||| word g k : Nat))) b u g (k + 1) := by
  have hc : Chg (· = w.heap.size + 1) wr (wr.drew.setCell ⟨w.heap.size + 1, k, none⟩ (.int .u64 (word (mixB u g k) k ||| word g k : Nat))) := (Chg.refl (· = w.heap.size + 1) wr).drew.setCell (p := ⟨w.heap.size + 1, k, none⟩) (.inl rfl) _
  refine ⟨h.res.chg hc (by omega), ⟨?_, fun j hj => ?_, fun j => (hc.frozen _).trans (h.row.frozen j)⟩, h.chunk.chg hc (by omega), hc.ext h.ext (fun i hi => by omega)⟩
  · exact Nat.lt_of_lt_of_le h.row.lt hc.size
  · rw [Nat.zero_add]
    have h0 := h.row.cell j hj
    rw [Nat.zero_add] at h0
    by_cases e : k = j
    · subst e
      rw [set_same (w := wr.drew) h0, word_mix]
    · rw [set_other (ne_off e)]
      refine (show wr.drew.cell? _ = _ from h0).trans ?_
      rw [word_congr (f := mixB u g k) (g := mixB u g (k + 1)) fun x hx => ?_]
      unfold mixB
      congr 2
      rw [decide_eq_decide]; omega

set_option maxRecDepth 20000 in
set_option maxHeartbeats 1000000 in
theorem taken_any (b : Nat) (u g : Nat → Bool) (w : World) (h : ChunkAt w b u g) :
    Calls Try.prog 28 #[.pointer (some ⟨b, 0, none⟩)] w fun r w' => r = .returned (.agg (arr (orB u g))) ∧ Ext w w' := by
  have HH := Lib.hid h
  have hlt := h.used.lt
  have c0 := h.used.cell 0 (by omega)
  have c1 := h.used.cell 1 (by omega)
  have c2 := h.used.cell 2 (by omega)
  have c3 := h.used.cell 3 (by omega)
  have c4 := h.used.cell 4 (by omega)
  have c5 := h.used.cell 5 (by omega)
  have c6 := h.used.cell 6 (by omega)
  have c7 := h.used.cell 7 (by omega)
  simp only [Nat.zero_add] at c0 c1 c2 c3 c4 c5 c6 c7
  have HS : Hid (TRel w ((w.alloc (.cells #[.int .u64 0, .int .u64 0, .int .u64 0, .int .u64 0, .int .u64 0, .int .u64 0, .int .u64 0, .int .u64 0] 39)).alloc (.cells (arr u) 39)) b u g 0) := Lib.hid (by
    have hx : Ext w ((w.alloc (.cells #[.int .u64 0, .int .u64 0, .int .u64 0, .int .u64 0, .int .u64 0, .int .u64 0, .int .u64 0, .int .u64 0] 39)).alloc (.cells (arr u) 39)) := ((Ext.refl w).alloc _ _).alloc _ _
    refine ⟨(Blk.new w _ _).alloc _, ?_, h.later hx, hx⟩
    rw [mix_zero]
    have := Blk.new (w.alloc (.cells #[.int .u64 0, .int .u64 0, .int .u64 0, .int .u64 0, .int .u64 0, .int .u64 0, .int .u64 0, .int .u64 0] 39)) 39 (arr u)
    simp only [World.size_alloc] at this
    exact row_of_blk this)
  unfold arr at HS
  clear h
  go_enter Try.func28, Try.ntmps28
  go_wp2_with fail
  go_loopw [9] (fun vi wr => ∃ k : Nat, k ≤ 8 ∧ vi = .int .i64 k ∧ Hid (TRel w wr b u g k)) (fun vi _ => 8 - (intOf vi).toNat)
  case atStart => exact ⟨0, by omega, rfl, HS⟩
  case round =>
    obtain ⟨k, hk, rfl, hR⟩ := hrel
    clear HS c0 c1 c2 c3 c4 c5 c6 c7
    by_cases hlt8 : k < 8
    · have a0 := hR.out.row.cell k hlt8
      have a1 := hR.out.chunk.gone.cell k hlt8
      rw [Nat.zero_add] at a0
      have ff := hR.out.row.frozen
      have HN := Lib.hid (hR.out.step hlt hlt8)
      have HE := Lib.hid (u64_or_nat' (word (mixB u g k) k) (word g k) (word_lt _ k) (word_lt g k))
      have hne : b ≠ w.heap.size + 1 := by omega
      clear hR
      generalize word (mixB u g k) k = x at *
      generalize word g k = y at *
      go_wp2_with fail
      refine wp_region_head 11 (by kernel_rfl) (by kernel_rfl) ?_
      simp only [List.take_succ_cons, List.take_zero, List.drop_succ_cons, List.drop_zero]
      repeat (go_big_quiet_step (fail))
      refine wpQuiet_nil ?_
      rw [HE.out]
      go_wp2_with fail
      go_roundw
      case rel => exact ⟨k + 1, hlt8, by go_num, HN⟩
      case measure => simp [intOf]; omega
    · obtain rfl : k = 8 := by omega
      have HV := Lib.hid (show RowAt wr (w.heap.size + 1) 0 (orB u g) from hR.out.row.congr (mix_full u g))
      have d0 := HV.out.cell 0 (by omega)
      have d1 := HV.out.cell 1 (by omega)
      have d2 := HV.out.cell 2 (by omega)
      have d3 := HV.out.cell 3 (by omega)
      have d4 := HV.out.cell 4 (by omega)
      have d5 := HV.out.cell 5 (by omega)
      have d6 := HV.out.cell 6 (by omega)
      have d7 := HV.out.cell 7 (by omega)
      simp only [Nat.zero_add] at d0 d1 d2 d3 d4 d5 d6 d7
      have e0 := hR.out.res.cell 0
      have e1 := hR.out.res.cell 1
      have e2 := hR.out.res.cell 2
      have e3 := hR.out.res.cell 3
      have e4 := hR.out.res.cell 4
      have e5 := hR.out.res.cell 5
      have e6 := hR.out.res.cell 6
      have e7 := hR.out.res.cell 7
      simp only [List.getElem?_toArray, List.getElem?_cons_succ, List.getElem?_cons_zero] at e0 e1 e2 e3 e4 e5 e6 e7
      have fr := hR.out.res.frozen
      have HX := Lib.hid hR.out.ext
      have HA := Lib.hid (show arr (orB u g) = #[.int .u64 (word (orB u g) 0 : Nat), .int .u64 (word (orB u g) 1 : Nat), .int .u64 (word (orB u g) 2 : Nat), .int .u64 (word (orB u g) 3 : Nat), .int .u64 (word (orB u g) 4 : Nat), .int .u64 (word (orB u g) 5 : Nat), .int .u64 (word (orB u g) 6 : Nat), .int .u64 (word (orB u g) 7 : Nat)] from rfl)
      clear hR HV hlt8 hk
      generalize word (orB u g) 0 = x0 at *
      generalize word (orB u g) 1 = x1 at *
      generalize word (orB u g) 2 = x2 at *
      generalize word (orB u g) 3 = x3 at *
      generalize word (orB u g) 4 = x4 at *
      generalize word (orB u g) 5 = x5 at *
      generalize word (orB u g) 6 = x6 at *
      generalize word (orB u g) 7 = x7 at *
      go_wp2
      refine bodyPost_ret (v := .agg #[.int .u64 (x0 : Nat), .int .u64 (x1 : Nat), .int .u64 (x2 : Nat), .int .u64 (x3 : Nat), .int .u64 (x4 : Nat), .int .u64 (x5 : Nat), .int .u64 (x6 : Nat), .int .u64 (x7 : Nat)]) (by simp [results, Try.results28, go_sem, e0, e1, e2, e3, e4, e5, e6, e7]) rfl ⟨by rw [HA.out], ?_⟩
      exact ((((((((HX.out.setCell (by simp) _).setCell (by simp) _).setCell (by simp) _).setCell (by simp) _).setCell (by simp) _).setCell (by simp) _).setCell (by simp) _).setCell (by simp) _)

/-- what Scavenge releases. -/
def scavI (u g : Nat → Bool) (most : Int) : Int := (lastI (orB u g) most 512 : Nat)
def scavN (u g : Nat → Bool) (most : Int) : Int := (lastN (orB u g) most 512 : Nat)

theorem scav_any (b : Nat) (u g : Nat → Bool) (most : Int) (w : World) (h : ChunkAt w b u g) (hm : most ≤ 9223372036854775807) :
    Calls Try.prog 17 #[.pointer (some ⟨b, 0, none⟩), .int .i64 most] w fun r w' =>
      r = .returned (.tuple #[.int .i64 (scavI u g most), .int .i64 (scavN u g most)]) ∧ ChunkAt w' b u (setF g (scavI u g most) (scavN u g most)) ∧ Chg (· = b) w w' := by
  have HT := Lib.hid (taken_any b u g w h)
  have HH := Lib.hid h
  have HRow : Hid (∀ w1 : World, RowAt (w1.alloc (.cells (arr (orB u g)) 39)) w1.heap.size 0 (orB u g)) := Lib.hid (fun w1 => row_of_blk (Blk.new w1 _ _))
  have HM := Lib.hid hm
  clear h hm
  unfold scavI scavN
  unfold arr at HT HRow
  generalize word (orB u g) 0 = x0 at *
  generalize word (orB u g) 1 = x1 at *
  generalize word (orB u g) 2 = x2 at *
  generalize word (orB u g) 3 = x3 at *
  generalize word (orB u g) 4 = x4 at *
  generalize word (orB u g) 5 = x5 at *
  generalize word (orB u g) 6 = x6 at *
  generalize word (orB u g) 7 = x7 at *
  go_enter Try.func17, Try.ntmps17
  go_wp2_with fail
  refine HT.out.mono ?_
  rintro r w1 ⟨rfl, hx⟩
  have HX1 := Lib.hid hx
  clear hx
  go_wp2_with fail
  refine (last_any w1.heap.size 0 most 512 (orB u g) _ (HRow.out w1) HM.out).mono ?_
  rintro r w2 ⟨rfl, hw2⟩
  rw [← hw2]
  clear hw2
  have HC2 := Lib.hid (HH.out.later (HX1.out.alloc #[.int .u64 (x0 : Nat), .int .u64 (x1 : Nat), .int .u64 (x2 : Nat), .int .u64 (x3 : Nat), .int .u64 (x4 : Nat), .int .u64 (x5 : Nat), .int .u64 (x6 : Nat), .int .u64 (x7 : Nat)] 39))
  have HX2 := Lib.hid (HX1.out.alloc #[.int .u64 (x0 : Nat), .int .u64 (x1 : Nat), .int .u64 (x2 : Nat), .int .u64 (x3 : Nat), .int .u64 (x4 : Nat), .int .u64 (x5 : Nat), .int .u64 (x6 : Nat), .int .u64 (x7 : Nat)] 39)
  go_wp2_with fail
  refine (set_any b 8 _ _ g _ HC2.out.gone).mono ?_
  rintro r w3 ⟨rfl, hr, hc⟩
  have HU3 := Lib.hid (HC2.out.used.beside hc (by omega))
  have HG3 := Lib.hid hr
  have HX3 := Lib.hid ((Chg.of_ext HX2.out (· = b)).trans hc.chg (fun _ h => .inl h))
  clear hr hc
  go_wp2_with fail
  go_ret2
  exact ⟨rfl, ⟨HU3.out, HG3.out⟩, HX3.out⟩

theorem csum_any (b : Nat) (u g : Nat → Bool) (w : World) (h : ChunkAt w b u g) :
    Calls Try.prog 20 #[.pointer (some ⟨b, 0, none⟩)] w fun r w' => r = .returned (sumV u) ∧ Ext w w' := by
  have hx : Ext w (w.alloc (.cells #[.int .i64 0, .int .i64 0, .int .i64 0] 48)) := (Ext.refl w).alloc _ _
  have HS := Lib.hid (sum_any b 0 u _ (h.used.later hx))
  have HB := Lib.hid (Blk.new w 48 #[.int .i64 0, .int .i64 0, .int .i64 0])
  have HX := Lib.hid hx
  clear h hx
  unfold sumV at HS ⊢
  generalize startS u 512 = s at *
  generalize maxS u 512 = m at *
  generalize endS u 512 = e at *
  go_enter Try.func20, Try.ntmps20
  go_wp2_with fail
  refine HS.out.mono ?_
  rintro r w1 ⟨rfl, hx⟩
  have hb := HB.out.later hx
  have e0 := hb.cell 0
  have e1 := hb.cell 1
  have e2 := hb.cell 2
  simp only [List.getElem?_toArray, List.getElem?_cons_succ, List.getElem?_cons_zero] at e0 e1 e2
  have fr := hb.frozen
  have HX1 := Lib.hid (HX.out.trans hx)
  clear hb hx
  go_wp2
  refine bodyPost_ret (v := .agg #[.int .i64 (s : Nat), .int .i64 (m : Nat), .int .i64 (e : Nat)]) (by simp [results, Try.results20, go_sem, e0, e1, e2]) rfl ⟨rfl, ?_⟩
  exact ((HX1.out.setCell (by simp) _).setCell (by simp) _).setCell (by simp) _

end Go.Proofs.Ytahabnepjjcgoaa
