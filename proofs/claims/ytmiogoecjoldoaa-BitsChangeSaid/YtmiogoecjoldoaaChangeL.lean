/- The walk of the law BitsChange. -/
import Derived.Test.YtmiogoecjoldoaaFindL
import Derived.Test.YtmiogoecjoldoaaLater
import Derived.Test.YtmiogoecjoldoaaFrame
import Derived.Deep.RegionHeld3
import Derived.Deep.CutBlock
import Derived.Deep.CutRange
namespace Go.Proofs.Ytmiogoecjoldoaa
open Go.RowKit
set_option linter.unusedVariables false

/-! ### the acts -/
structure Acts where
  len : Nat
  x : Nat → Int
  y : Nat → Int
  z : Nat → Int

def ActsAt (W : World) (p : Option Addr) (l : Acts) : Prop := ∀ i, i < l.len → ∃ b off, p = some ⟨b, off, none⟩ ∧ b < W.heap.size ∧
  W.cell? ⟨b, off + i * 3, none⟩ = some (.int .i64 (l.x i)) ∧ W.cell? ⟨b, off + i * 3 + 1, none⟩ = some (.int .i64 (l.y i)) ∧ W.cell? ⟨b, off + i * 3 + 2, none⟩ = some (.int .i64 (l.z i)) ∧
  (Lit.int .i64 (l.x i)).wf = true ∧ (Lit.int .i64 (l.y i)).wf = true ∧ (Lit.int .i64 (l.z i)).wf = true

def ActsIn (W : World) (v : Value) (l : Acts) : Prop := l.len ≤ maxLen ∧ ∃ p cap, v = .slice p l.len cap ∧ ActsAt W p l

theorem open_acts {H : Type} {enc : TypeId × Value → H} {W : World} {base : Nat} {v : Value} {d : DataW H} {p : List MemPlace} (hval : Value.okWide Try.prog W .any base 41 v) (h : DataW.Trod enc Try.prog W 0 (fun _ => true) true 41 v d p) :
    ∃ l : Acts, ActsIn W v l := by
  rcases open_recs (fs := _) Try.underlying41 Try.underlying43 (by kernel_rfl) (by kernel_rfl) (by decide) hval h with hv | ⟨b, off, len, cap, hv, hm, hb, hc⟩
  · exact ⟨⟨0, fun _ => 0, fun _ => 0, fun _ => 0⟩, by simp, none, 0, hv, fun i hi => absurd hi (by simp)⟩
  · have each : ∀ i, i < len → ∃ x : Int × Int × Int, W.cell? ⟨b, off + i * 3, none⟩ = some (.int .i64 x.1) ∧ W.cell? ⟨b, off + i * 3 + 1, none⟩ = some (.int .i64 x.2.1) ∧ W.cell? ⟨b, off + i * 3 + 2, none⟩ = some (.int .i64 x.2.2) ∧ (Lit.int .i64 x.1).wf = true ∧ (Lit.int .i64 x.2.1).wf = true ∧ (Lit.int .i64 x.2.2).wf = true := by
      intro i hi
      obtain ⟨u0, y0, n0, c0, t0⟩ := hc i hi 0 _ rfl
      obtain ⟨u1, y1, n1, c1, t1⟩ := hc i hi 1 _ rfl
      obtain ⟨u2, y2, n2, c2, t2⟩ := hc i hi 2 _ rfl
      obtain ⟨z0, e0, -, f0⟩ := DataW.trod_int Try.underlying3 t0
      obtain ⟨z1, e1, -, f1⟩ := DataW.trod_int Try.underlying3 t1
      obtain ⟨z2, e2, -, f2⟩ := DataW.trod_int Try.underlying3 t2
      simp only [List.cons.injEq, and_true] at e0 e1 e2
      subst e0 e1 e2
      exact ⟨⟨z0, z1, z2⟩, c0, c1, c2, f0, f1, f2⟩
    let f : Nat → Int × Int × Int := fun i => if h : i < len then Classical.choose (each i h) else ⟨0, 0, 0⟩
    refine ⟨⟨len, fun i => (f i).1, fun i => (f i).2.1, fun i => (f i).2.2⟩, hm, some ⟨b, off, none⟩, cap, hv, fun i hi => ?_⟩
    have hf := Classical.choose_spec (each i hi)
    have he : f i = Classical.choose (each i hi) := by simp only [f]; exact dif_pos hi
    rw [← he] at hf
    exact ⟨b, off, rfl, hb, hf⟩



/-- the memory while an act is done. -/
structure Mem (W w : World) (b rb a : Nat) (f f' : Nat → Bool) (x y z : Int) : Prop where
  row : RowAt w b 0 f
  tr : TrueAt w rb 0 f'
  bk : Blk w a 43 #[.int .i64 x, .int .i64 y, .int .i64 z]
  ne : b ≠ rb
  nb : a ≠ b
  nr : a ≠ rb
  ext : Ext W w
  hb : W.heap.size ≤ b
  hr : W.heap.size ≤ rb

section
variable {W w : World} {b rb a : Nat} {f f' : Nat → Bool} {x y z : Int}
theorem Mem.cells (h : Mem W w b rb a f f' x y z) : w.cell? ⟨a, 0, none⟩ = some (.int .i64 x) ∧ w.cell? ⟨a, 1, none⟩ = some (.int .i64 y) ∧ w.cell? ⟨a, 2, none⟩ = some (.int .i64 z) := ⟨h.bk.cell 0, h.bk.cell 1, h.bk.cell 2⟩
theorem Mem.later {w' : World} (h : Mem W w b rb a f f' x y z) (hx : Ext w w') : Mem W w' b rb a f f' x y z :=
  ⟨h.row.later hx, h.tr.later hx, h.bk.later hx, h.ne, h.nb, h.nr, h.ext.trans hx, h.hb, h.hr⟩
theorem Mem.prog {w' : World} {f2 : Nat → Bool} (h : Mem W w b rb a f f' x y z) (hc : RowAt w' b 0 f2) (hx : Chg (· = b) w w') : Mem W w' b rb a f2 f' x y z :=
  ⟨hc, h.tr.chg hx (fun e => h.ne e.symm), h.bk.chg hx h.nb, h.ne, h.nb, h.nr, hx.ext h.ext (fun i hi => by rw [hi]; exact h.hb), h.hb, h.hr⟩
theorem Mem.ref {w' : World} {f2 : Nat → Bool} (h : Mem W w b rb a f f' x y z) (hc : TrueAt w' rb 0 f2) (hx : Chg (· = rb) w w') : Mem W w' b rb a f f2 x y z :=
  ⟨h.row.chg hx h.ne, hc, h.bk.chg hx h.nr, h.ne, h.nb, h.nr, hx.ext h.ext (fun i hi => by rw [hi]; exact h.hr), h.hb, h.hr⟩
theorem mSet (h : Mem W w b rb a f f' x y z) : Calls Try.prog 21 #[.pointer (some ⟨b, 0, none⟩), .int .i64 y, .int .i64 z] w fun r w' => r = .returned (.int .i64 (putE y z)) ∧ Mem W w' b rb a (setF f y z) f' x y z :=
  (set_any b 0 y z f w h.row).mono fun _ _ ⟨h1, h2, h3⟩ => ⟨h1, h.prog h2 h3.chg⟩
theorem mClear (h : Mem W w b rb a f f' x y z) : Calls Try.prog 23 #[.pointer (some ⟨b, 0, none⟩), .int .i64 y, .int .i64 z] w fun r w' => r = .returned (.int .i64 (putE y z)) ∧ Mem W w' b rb a (clrF f y z) f' x y z :=
  (clear_any b 0 y z f w h.row).mono fun _ _ ⟨h1, h2, h3⟩ => ⟨h1, h.prog h2 h3.chg⟩
theorem nSet (h : Mem W w b rb a f f' x y z) : Calls Try.prog 22 #[.pointer (some ⟨rb, 0, none⟩), .int .i64 y, .int .i64 z, .bool true] w fun r w' => r = .returned (.int .i64 (putE y z)) ∧ Mem W w' b rb a f (setF f' y z) x y z := by
  refine (rput_any rb 0 y z true f' w h.tr).mono fun _ _ ⟨h1, h2, h3⟩ => ⟨h1, ?_⟩
  rw [putF_true] at h2
  exact h.ref h2 h3.chg
theorem nClear (h : Mem W w b rb a f f' x y z) : Calls Try.prog 22 #[.pointer (some ⟨rb, 0, none⟩), .int .i64 y, .int .i64 z, .bool false] w fun r w' => r = .returned (.int .i64 (putE y z)) ∧ Mem W w' b rb a f (clrF f' y z) x y z := by
  refine (rput_any rb 0 y z false f' w h.tr).mono fun _ _ ⟨h1, h2, h3⟩ => ⟨h1, ?_⟩
  rw [putF_false] at h2
  exact h.ref h2 h3.chg
end

/-- the memory between two acts. -/
structure Both (W w : World) (b rb : Nat) (f : Nat → Bool) : Prop where
  row : RowAt w b 0 f
  tr : TrueAt w rb 0 f
  ne : b ≠ rb
  ext : Ext W w
  hb : W.heap.size ≤ b
  hr : W.heap.size ≤ rb
theorem Both.box {W w : World} {b rb : Nat} {f : Nat → Bool} (h : Both W w b rb f) (x y z : Int) : Mem W (w.alloc (.cells #[.int .i64 x, .int .i64 y, .int .i64 z] 43)) b rb w.heap.size f f x y z :=
  ⟨h.row.later ((Ext.refl _).alloc _ _), h.tr.later ((Ext.refl _).alloc _ _), Blk.new _ _ _, h.ne, fun e => by have := h.row.lt; omega, fun e => by have := h.tr.lt; omega, h.ext.alloc _ _, h.hb, h.hr⟩
theorem Mem.both {W w : World} {b rb a : Nat} {f : Nat → Bool} {x y z : Int} (h : Mem W w b rb a f f x y z) : Both W w b rb f := ⟨h.row, h.tr, h.ne, h.ext, h.hb, h.hr⟩
theorem Both.later {W w w' : World} {b rb : Nat} {f : Nat → Bool} (h : Both W w b rb f) (hx : Ext w w') : Both W w' b rb f := ⟨h.row.later hx, h.tr.later hx, h.ne, h.ext.trans hx, h.hb, h.hr⟩

theorem row_word {w : World} {b : Nat} {f : Nat → Bool} (h : RowAt w b 0 f) (k : Nat) (hk : k < 8) : w.cell? ⟨b, k, none⟩ = some (.int .u64 (word f k : Nat)) := by
  have := h.cell k hk
  rwa [Nat.zero_add] at this

set_option maxRecDepth 100000 in
set_option maxHeartbeats 4000000 in
theorem change_any (f0 : Nat → Bool) (p : Option Addr) (cap : Nat) (l : Acts) (W : World) (hl : l.len ≤ 200) (hA : ActsAt W p l) :
    Calls Try.prog 7 #[.agg (arr f0), .slice p l.len cap] W fun r w' => r = .returned (.bool true) ∧ Ext W w' := by
  have HA := Lib.hid hA
  have k1 : decide (200 < (l.len : Int)) = false := decide_eq_false (by omega)
  have hz := zeroT_run
  have hst := fun w => run_storeCells_new (P := Try.prog) w 26 (zeroT 512) (arrT f0) (by rw [row_cells, arrT_size]) (by rw [zeroT_size, arrT_size]) (arrT_one f0)
  have hsz := arrT_size f0
  have HO := Lib.hid (boxed_own W f0)
  have HX := Lib.hid (boxed_ext W f0)
  have HOf := Lib.hid (fun w => rof_any f0 w)
  have HR := Lib.hid (fun w b h => @row_of_blk w b 24 f0 h)
  have HT := Lib.hid (fun w b h => @true_of_blk w b 26 f0 h)
  have HB := Lib.hid (fun w => Blk.new w 26 (arrT f0))
  have HXB := Lib.hid (fun w => (Ext.refl w).alloc (arrT f0) 26)
  clear hA
  unfold boxed at HX HO
  unfold arr at HX HO HOf HR ⊢
  generalize word f0 0 = x0 at *
  generalize word f0 1 = x1 at *
  generalize word f0 2 = x2 at *
  generalize word f0 3 = x3 at *
  generalize word f0 4 = x4 at *
  generalize word f0 5 = x5 at *
  generalize word f0 6 = x6 at *
  generalize word f0 7 = x7 at *
  generalize arrT f0 = AT at *
  go_enter Try.func7, Try.ntmps7
  go_wp2_with fail
  refine (HOf.out _).mono ?_
  rintro r w1 ⟨rfl, hx⟩
  have HO1 := Lib.hid (HO.out.later hx)
  have HX1 := Lib.hid (HX.out.trans hx)
  have hg1 : Hid (W.heap.size + 1 < w1.heap.size) := Lib.hid HO1.out.lt
  clear hx HO HX HOf k1
  go_wp2_with fail
  have HF := Lib.hid (show Both W _ (W.heap.size + 1) w1.heap.size f0 from ⟨HR.out _ _ (HO1.out.later (HXB.out w1)), HT.out _ _ (HB.out w1), by have := hg1.out; omega, HX1.out.trans (HXB.out w1), by omega, by have := hg1.out; omega⟩)
  clear HO1 HX1 HXB HB HT HR hst hz hsz
  generalize w1.heap.size = q at *
  generalize w1.alloc _ = w2 at *
  generalize W.heap.size + 1 = g at *
  go_loopw [7] (fun vk wr => ∃ (k : Nat) (f : Nat → Bool), vk = .int .i64 k ∧ k ≤ l.len ∧ Hid (Both W wr g q f)) (fun vk _ => l.len - (intOf vk).toNat)
  case atStart => exact ⟨0, f0, rfl, by omega, HF⟩
  case round =>
    obtain ⟨k, f, rfl, hk, hF⟩ := hrel
    clear HF
    by_cases hlt : k < l.len
    · obtain ⟨b0, off, rfl, hb0, c0, c1, c2, fx, fy, fz⟩ := HA.out k hlt
      have c0 := (hF.out.ext.cell _ _ hb0).trans c0
      have c1 := (hF.out.ext.cell _ _ hb0).trans c1
      have c2 := (hF.out.ext.cell _ _ hb0).trans c2
      clear fx fy fz
      generalize l.x k = x at *
      generalize l.y k = y at *
      generalize l.z k = z at *
      have HM := Lib.hid (hF.out.box x y z)
      clear hF
      have hway : (x == 1) = true ∨ (x == 1) = false := by cases (x == 1) <;> simp
      rcases hway with hx1 | hx1
      · go_wp2_with fail
        clear c0 c1 c2
        generalize wr.heap.size = a at *
        generalize wr.alloc _ = w3 at *
        have HP1 := Lib.hid (fun w (h : Mem W w g q a f f x y z) => mSet h)
        have HP2 := Lib.hid (fun w (h : Mem W w g q a f (setF f y z) x y z) => mSet h)
        have HN1 := Lib.hid (fun w (h : Mem W w g q a f f x y z) => nSet h)
        have HN2 := Lib.hid (fun w (h : Mem W w g q a (setF f y z) f x y z) => nSet h)
        have HRd := Lib.hid (HM.out.later (Ext.refl _).drew)
        obtain ⟨c0, c1, c2⟩ := HM.out.cells
        clear HM
        generalize setF f y z = f2 at *
        generalize putE y z = pe at *
        go_region_held3 (fun w' => w'.cell? ⟨a, 1, none⟩ = some (.int .i64 y) ∧ w'.cell? ⟨a, 2, none⟩ = some (.int .i64 z)) (go_keep) (first
          | (go_at_call 21; refine (HP2.out _ HR1.out).mono ?_; rintro r w6 ⟨rfl, hm⟩; have HF := Lib.hid hm; obtain ⟨b3, b4, b5⟩ := hm.cells; clear hm)
          | (go_at_call 21; refine (HP1.out _ HRd.out).mono ?_; rintro r w5 ⟨rfl, hm⟩; have HQ1 := Lib.hid hm; obtain ⟨a3, a4, a5⟩ := hm.cells; clear hm)
          | (go_at_call 22; refine (HN2.out _ HQ1.out).mono ?_; rintro r w6 ⟨rfl, hm⟩; have HF := Lib.hid hm; obtain ⟨b3, b4, b5⟩ := hm.cells; clear hm)
          | (go_at_call 22; refine (HN1.out _ HRd.out).mono ?_; rintro r w5 ⟨rfl, hm⟩; have HR1 := Lib.hid hm; obtain ⟨a3, a4, a5⟩ := hm.cells; clear hm))
        all_goals
          clear HRd HP1 HP2 HN1 HN2
          have hal := HF.out.bk.lt
          have l1 := later_cell b4 hal
          have l2 := later_cell b5 hal
          have HC1 := Lib.hid (fun (v : Later w6) => later_call (count_any g 0 y z f2 v.w (HF.out.row.later v.ext)))
          have HC2 := Lib.hid (fun (v : Later w6) => later_same (rcount_any q 0 y z f2 v.w (HF.out.tr.later v.ext)))
          generalize cntF f2 y z = cn at *
          clear b3 b4 b5 hal
          go_wp2_with fail
          refine wp_region_later w6 (by kernel_rfl) (by kernel_rfl) (Ext.refl _) ?_
          repeat (go_big_quiet_step (first | (go_at_call 15; exact HC1.out _) | (go_at_call 16; exact HC2.out _)))
          refine wpQuiet_nil ?_
          rintro ⟨w7, hg7⟩
          dsimp only
          have HF7 := Lib.hid (HF.out.both.later hg7)
          clear l1 l2 HC1 HC2 hg7 HF
          go_wp2_with fail
          go_roundw
          case rel => exact ⟨k + 1, f2, by go_num, by omega, HF7⟩
          case measure => simp [intOf]; omega
      · go_wp2_with fail
        clear c0 c1 c2
        generalize wr.heap.size = a at *
        generalize wr.alloc _ = w3 at *
        have HP1 := Lib.hid (fun w (h : Mem W w g q a f f x y z) => mClear h)
        have HP2 := Lib.hid (fun w (h : Mem W w g q a f (clrF f y z) x y z) => mClear h)
        have HN1 := Lib.hid (fun w (h : Mem W w g q a f f x y z) => nClear h)
        have HN2 := Lib.hid (fun w (h : Mem W w g q a (clrF f y z) f x y z) => nClear h)
        have HRd := Lib.hid (HM.out.later (Ext.refl _).drew)
        obtain ⟨c0, c1, c2⟩ := HM.out.cells
        clear HM
        generalize clrF f y z = f2 at *
        generalize putE y z = pe at *
        go_region_held3 (fun w' => w'.cell? ⟨a, 1, none⟩ = some (.int .i64 y) ∧ w'.cell? ⟨a, 2, none⟩ = some (.int .i64 z)) (go_keep) (first
          | (go_at_call 23; refine (HP2.out _ HR1.out).mono ?_; rintro r w6 ⟨rfl, hm⟩; have HF := Lib.hid hm; obtain ⟨b3, b4, b5⟩ := hm.cells; clear hm)
          | (go_at_call 23; refine (HP1.out _ HRd.out).mono ?_; rintro r w5 ⟨rfl, hm⟩; have HQ1 := Lib.hid hm; obtain ⟨a3, a4, a5⟩ := hm.cells; clear hm)
          | (go_at_call 22; refine (HN2.out _ HQ1.out).mono ?_; rintro r w6 ⟨rfl, hm⟩; have HF := Lib.hid hm; obtain ⟨b3, b4, b5⟩ := hm.cells; clear hm)
          | (go_at_call 22; refine (HN1.out _ HRd.out).mono ?_; rintro r w5 ⟨rfl, hm⟩; have HR1 := Lib.hid hm; obtain ⟨a3, a4, a5⟩ := hm.cells; clear hm))
        all_goals
          clear HRd HP1 HP2 HN1 HN2
          have hal := HF.out.bk.lt
          have l1 := later_cell b4 hal
          have l2 := later_cell b5 hal
          have HC1 := Lib.hid (fun (v : Later w6) => later_call (count_any g 0 y z f2 v.w (HF.out.row.later v.ext)))
          have HC2 := Lib.hid (fun (v : Later w6) => later_same (rcount_any q 0 y z f2 v.w (HF.out.tr.later v.ext)))
          generalize cntF f2 y z = cn at *
          clear b3 b4 b5 hal
          go_wp2_with fail
          refine wp_region_later w6 (by kernel_rfl) (by kernel_rfl) (Ext.refl _) ?_
          repeat (go_big_quiet_step (first | (go_at_call 15; exact HC1.out _) | (go_at_call 16; exact HC2.out _)))
          refine wpQuiet_nil ?_
          rintro ⟨w7, hg7⟩
          dsimp only
          have HF7 := Lib.hid (HF.out.both.later hg7)
          clear l1 l2 HC1 HC2 hg7 HF
          go_wp2_with fail
          go_roundw
          case rel => exact ⟨k + 1, f2, by go_num, by omega, HF7⟩
          case measure => simp [intOf]; omega
    · go_wp2_with fail
      obtain ⟨wo, rfl⟩ : ∃ wo : World, wo = wr := ⟨_, rfl⟩
      go_loop [11] (fun vi => ∃ i : Int, vi = .int .i64 i ∧ -1 ≤ i ∧ i ≤ 514) (fun vi => (514 - intOf vi).toNat)
      case atStart => exact ⟨-1, rfl, by omega, by omega⟩
      case round =>
        obtain ⟨i, rfl, hi1, hi2⟩ := hrel
        by_cases h514 : i < 514
        · by_cases h0 : i < 0
          · have HG := Lib.hid (get_any g 0 i f wo hF.out.row)
            rw [show getB f i = false by unfold getB; rw [decide_eq_false (by omega)]; rfl] at HG
            have q1 : decide (0 ≤ i) = false := decide_eq_false (by omega)
            go_wp2_with (go_at_call 20; refine HG.out.mono ?_; rintro r w8 ⟨rfl, rfl⟩)
            go_round
            case rel => exact ⟨i + 1, rfl, by omega, by omega⟩
            case measure => simp [intOf]; omega
          · by_cases h5 : i < 512
            · obtain ⟨j, rfl⟩ : ∃ j : Nat, i = j := ⟨i.toNat, by omega⟩
              have HG := Lib.hid (get_in g 0 j f wo (by omega) hF.out.row)
              have hc := hF.out.tr.cell j (by omega)
              rw [Nat.zero_add] at hc
              generalize f j = bv at *
              cases bv
              all_goals
                go_wp2_with (go_at_call 20; refine HG.out.mono ?_; rintro r w8 ⟨rfl, rfl⟩)
                go_round
                case rel => exact ⟨(j : Int) + 1, rfl, by omega, by omega⟩
                case measure => simp [intOf]; omega
            · have HG := Lib.hid (get_any g 0 i f wo hF.out.row)
              rw [show getB f i = false by unfold getB; rw [decide_eq_false (by omega)]; rfl] at HG
              have q1 : decide (i < 512) = false := decide_eq_false (by omega)
              go_wp2_with (go_at_call 20; refine HG.out.mono ?_; rintro r w8 ⟨rfl, rfl⟩)
              go_round
              case rel => exact ⟨i + 1, rfl, by omega, by omega⟩
              case measure => simp [intOf]; omega
        · have HW := Lib.hid (fun (v : Later wo) => later_call (rwords_any q 0 f v.w (hF.out.tr.later v.ext)))
          have c0 := row_word hF.out.row 0 (by omega)
          have c1 := row_word hF.out.row 1 (by omega)
          have c2 := row_word hF.out.row 2 (by omega)
          have c3 := row_word hF.out.row 3 (by omega)
          have c4 := row_word hF.out.row 4 (by omega)
          have c5 := row_word hF.out.row 5 (by omega)
          have c6 := row_word hF.out.row 6 (by omega)
          have c7 := row_word hF.out.row 7 (by omega)
          have hgl := hF.out.row.lt
          have HX := Lib.hid hF.out.ext
          unfold arr at HW
          generalize word f 0 = z0 at *
          generalize word f 1 = z1 at *
          generalize word f 2 = z2 at *
          generalize word f 3 = z3 at *
          generalize word f 4 = z4 at *
          generalize word f 5 = z5 at *
          generalize word f 6 = z6 at *
          generalize word f 7 = z7 at *
          have l0 := later_cell c0 hgl
          have l1 := later_cell c1 hgl
          have l2 := later_cell c2 hgl
          have l3 := later_cell c3 hgl
          have l4 := later_cell c4 hgl
          have l5 := later_cell c5 hgl
          have l6 := later_cell c6 hgl
          have l7 := later_cell c7 hgl
          have e1 := fun w => words_same z0 z1 z2 z3 z4 z5 z6 z7 w
          clear c0 c1 c2 c3 c4 c5 c6 c7 hF
          go_wp2_with fail
          refine wp_region_later wo (by kernel_rfl) (by kernel_rfl) (Ext.refl _) ?_
          repeat (go_big_quiet_step (first | (go_at_call 24; exact HW.out _) | (go_at_call 19; exact later_call (awake_any _))))
          refine wpQuiet_nil ?_
          rintro ⟨w7, hg7⟩
          dsimp only
          clear l0 l1 l2 l3 l4 l5 l6 l7
          go_wp2
          go_ret
          exact ⟨rfl, HX.out.trans hg7⟩

theorem change_out (f0 : Nat → Bool) (p : Option Addr) (len cap : Nat) (W : World) (hm : len ≤ 9223372036854775807) (h : 200 < len) :
    Calls Try.prog 7 #[.agg (arr f0), .slice p len cap] W fun r w' => r = .returned (.bool true) ∧ Ext W w' := by
  have k1 : decide (200 < (len : Int)) = true := decide_eq_true (by omega)
  unfold arr
  go_enter Try.func7, Try.ntmps7
  go_wp2
  go_ret
  exact ⟨rfl, (Ext.refl _).alloc _ _⟩

theorem walk_BitsChange {W : World} (v : Value) (f : Nat → Bool) (hv : v = .agg (arr f)) (v' : Value) (l : Acts) (hl : ActsIn W v' l) :
    Calls Try.prog 7 #[v, v'] W fun r w' => r = .returned (.bool true) ∧ Ext W w' := by
  subst hv
  obtain ⟨hm, p, cap, rfl, hA⟩ := hl
  unfold maxLen at hm
  by_cases h : 200 < l.len
  · exact change_out f p l.len cap W hm h
  · exact change_any f p cap l W (by omega) hA

end Go.Proofs.Ytmiogoecjoldoaa
