/- The contract of the reference's Merge. -/
import Derived.Test.YtbfnadfbanhgcaaRefRight
import Derived.BigRegion
import Derived.Test.YtbfnadfbanhgcaaOther
import Derived.Deep.QuietTactic
import Derived.BigQuiet
import Derived.RegionTactic
namespace Go.Proofs.Ytbfnadfbanhgcaa
open Go.RowKit
set_option linter.unusedVariables false

theorem MInv.drewN {w : World} {B0 B1 b off : Nat} {l : List Sm} {o : Sm} {wr : World} (h : MInv w B0 B1 b off l o wr) (n : Nat) : MInv w B0 B1 b off l o (wr.drewN n) := h.later ((Ext.refl _).drewN n)
theorem MInv.drew {w : World} {B0 B1 b off : Nat} {l : List Sm} {o : Sm} {wr : World} (h : MInv w B0 B1 b off l o wr) : MInv w B0 B1 b off l o wr.drew := h.later ((Ext.refl _).drew)

theorem iff_no {q : Prop} (h : ¬ q) : Hid (false = true ↔ q) := Lib.hid ⟨(fun e => nomatch e), (fun e => absurd e h)⟩
theorem iff_yes {q : Prop} (h : q) : Hid (true = true ↔ q) := Lib.hid ⟨fun _ => h, fun _ => rfl⟩

theorem rmerge_no (v : Value) (l : List Sm) (p : Int) (w : World) (h : SlAt w v l) (hr : rightsB l p = false) :
    Calls Try.prog 12 #[v, .int .i64 p] w fun r w' => r = .returned (.tuple #[.agg #[.int .i64 0, .int .i64 0, .int .i64 0], .int .i64 1]) ∧ Ext w w' := by
  have H := Lib.hid h
  clear h
  go_enter Try.func12, Try.ntmps12
  go_wp2_with fail
  refine (rrights_any _ l _ _ (H.out.ext ((Ext.refl _).alloc _ _))).mono ?_
  rintro e w1 ⟨rfl, hg⟩
  obtain ⟨q0, q1, q2, f, hz⟩ := hg.new3
  have hx := (Ext.refl w).alloc #[.int .i64 0, .int .i64 0, .int .i64 0] 25 |>.trans hg
  clear hg
  go_wp2
  refine bodyPost_ret (v := .tuple #[.agg #[.int .i64 0, .int .i64 0, .int .i64 0], .int .i64 1]) (by simp [results, Try.results12, go_sem, q0, q1, q2, f]) rfl ⟨rfl, ?_⟩
  exact ((hx.setCell (Nat.le_refl _) _).setCell (Nat.le_refl _) _).setCell (Nat.le_refl _) _

theorem rmerge_nil (p : Int) (w : World) (hr : rightsB [] p = true) :
    Calls Try.prog 12 #[.slice none 0 0, .int .i64 p] w fun r w' => r = .returned (.tuple #[.agg #[.int .i64 0, .int .i64 0, .int .i64 0], .int .i64 0]) ∧ Ext w w' := by
  have H : ∀ w, SlAt w (.slice none 0 0) [] := fun w => Or.inl ⟨rfl, rfl⟩
  have H := Lib.hid H
  go_enter Try.func12, Try.ntmps12
  go_wp2_with fail
  refine (rrights_any _ [] _ _ (H.out _)).mono ?_
  rintro e w1 ⟨rfl, hg⟩
  obtain ⟨q0, q1, q2, f, hz⟩ := hg.new3
  have hx := (Ext.refl w).alloc #[.int .i64 0, .int .i64 0, .int .i64 0] 25 |>.trans hg
  have HX := Lib.hid hx
  clear hg hx
  go_wp2
  refine wp_loop_rounds 1 ?_
  rw [rounds_succ]
  go_wp2
  refine bodyPost_ret (v := .tuple #[.agg #[.int .i64 0, .int .i64 0, .int .i64 0], .int .i64 0]) (by simp [results, Try.results12, go_sem, q0, q1, q2, f, Nat.ne_of_lt hz, hz]) rfl ⟨rfl, ?_⟩
  exact (((HX.out.setCell (Nat.le_refl _) _).setCell (Nat.le_refl _) _).setCell (Nat.le_refl _) _).alloc _ _

set_option maxHeartbeats 4000000 in
theorem rmerge_yes (b off cap : Nat) (l : List Sm) (p : Int) (w : World) (hb : b < w.heap.size) (h : SumsAt w b off l) (hr : rightsB l p = true) (hp : 1 ≤ p) (hp2 : p ≤ 2097152) (hl : l.length ≤ 64) :
    Calls Try.prog 12 #[.slice (some ⟨b, off, none⟩) l.length cap, .int .i64 p] w fun r w' => r = .returned (.tuple #[(mergeTo p l l.length).val, .int .i64 0]) ∧ Ext w w' := by
  have H : Hid (SlAt w (.slice (some ⟨b, off, none⟩) l.length cap) l) := Lib.hid (Or.inr ⟨b, off, cap, rfl, hb, h⟩)
  have HO := Lib.hid (ok_of hr)
  have HF := Lib.hid (fit_of hr)
  have HC := Lib.hid h
  have HM := Lib.hid (merge_whole hr)
  have HN := Lib.hid (whole_next hr)
  clear h
  go_enter Try.func12, Try.ntmps12
  go_wp2_with fail
  refine (rrights_any _ l _ _ (H.out.ext ((Ext.refl _).alloc _ _))).mono ?_
  rintro e w1 ⟨rfl, hg⟩
  obtain ⟨q0, q1, q2, f, hz⟩ := hg.new3
  have hx := (Ext.refl w).alloc #[.int .i64 0, .int .i64 0, .int .i64 0] 25 |>.trans hg
  clear hg
  go_wp2
  go_loopw [7, 8, 9] (fun run whole i wr => ∃ (k : Nat) (B : Bool), k ≤ l.length ∧ run = .int .i64 (mergeTo p l k).e ∧ whole = .bool B ∧ i = .int .i64 k ∧ Hid (B = true ↔ (mergeTo p l k).s = k * p) ∧ MInv w w.heap.size w1.heap.size b off l ⟨(mergeTo p l k).s, (mergeTo p l k).m, 0⟩ wr) (fun _ _ i _ => l.length - (intOf i).toNat)
  case atStart =>
    have hx2 := (Ext.refl w1).alloc #[.int .i64 0, .int .i64 0, .int .i64 0] 25
    obtain ⟨r0, r1, r2, g, hz2⟩ := Ext.new3 (Ext.refl (w1.alloc (.cells #[.int .i64 0, .int .i64 0, .int .i64 0] 25)))
    exact ⟨0, true, Nat.zero_le _, rfl, rfl, rfl, Lib.hid (by simp [mergeTo]), { ext := hx.trans hx2, hB0 := Nat.le_refl _, hB := hz, size := hz2, hb := hb, sums := (HC.out.ext hb hx).ext (by omega) hx2, a0 := (hx2.cell _ _ hz).trans q0, a1 := (hx2.cell _ _ hz).trans q1, a2 := (hx2.cell _ _ hz).trans q2, o0 := r0, o1 := r1, o2 := r2, fa := fun j => (hx2.frozen _).trans (f j), fo := g }⟩
  case round =>
    obtain ⟨k, B, hk, rfl, rfl, rfl, hB, inv⟩ := hrel
    have a0 := inv.a0
    have a1 := inv.a1
    have a2 := inv.a2
    have fa := inv.fa
    have fo := inv.fo
    have o0 := inv.o0
    have o1 := inv.o1
    have o2 := inv.o2
    have hzr := inv.size
    by_cases hlt : k < l.length
    · obtain ⟨c1, c2, c3⟩ := inv.sums k hlt
      obtain ⟨v0, v1, v2, v3, v4, v5⟩ := HF.out k hlt
      obtain ⟨b0, b1, b2, b3, b4, b5⟩ := HO.out k hk
      have hbb : b ≠ w1.heap.size := by omega
      have hkp : (k : Int) * p ≤ 64 * 2097152 := Int.mul_le_mul (by omega) hp2 (by omega) (by omega)
      have hkp0 : 0 ≤ (k : Int) * p := Int.mul_nonneg (by omega) (by omega)
      have HS := Lib.hid (HM.out k hlt)
      have HW := Lib.hid (HN.out k hlt)
      generalize mergeTo p l k = o at *
      generalize l[k] = x at *
      obtain ⟨os, om, oe⟩ := o
      obtain ⟨xs, xm, xe⟩ := x
      dsimp only at *
      have HI := Lib.hid inv
      clear inv a0 a1 a2 fa
      cases B
      · have hne : ¬ os = k * p := fun e => by have := hB.out.2 e; cases this
        have HT := Lib.hid (show mergeTo p l (k + 1) = ⟨os, if (if om < oe + xs then oe + xs else om) < xm then xm else if om < oe + xs then oe + xs else om, (if xs < p then 0 else oe) + xe⟩ by rw [HS.out, if_neg hne])
        have HB : Hid (¬ (mergeTo p l (k + 1)).s = ((k + 1 : Nat) : Int) * p) := Lib.hid (fun e => hne (HW.out.1 e).1)
        clear HS HW hB hne
        by_cases h2 : om < oe + xs
        all_goals by_cases h3 : (if om < oe + xs then oe + xs else om) < xm
        all_goals by_cases h4 : xs < p
        all_goals (have HT2 := HT.out; simp only [h2, if_true, if_false] at h3; simp only [h2, h3, h4, if_true, if_false] at HT2; have HT3 := Lib.hid HT2; clear HT2 HT)
        all_goals first
          | (exfalso; clear HT3 HI; omega)
          | (go_wp2
             go_quiet (fail)
             go_wp2
             go_quiet (fail)
             go_wp2
             go_roundw
             case rel =>
               refine ⟨k + 1, false, hlt, by rw [HT3.out] <;> (congr 1; try dsimp only; omega), rfl, by go_num, iff_no HB.out, ?_⟩
               rw [HT3.out]
               first
                 | exact ((((HI.out.drewN _).set1 _).drewN _).set1 _)
                 | exact (((HI.out.drewN _).set1 _).drewN _)
                 | exact ((HI.out.drewN _).set1 _)
                 | exact (HI.out.drewN _)
             case measure => simp [intOf]; omega)
      · have HT := Lib.hid (show mergeTo p l (k + 1) = ⟨os + xs, if (if om < oe + xs then oe + xs else om) < xm then xm else if om < oe + xs then oe + xs else om, (if xs < p then 0 else oe) + xe⟩ by rw [HS.out, if_pos (hB.out.1 rfl)])
        have HB : Hid (xs < p → ¬ (mergeTo p l (k + 1)).s = ((k + 1 : Nat) : Int) * p) := Lib.hid (fun h4 e => absurd h4 (by have := (HW.out.1 e).2; omega))
        have HB2 : Hid (¬ xs < p → (mergeTo p l (k + 1)).s = ((k + 1 : Nat) : Int) * p) := Lib.hid (fun h4 => HW.out.2 ⟨hB.out.1 rfl, by omega⟩)
        have hos : os ≤ 64 * 2097152 := by omega
        clear HS HW hB
        by_cases h2 : om < oe + xs
        all_goals by_cases h3 : (if om < oe + xs then oe + xs else om) < xm
        all_goals by_cases h4 : xs < p
        all_goals (have HT2 := HT.out; simp only [h2, if_true, if_false] at h3; simp only [h2, h3, h4, if_true, if_false] at HT2; have HT3 := Lib.hid HT2; clear HT2 HT)
        all_goals first
          | (exfalso; clear HT3 HI; omega)
          | (go_wp2
             go_region
             go_wp2
             go_quiet (fail)
             go_wp2
             go_quiet (fail)
             go_wp2
             go_roundw
             case rel =>
               refine ⟨k + 1, _, hlt, by rw [HT3.out] <;> (congr 1; try dsimp only; omega), rfl, by go_num, (by first | exact iff_no (HB.out (by omega)) | exact iff_yes (HB2.out (by omega))), ?_⟩
               rw [HT3.out]
               first
                 | exact (((((HI.out.set0 _).drewN _).set1 _).drewN _).set1 _)
                 | exact ((((HI.out.set0 _).drewN _).set1 _).drewN _)
                 | exact (((HI.out.set0 _).drewN _).set1 _)
                 | exact ((HI.out.set0 _).drewN _)
             case measure => simp [intOf]; omega)
    · obtain rfl : k = l.length := by omega
      have HI := Lib.hid inv
      clear inv
      generalize hE : mergeTo p l l.length = o at *
      have HE := Lib.hid hE
      clear hE
      obtain ⟨os, om, oe⟩ := o
      dsimp only at *
      go_wp2
      refine bodyPost_ret (v := .tuple #[.agg #[.int .i64 os, .int .i64 om, .int .i64 oe], .int .i64 0]) (by simp [results, Try.results12, go_sem, a0, a1, a2, fa]) rfl ⟨by rw [HE.out]; rfl, ?_⟩
      exact (((HI.out.set2 _).ext.setCell (Nat.le_refl _) _).setCell (Nat.le_refl _) _).setCell (Nat.le_refl _) _

theorem rmerge_any (v : Value) (l : List Sm) (p : Int) (w : World) (h : SlAt w v l) :
    Calls Try.prog 12 #[v, .int .i64 p] w fun r w' => r = .returned (mergeT l p) ∧ Ext w w' := by
  unfold mergeT
  cases hr : rightsB l p
  · rw [if_neg (by decide)]; exact rmerge_no v l p w h hr
  · rw [if_pos rfl]
    obtain ⟨h1, h2, h3, -⟩ := rights_of hr
    rcases h with ⟨rfl, rfl⟩ | ⟨b, off, cap, rfl, hb, hc⟩
    · exact rmerge_nil p w hr
    · exact rmerge_yes b off cap l p w hb hc hr h1 h2 h3

end Go.Proofs.Ytbfnadfbanhgcaa
