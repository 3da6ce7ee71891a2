/- The contract of a scheduler's Enabled. -/
import Derived.Test.YtfgfbmmidijgoaaLeft
namespace Go.Proofs.Ytfgfbmmidijgoaa
open Go.RowKit
set_option linter.unusedVariables false

theorem int_info : (Try.prog.info? 3).map (fun i => (i.zero, i.size, i.bytes)) = some (some (.int .i64 0), 1, 8) := by kernel_rfl

structure EnRel (w wr : World) (s : Sc) (v : Value) (k : Nat) : Prop where
  row : wr.ownsRow w.heap.size 3 1 v (enL s k).length (ints (enL s k))
  ext : Ext w wr
theorem EnRel.skip {w wr w1 : World} {s : Sc} {v : Value} {k : Nat} (h : EnRel w wr s v k) (hx : Ext wr w1) (he : enB s k = false) : EnRel w w1 s v (k + 1) := by
  refine ⟨?_, h.ext.trans hx⟩
  rw [enL_succ, he]
  simp only [Bool.false_eq_true, if_false, List.append_nil]
  exact owns_later h.row hx.below
theorem EnRel.add {w wr w1 : World} {s : Sc} {v v' : Value} {k : Nat} {cs : Array Value} {t : TypeId} (h : EnRel w wr s v k) (he : enB s k = true)
    (hown : w1.ownsRow w.heap.size 3 1 v' ((enL s k).length + 1) (ints (enL s k) ++ [.int .i64 (k : Nat)])) (hc : Chg (fun i => v.ownBlock = some i) (wr.alloc (.cells cs t)) w1) : EnRel w w1 s v' (k + 1) := by
  have hx : Chg (fun i => v.ownBlock = some i) wr w1 := ((Chg.refl (fun i => v.ownBlock = some i) wr).alloc _ _).trans hc (fun i hi => .inl hi)
  refine ⟨?_, hx.ext h.ext fun i hi => (owns_lt h.row i hi).1⟩
  rw [enL_succ, he, if_pos rfl, ints_snoc, List.length_append]
  exact hown

def EnPost (s : Sc) (w : World) (r : Ending) (w' : World) : Prop := ∃ v, r = .returned v ∧ EnRel w w' s v s.ts.length

set_option maxRecDepth 20000 in
set_option maxHeartbeats 4000000 in
theorem enabled_any (b : Nat) (F : Nat → Prop) (s : Sc) (w : World) (h : SchIs w b F s) :
    Calls Try.prog 13 #[.pointer (some ⟨b, 0, none⟩)] w (EnPost s w) := by
  obtain ⟨i0, hi0, hz0, hz1, hz2⟩ := info_parts int_info
  have HS := Lib.hid h
  obtain ⟨⟨tv, sv, vals, bl, bc, nl, nc, h1⟩, h2⟩ := h
  have c0 : w.cell? ⟨b, 0, none⟩ = some tv := h1.blk.cell 0
  have c4 : w.cell? ⟨b, 4, none⟩ = some (.bool s.over) := h1.blk.cell 4
  have hb := h1.blk.lt
  obtain ⟨pt, capt, rfl, hrow⟩ := h1.open_
  have hw := h1.fits.wide
  have hf := h1.fits.few
  have hpn := h1.fits.pend
  have HOK := Lib.hid h1.fits.ok
  have HT := Lib.hid h2
  have HR := Lib.hid hrow
  have HL := Lib.hid (fun i => show (s.ts.getD i []).length ≤ 20000 by have := total_le s.ts i; omega)
  clear h1 h2 hrow hf hpn
  go_enter Try.func13, Try.ntmps13
  go_wp2
  go_loopw [3, 11] (fun v i wr => ∃ k : Nat, k ≤ s.ts.length ∧ i = .int .i64 k ∧ Hid (EnRel w wr s v k)) (fun _ i _ => s.ts.length - (intOf i).toNat)
  case atStart => exact ⟨0, by omega, rfl, Lib.hid ⟨owns_nil _ _ _ _, Ext.refl _⟩⟩
  case round =>
    obtain ⟨k, hk, rfl, hR⟩ := hrel
    by_cases hlt : k < s.ts.length
    · obtain ⟨gt, p, cap, rfl, -, hgt, hc, hst⟩ := HR.out k hlt
      have hc := (hR.out.ext.cell _ _ hgt).trans hc
      have d4 := (hR.out.ext.cell _ _ hb).trans c4
      have hl := HL.out k
      have HEN := Lib.hid (show enB s k = (!s.over && match s.ts.getD k [] with | [] => false | x :: _ => !waitsB s x) from rfl)
      have HSk := Lib.hid (HS.out.later hR.out.ext)
      by_cases hov : s.over = true
      · rw [hov] at d4
        have HE := Lib.hid (HEN.out.trans (by rw [hov]; first | done | rfl))
        clear hov HEN hst c4
        have HN := Lib.hid (hR.out.skip (Ext.refl wr) HE.out)
        clear HE hR
        go_wp2_with fail
        go_roundw
        case rel => exact ⟨k + 1, by omega, by go_num, HN⟩
        case measure => simp [intOf]; omega
      · have hov : s.over = false := by simpa using hov
        rw [hov] at d4
        have HOV := Lib.hid hov
        clear hov c4
        have HOKk := Lib.hid (HOK.out k)
        generalize s.ts.getD k [] = t at *
        cases t with
        | nil =>
          have HE := Lib.hid (HEN.out.trans (by rw [HOV.out]; first | done | rfl))
          have HN := Lib.hid (hR.out.skip (Ext.refl wr) HE.out)
          clear HE hR HEN HOKk hst hl
          simp only [List.length_nil] at hc
          go_wp2_with fail
          go_roundw
          case rel => exact ⟨k + 1, by omega, by go_num, HN⟩
          case measure => simp [intOf]; omega
        | cons x t =>
          obtain ⟨g, off, cap', e, -, -, hFg, -, x0, x1, x2⟩ := hst.head
          cases e
          have hgl := HT.out g hFg
          have x0 := (hR.out.ext.cell _ _ hgl).trans x0
          have x1 := (hR.out.ext.cell _ _ hgl).trans x1
          have x2 := (hR.out.ext.cell _ _ hgl).trans x2
          have HX := Lib.hid (HOKk.out x (by simp))
          have HE := Lib.hid (HEN.out.trans (show _ = !waitsB s x by rw [HOV.out]; rfl))
          rw [List.length_cons] at hc hl
          clear HEN HOKk hst hFg
          by_cases hwt : waitsB s x = true
          · have HE2 := Lib.hid (HE.out.trans (by rw [hwt]; first | done | rfl))
            have HWT := Lib.hid hwt
            clear hwt HE
            go_wp2_with (first | (go_at_call 28; refine (waits_any b F s x _ HSk.out HX.out).mono ?_; rintro r w1 ⟨rfl, hx⟩; rw [HWT.out]; have HN := Lib.hid (hR.out.skip hx HE2.out); clear hx))
            go_roundw
            case rel => exact ⟨k + 1, by omega, by go_num, HN⟩
            case measure => simp [intOf]; omega
          · have hwt : waitsB s x = false := by simpa using hwt
            have HE2 := Lib.hid (HE.out.trans (by rw [hwt]; first | done | rfl))
            have HWT := Lib.hid hwt
            have hen := enL_len s k
            obtain ⟨pv, capv, rfl, -, -, -⟩ := owns_form hR.out.row
            generalize hm : (enL s k).length = m at *
            have HM := Lib.hid hm
            clear hwt HE hm
            go_wp2_with (first | (go_at_call 28; refine (waits_any b F s x _ HSk.out HX.out).mono ?_; rintro r w1 ⟨rfl, hx⟩; rw [HWT.out]; have hX := Lib.hid hx; clear hx) | (at_builtin; refine wpList_append_all w.heap.size _ rfl (.tmp 34) (.tmp 36) 31 rfl 3 i0 _ 1 8 Try.underlying31 hi0 hz0 hz1 hz2 rfl (by decide) _ _ _ (by rfl) (by exact owns_later hR.out.row ((hX.out.alloc _ _).below)) (.slice (some ⟨w1.heap.size, 0, none⟩) 1 1) 1 [.int .i64 (k : Nat)] (by rfl) (by exact src_one w1 [.int .i64 (k : Nat)] _ 1 rfl) (by intro u hu; simp at hu; subst hu; rfl) (by rw [HM.out]; unfold maxLen; omega) (by rw [HM.out]; omega) (by have := (hR.out.ext.trans hX.out).size; simp; omega) ?_) | fail)
            intro v' w2 hown hchg hat
            have hR1 : EnRel w w1 s (.slice pv m capv) k := ⟨by have := owns_later hR.out.row hX.out.below; exact this, hR.out.ext.trans hX.out⟩
            have HN := Lib.hid (hR1.add HE2.out hown hchg)
            obtain ⟨p1, cap1, rfl, -, -, -⟩ := owns_form hown
            clear hown hchg hat hR hR1 hX
            go_wp2_with fail
            go_roundw
            case rel => exact ⟨k + 1, by omega, by go_num, HN⟩
            case measure => simp [intOf]; omega
    · obtain rfl : k = s.ts.length := by omega
      go_wp2_with fail
      go_ret
      exact ⟨_, rfl, hR.out⟩

end Go.Proofs.Ytfgfbmmidijgoaa
