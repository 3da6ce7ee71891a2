/- The walk of SchedCells. -/
import Derived.Test.YtfgfbmmidijgoaaCells
import Derived.Test.YtfgfbmmidijgoaaRwIn
namespace Go.Proofs.Ytfgfbmmidijgoaa
open Go.RowKit
set_option linter.unusedVariables false

def CelW (W w : World) (b last n : Nat) (sum : Int) (k : Nat) (c : Int) : Prop := ∃ s, SchG W w b (fun _ => False) s ∧ CellsI last n sum k s ∧ (s.cl 5).getD 0 = c
section
variable {W w : World} {b last n k : Nat} {sum c : Int}
theorem CelW.ext (h : CelW W w b last n sum k c) : Ext W w := by obtain ⟨s, h, -⟩ := h; exact h.ext
theorem cw_cell (h : CelW W w b last n sum k c) : Calls Try.prog 17 #[.pointer (some ⟨b, 0, none⟩), .int .i64 5] w fun r w' => r = .returned (.int .i64 c) ∧ CelW W w' b last n sum k c := by
  obtain ⟨s, h, hi, hc⟩ := h
  refine (g_cell h 5 (by decide)).mono ?_
  rintro r w' ⟨rfl, hx⟩
  rw [hc]
  exact ⟨rfl, s, h.later hx, hi, hc⟩
theorem cw_go (h : CelW W w b last n sum k c) (hk : k < n + 2) (pick : Int) :
    Calls Try.prog 14 #[.pointer (some ⟨b, 0, none⟩), .int .i64 pick] w fun e w' => ∃ (i : Nat) (c' : Int), e = .returned (.tuple #[.int .i64 i, .int .i64 0]) ∧ i ≤ last ∧ (i = last → c = sum) ∧ CelW W w' b last n sum (k + 1) c' := by
  obtain ⟨s, h, hi, hc⟩ := h
  refine (g_go h pick).mono ?_
  rintro e w' ⟨rfl, h', -⟩
  obtain ⟨i, hin, e1, e2, e3, hi'⟩ := hi.go hk pick
  rw [e1, e2]
  exact ⟨i, _, rfl, hin, fun e => hc.symm.trans (e3 e), _, h', hi', rfl⟩
theorem cw_end (h : CelW W w b last n sum (n + 2) c) : c = sum := by
  obtain ⟨s, h, hi, hc⟩ := h
  exact hc.symm.trans hi.end_.2
theorem cw_done (h : CelW W w b last n sum (n + 2) c) (pick : Int) :
    Calls Try.prog 14 #[.pointer (some ⟨b, 0, none⟩), .int .i64 pick] w fun e w' => e = .returned (.tuple #[.int .i64 0, .int .i64 22]) ∧ CelW W w' b last n sum (n + 2) c := by
  obtain ⟨s, h, hi, hc⟩ := h
  refine (g_go h pick).mono ?_
  rintro e w' ⟨rfl, h', -⟩
  rw [hi.done pick] at h' ⊢
  exact ⟨rfl, s, h', hi, hc⟩
theorem cw_said (h : CelW W w b last n sum (n + 2) c) : Calls Try.prog 15 #[.pointer (some ⟨b, 0, none⟩)] w fun r w' => ∃ p cap, r = .returned (.slice p 1 cap) ∧ CelW W w' b last n sum (n + 2) c := by
  obtain ⟨s, h, hi, hc⟩ := h
  refine (g_said h).mono ?_
  rintro r w' ⟨v, rfl, hown, hx⟩
  rw [hi.end_.1] at hown
  obtain ⟨p, cap, rfl, -⟩ := owns_form hown
  exact ⟨p, cap, rfl, s, h.later hx, hi, hc⟩
end

structure CelB (W w : World) (v : Value) (vals : List Value) (ts : List (List St)) (k n : Nat) (sm : Int) : Prop where
  at_ : TasksAt W w v vals ts
  len : ts.length = k
  tot : total ts = n
  add : addsT ts = sm
  all : ∀ t, t ∈ ts → AddT t
structure CelT (w0 w : World) (v : Value) (t : List St) (j m n : Nat) (s2 sm : Int) : Prop where
  ext : Ext w0 w
  own : w.ownsRow w0.heap.size 25 3 v j (stsL t)
  len : t.length = j
  all : AddT t
  tot : m = n + j
  add : s2 = sm + addsL t
theorem CelB.start (W : World) : CelB W W (.slice none 0 0) [] [] 0 0 0 := ⟨TasksAt.start W, rfl, rfl, rfl, fun t ht => by cases ht⟩
theorem CelT.start (w : World) (n : Nat) (sm : Int) : CelT w w (.slice none 0 0) [] 0 n n sm sm := ⟨Ext.refl _, owns_nil _ _ _ _, rfl, fun t ht => (by cases ht), rfl, (by show sm = sm + 0; omega)⟩
theorem CelT.add_ {w0 w w2 : World} {v v' : Value} {t : List St} {j m n : Nat} {s2 sm z : Int} {cs : Array Value} {ty : TypeId} (h : CelT w0 w v t j m n s2 sm) (h1 : 1 ≤ z) (h2 : z ≤ 1000) (hown : w2.ownsRow w0.heap.size 25 3 v' (j + 1) (stsL t ++ [.int .i64 3, .int .i64 5, .int .i64 z]))
    (hc : Chg (fun b => v.ownBlock = some b) (w.alloc (.cells cs ty)) w2) : CelT w0 w2 v' (t ++ [⟨3, 5, z⟩]) (j + 1) (m + 1) n (s2 + z) sm := by
  refine ⟨hc.ext (h.ext.alloc _ _) fun i hi => (owns_lt h.own i hi).1, ?_, by rw [List.length_append, h.len]; rfl, fun x hx => ?_, by have := h.tot; omega, ?_⟩
  · rw [stsL_append]
    exact hown
  · rcases List.mem_append.1 hx with hx | hx
    · exact h.all x hx
    · obtain rfl : x = ⟨3, 5, z⟩ := by simpa using hx
      exact ⟨rfl, rfl, h1, h2⟩
  · have h3 := h.add
    rw [addsL_append, h3]
    show sm + addsL t + z = sm + (addsL t + (z + 0))
    omega
theorem CelT.row {w0 w : World} {v : Value} {t : List St} {j m n : Nat} {s2 sm : Int} (h : CelT w0 w v t j m n s2 sm) {W : World} (hW : W.heap.size ≤ w0.heap.size) : StRow w (fun k => W.heap.size ≤ k ∧ k < w.heap.size) v t := by
  refine strow_own (B := w0.heap.size) ?_ fun g hg => ?_
  · have := h.own
    rw [h.len]; exact this
  · have := owns_lt h.own g hg
    omega
theorem CelB.push {W w0 w w2 : World} {v u v' : Value} {vals : List Value} {ts : List (List St)} {t : List St} {k j m n : Nat} {s2 sm : Int} {cs : Array Value} (h : CelB W w0 v vals ts k n sm) (ht : CelT w0 w u t j m n s2 sm)
    (hown : w2.ownsRow W.heap.size 23 1 v' (k + 1) (vals ++ [u])) (hc : Chg (fun i => v.ownBlock = some i) (w.alloc (.cells cs 23)) w2) : CelB W w2 v' (vals ++ [u]) (ts ++ [t]) (k + 1) m s2 := by
  have hl := h.len
  subst hl
  refine ⟨(h.at_.later ht.ext).add (ht.row h.at_.ext.size) hown hc, by rw [List.length_append]; rfl, ?_, ?_, fun x hx => ?_⟩
  · rw [total_append, h.tot]
    show n + (t.length + 0) = m
    have := ht.len; have := ht.tot; omega
  · rw [addsT_append, h.add]
    show sm + (addsL t + 0) = s2
    have := ht.add; omega
  · rcases List.mem_append.1 hx with hx | hx
    · exact h.all x hx
    · obtain rfl : x = t := by simpa using hx
      exact ht.all
theorem tl_row (w W : World) (hx : W.heap.size ≤ w.heap.size) (sm : Int) : StRow (w.alloc (.cells #[.int .i64 4, .int .i64 5, .int .i64 sm, .int .i64 5, .int .i64 1, .int .i64 0] 25)) (fun g => W.heap.size ≤ g ∧ g < (w.alloc (.cells #[.int .i64 4, .int .i64 5, .int .i64 sm, .int .i64 5, .int .i64 1, .int .i64 0] 25)).heap.size) (.slice (some ⟨w.heap.size, 0, none⟩) 2 2) (tlT sm) :=
  strow_blk (Blk.new w _ _) rfl rfl ⟨hx, by rw [World.size_alloc]; omega⟩ (by unfold maxLen; omega)
theorem cel_wf {ts : List (List St)} (h : ∀ t, t ∈ ts → AddT t) {sm : Int} (h0 : 0 ≤ sm) (h1 : sm ≤ 200000) : ∀ i x, x ∈ (ts ++ [tlT sm]).getD i [] → (Lit.int .i64 x.a).wf = true ∧ (Lit.int .i64 x.b).wf = true := by
  intro i x hx
  have hw : ∀ z : Int, 0 ≤ z → z ≤ 1000000 → (Lit.int .i64 z).wf = true := fun z h0 h1 => by
    simp [Lit.wf, IntKind.min, IntKind.max, IntKind.signed, IntKind.bits]; omega
  by_cases hi : i < ts.length
  · rw [List.getD_eq_getElem?_getD, List.getElem?_append_left hi, List.getElem?_eq_getElem hi] at hx
    obtain ⟨-, e2, e3, e4⟩ := h _ (List.getElem_mem hi) x hx
    exact ⟨hw _ (by omega) (by omega), hw _ (by omega) (by omega)⟩
  · rw [List.getD_eq_getElem?_getD, List.getElem?_append_right (by omega)] at hx
    by_cases e : i - ts.length = 0
    · rw [e] at hx
      have hx : x ∈ tlT sm := hx
      simp [tlT] at hx
      rcases hx with rfl | rfl
      · exact ⟨hw 5 (by omega) (by omega), hw sm h0 (by omega)⟩
      · exact ⟨by decide, by decide⟩
    · rw [List.getElem?_eq_none (by simp; omega)] at hx
      cases hx
theorem CelB.bounds {W w : World} {v : Value} {vals : List Value} {ts : List (List St)} {k n : Nat} {sm : Int} (h : CelB W w v vals ts k n sm) : 0 ≤ sm ∧ sm ≤ 1000 * n := by
  have := AddT.bounds ts h.all
  have h1 := h.tot
  have h2 := h.add
  omega

set_option maxRecDepth 20000 in
set_option maxHeartbeats 8000000 in
theorem walk_SchedCells (v : Value) (l : Rw) {W : World} (hr : RwIn W v l) (v2 : Value) (zs : List Int) (hz : ZsIn W .i64 v2 zs) :
    Calls Try.prog 6 #[v, v2] W fun e W' => e = .returned (.bool true) ∧ Ext W W' := by
  obtain ⟨i0, hi0, hz0, hz1, hz2⟩ := info_parts row_info
  obtain ⟨i1, hi1, hy0, hy1, hy2⟩ := info_parts step_info
  obtain ⟨hlm, pr, capr, rfl, hrows⟩ := hr
  obtain ⟨p, cap, rfl, hz, hl⟩ := hz.open_
  unfold maxLen at hlm
  by_cases h20 : 20 < l.len
  · clear hz hrows
    go_enter Try.func6, Try.ntmps6
    go_wp2
    go_ret
    exact ⟨rfl, Ext.refl _⟩
  have h20 : l.len ≤ 20 := by omega
  by_cases h400 : 400 < zs.length
  · clear hz hrows
    go_enter Try.func6, Try.ntmps6
    go_wp2
    go_ret
    exact ⟨rfl, Ext.refl _⟩
  have h400 : zs.length ≤ 400 := by omega
  have HZ := Lib.hid hz
  have HR := Lib.hid hrows
  clear hz hl hrows hlm
  go_enter Try.func6, Try.ntmps6
  go_wp2
  go_loopw [5, 6, 7, 8] (fun nv sv v i wr => ∃ (k n : Nat) (sm : Int) (vals : List Value) (ts : List (List St)), k ≤ l.len ∧ i = .int .i64 k ∧ nv = .int .i64 n ∧ sv = .int .i64 sm ∧ n ≤ 200 ∧ Hid (CelB W wr v vals ts k n sm)) (fun _ _ _ i _ => l.len - (intOf i).toNat)
  case atStart => exact ⟨0, 0, 0, _, _, by omega, rfl, rfl, rfl, by omega, Lib.hid (CelB.start W)⟩
  case round =>
    obtain ⟨k, n, sm, vals, ts, hk, rfl, rfl, rfl, hn, hR⟩ := hrel
    have HO : Hid (wr.ownsRow W.heap.size 23 1 _ k vals) := Lib.hid (by have := hR.out.at_.own; rwa [hR.out.len] at this)
    obtain ⟨pv, capv, rfl, -, -, -⟩ := owns_form HO.out
    obtain ⟨hs0, hs1⟩ := hR.out.bounds
    by_cases hlt : k < l.len
    · obtain ⟨b, off, A, C, rfl, hb, hc, hlen, hwf, hzr⟩ := HR.out k hlt
      have HZR := Lib.hid hzr
      have HC := Lib.hid hc
      have c0 := (hR.out.at_.ext.cell b (off + k) hb).trans hc
      unfold maxLen at hlen
      generalize l.z k = row at *
      clear hzr hwf hc
      go_wp2_with fail
      obtain ⟨W3, rfl⟩ : ∃ W3, W3 = wr := ⟨_, rfl⟩
      go_loopw [5, 6, 9, 10] (fun nv sv t kk wq => ∃ (j m : Nat) (s2 : Int) (tl : List St), j ≤ row.length ∧ kk = .int .i64 j ∧ nv = .int .i64 m ∧ sv = .int .i64 s2 ∧ m ≤ 200 ∧ s2 ≤ 1000 * m ∧ 0 ≤ s2 ∧ Hid (CelT W3 wq t tl j m n s2 sm)) (fun _ _ _ kk _ => row.length - (intOf kk).toNat)
      case atStart => exact ⟨0, n, sm, [], by omega, rfl, rfl, rfl, hn, hs1, hs0, Lib.hid (CelT.start _ _ _)⟩
      case round =>
        obtain ⟨j, m, s2, tl, hj, rfl, rfl, rfl, hm, hq1, hq0, hT⟩ := hrel
        obtain ⟨pt, capt, rfl, -, -, -⟩ := owns_form hT.out.own
        have HX := Lib.hid (hR.out.at_.ext.trans hT.out.ext)
        have c1 := (HX.out.cell b (off + k) hb).trans HC.out
        have hj200 : j ≤ 200 := by have := hT.out.tot; omega
        clear c0
        by_cases hjl : j < row.length
        · obtain ⟨b2, off2, rfl, hb2, cz⟩ := HZR.out.get hjl HX.out
          generalize hge : row.getD j 0 = z at *
          have HZE := Lib.hid hge
          clear hge
          by_cases hm2 : m = 200
          · subst hm2
            go_wp2_with fail
            go_ret
            exact ⟨rfl, HX.out⟩
          by_cases hzl : z < 1
          · go_wp2_with fail
            go_ret
            exact ⟨rfl, HX.out⟩
          by_cases hzh : 1000 < z
          · go_wp2_with fail
            go_ret
            exact ⟨rfl, HX.out⟩
          have hzl : 1 ≤ z := by omega
          have hzh : z ≤ 1000 := by omega
          have hm : m < 200 := by omega
          go_wp2_with (first | (at_builtin; refine wpList_append_all W3.heap.size _ rfl (.tmp 69) (.tmp 78) 23 rfl 25 i1 _ 3 24 Try.underlying23 hi1 hy0 hy1 hy2 rfl (by decide) _ _ _ (by rfl) (by exact owns_later hT.out.own (((Ext.refl _).alloc _ _).below)) (.slice (some ⟨wr.heap.size, 0, none⟩) 1 1) 1 [.int .i64 3, .int .i64 5, .int .i64 z] (by rfl) (by exact src_one wr [.int .i64 3, .int .i64 5, .int .i64 z] _ 3 rfl) (by intro u hu; simp at hu; rcases hu with rfl | rfl | rfl <;> rfl) (by unfold maxLen; omega) (by omega) (by have := hT.out.ext.size; simp; omega) ?_) | fail)
          intro v' w2 hown hc _
          have HN := Lib.hid (hT.out.add_ hzl hzh hown hc)
          obtain ⟨p', cap', rfl, -, -, -⟩ := owns_form hown
          have hx2 := hR.out.at_.ext.trans HN.out.ext
          have c2 := (hx2.cell b (off + k) hb).trans HC.out
          have cz2 := (HZR.out.at_ hjl hx2).2
          rw [HZE.out] at cz2
          clear hown hc hT
          go_wp2_with fail
          go_roundw
          case rel => exact ⟨j + 1, m + 1, s2 + z, _, by omega, by go_num, by go_num, by go_num, by omega, by omega, by omega, HN⟩
          case measure => simp [intOf]; omega
        · obtain rfl : j = row.length := by omega
          go_wp2_with (first | (at_builtin; refine wpList_append_all W.heap.size _ rfl (.tmp 89) (.tmp 91) 22 rfl 23 i0 _ 1 24 Try.underlying22 hi0 hz0 hz1 hz2 rfl (by decide) _ _ _ (by rfl) (by exact owns_later HO.out ((hT.out.ext.alloc _ _).below)) (.slice (some ⟨wr.heap.size, 0, none⟩) 1 1) 1 [.slice pt row.length capt] (by rfl) (by exact src_one wr [.slice pt row.length capt] _ 1 rfl) (by intro u hu; simp at hu; subst hu; rfl) (by unfold maxLen; omega) (by omega) (by have := HX.out.size; simp; omega) ?_) | fail)
          intro v' w2 hown hc _
          have HN := Lib.hid (hR.out.push hT.out hown hc)
          obtain ⟨p', cap', rfl, -, -, -⟩ := owns_form hown
          clear hown hc hT HO
          go_wp2_with fail
          go_roundw
          case rel => exact ⟨k + 1, m, s2, _, _, by omega, by go_num, by go_num, by go_num, hm, HN⟩
          case measure => simp [intOf]; omega
    · obtain rfl : k = l.len := by omega
      have HX := Lib.hid hR.out.at_.ext
      go_wp2_with (first | (at_builtin; refine wpList_append_all W.heap.size _ rfl (.tmp 93) (.tmp 98) 22 rfl 23 i0 _ 1 24 Try.underlying22 hi0 hz0 hz1 hz2 rfl (by decide) _ _ _ (by rfl) (by exact owns_later HO.out ((((Ext.refl _).alloc _ _).alloc _ _).below)) (.slice (some ⟨wr.heap.size + 1, 0, none⟩) 1 1) 1 [.slice (some ⟨wr.heap.size, 0, none⟩) 2 2] (by rfl) (by have := src_one (wr.alloc (.cells #[.int .i64 4, .int .i64 5, .int .i64 sm, .int .i64 5, .int .i64 1, .int .i64 0] 25)) [.slice (some ⟨wr.heap.size, 0, none⟩) 2 2] 23 1 rfl; rw [World.size_alloc] at this; exact this) (by intro u hu; simp at hu; subst hu; rfl) (by unfold maxLen; omega) (by omega) (by have := HX.out.size; simp; omega) ?_) | fail)
      intro v' w2 hown hc _
      have hTA : TasksAt W w2 v' (vals ++ [.slice (some ⟨wr.heap.size, 0, none⟩) 2 2]) (ts ++ [tlT sm]) := by
        have hown' := hown
        rw [← hR.out.len] at hown'
        exact (hR.out.at_.later ((Ext.refl _).alloc _ _)).add (tl_row wr W HX.out.size sm) hown' hc
      have HA := Lib.hid hTA
      obtain ⟨p', cap', rfl, -, -, -⟩ := owns_form hown
      have HT : Hid (TsIn w2 (.slice p' (l.len + 1) cap') (ts ++ [tlT sm])) := Lib.hid hTA.tsin
      have HB := Lib.hid (show (ts ++ [tlT sm]).length = l.len + 1 ∧ total (ts ++ [tlT sm]) = n + 2 by
        rw [List.length_append, hR.out.len, total_append, hR.out.tot]
        exact ⟨rfl, rfl⟩)
      have HC := Lib.hid (CellsI.start hR.out.len hR.out.tot hR.out.add hR.out.all hn (addT_saysT _ hR.out.all))
      have HW := Lib.hid (cel_wf hR.out.all hs0 (by omega))
      have HK := Lib.hid (addT_ok hR.out.all sm)
      clear hown hc hTA HO
      go_wp2_with (first
        | (go_at_call 11; refine (g_new (W := W) (R := fun _ => False) HA.out.ext (fun _ h => h.elim) (ts ++ [tlT sm]) _ HT.out (by rw [HB.out.1]; omega) (by rw [HB.out.2]; omega) HW.out (by rw [HB.out.1]; omega) (by rw [HB.out.2]; omega) HK.out).mono ?_; rintro r w1 ⟨b, rfl, h, -⟩; have H1 := Lib.hid (show CelW W w1 b l.len n sm 0 _ from ⟨_, h, HC.out, rfl⟩); clear h HA HT HB HC HW HK hR))
      generalize ((sc0 (ts ++ [tlT sm])).cl 5).getD 0 = c0 at *
      go_loopw [14] (fun i wr => ∃ (k : Nat) (c : Int), k ≤ n + 2 ∧ i = .int .i64 k ∧ Hid (CelW W wr b l.len n sm k c)) (fun i _ => n + 2 - (intOf i).toNat)
      case atStart => exact ⟨0, _, by omega, rfl, H1⟩
      case round =>
        obtain ⟨k, c, hk, rfl, hI⟩ := hrel
        clear H1
        by_cases hlt2 : k < n + 2
        · by_cases hp : k < zs.length
          · obtain ⟨bb, off, rfl, hbb, cz⟩ := HZ.out.get hp hI.out.ext
            go_wp2_with (first
              | (go_at_call 17; refine (cw_cell hI.out).mono ?_; rintro r w3 ⟨rfl, h⟩; have H3 := Lib.hid h; clear h hI))
            go_at_call 14
            refine (cw_go H3.out hlt2 _).mono ?_
            rintro r w4 ⟨i, c', rfl, hil, hic, h⟩
            have H4 := Lib.hid h
            clear h H3
            by_cases e : i = l.len
            · obtain rfl := hic e
              subst e
              go_wp2_with fail
              go_roundw
              case rel => exact ⟨k + 1, c', by omega, by go_num, H4⟩
              case measure => simp [intOf]; omega
            · clear hic
              go_wp2_with fail
              go_roundw
              case rel => exact ⟨k + 1, c', by omega, by go_num, H4⟩
              case measure => simp [intOf]; omega
          · go_wp2_with (first
              | (go_at_call 17; refine (cw_cell hI.out).mono ?_; rintro r w3 ⟨rfl, h⟩; have H3 := Lib.hid h; clear h hI))
            go_at_call 14
            refine (cw_go H3.out hlt2 _).mono ?_
            rintro r w4 ⟨i, c', rfl, hil, hic, h⟩
            have H4 := Lib.hid h
            clear h H3
            by_cases e : i = l.len
            · obtain rfl := hic e
              subst e
              go_wp2_with fail
              go_roundw
              case rel => exact ⟨k + 1, c', by omega, by go_num, H4⟩
              case measure => simp [intOf]; omega
            · clear hic
              go_wp2_with fail
              go_roundw
              case rel => exact ⟨k + 1, c', by omega, by go_num, H4⟩
              case measure => simp [intOf]; omega
        · obtain rfl : k = n + 2 := by omega
          obtain rfl := cw_end hI.out
          go_wp2_with (first
            | (go_at_call 14; refine (cw_done hI.out 0).mono ?_; rintro r w3 ⟨rfl, h⟩; have H3 := Lib.hid h; clear h hI)
            | (go_at_call 15; refine (cw_said H3.out).mono ?_; rintro r w4 ⟨p4, cap4, rfl, h⟩; have H4 := Lib.hid h; clear h H3)
            | (go_at_call 17; refine (cw_cell H4.out).mono ?_; rintro r w5 ⟨rfl, h⟩; have H5 := Lib.hid h.ext; clear h H4)
            | (go_at_call 12; refine (awake_any _).mono ?_; rintro r w9 ⟨rfl, hx⟩; have H9 := Lib.hid (H5.out.trans hx); clear hx H5))
          go_ret
          exact ⟨rfl, H9.out⟩

end Go.Proofs.Ytfgfbmmidijgoaa
