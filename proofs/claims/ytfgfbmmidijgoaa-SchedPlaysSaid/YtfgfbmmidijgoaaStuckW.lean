/- The walk of SchedStuck. -/
import Derived.Test.YtfgfbmmidijgoaaStuck
import Derived.Test.YtfgfbmmidijgoaaZs
namespace Go.Proofs.Ytfgfbmmidijgoaa
open Go.RowKit
set_option linter.unusedVariables false

def StW (W w : World) (b x y : Nat) : Prop := ∃ s, SchG W w b (fun _ => False) s ∧ StI x y s ∧ okXY x y = true
def stGo (x y : Nat) : Prop := ¬ (x = 0 ∧ y = 0) ∧ ¬ (x = 3 ∧ y = 3)
theorem okXY_le {x y : Nat} (h : okXY x y = true) : x ≤ 4 ∧ y ≤ 4 := by
  have := of_decide_eq_true h
  omega
section
variable {W w : World} {b x y : Nat}
theorem StW.ext (h : StW W w b x y) : Ext W w := by obtain ⟨s, h, -⟩ := h; exact h.ext
theorem StW.le (h : StW W w b x y) : x ≤ 4 ∧ y ≤ 4 := by obtain ⟨s, -, -, h⟩ := h; exact okXY_le h
theorem sw_left0 (h : StW W w b x y) : Calls Try.prog 18 #[.pointer (some ⟨b, 0, none⟩), .int .i64 0] w fun e w' => e = .returned (.tuple #[.int .i64 x, .int .i64 0]) ∧ StW W w' b x y := by
  obtain ⟨s, h, hi, ho⟩ := h
  refine (g_left h 0 (by decide)).mono ?_
  rintro e w' ⟨rfl, hx⟩
  have e : leftI s 0 = ((x : Int), 0) := by
    unfold leftI
    rw [if_neg (by rw [st_len hi]; omega), show (0 : Int).toNat = 0 from rfl, st_e0 hi, List.length_drop]
    show (((4 - (4 - x) : Nat) : Int), (0 : Int)) = _
    have := okXY_le ho
    rw [show 4 - (4 - x) = x by omega]
  rw [e]
  exact ⟨rfl, s, h.later hx, hi, ho⟩
theorem sw_left1 (h : StW W w b x y) : Calls Try.prog 18 #[.pointer (some ⟨b, 0, none⟩), .int .i64 1] w fun e w' => e = .returned (.tuple #[.int .i64 y, .int .i64 0]) ∧ StW W w' b x y := by
  obtain ⟨s, h, hi, ho⟩ := h
  refine (g_left h 1 (by decide)).mono ?_
  rintro e w' ⟨rfl, hx⟩
  have e : leftI s 1 = ((y : Int), 0) := by
    unfold leftI
    rw [if_neg (by rw [st_len hi]; omega), show (1 : Int).toNat = 1 from rfl, st_e1 hi, List.length_drop]
    show (((4 - (4 - y) : Nat) : Int), (0 : Int)) = _
    have := okXY_le ho
    rw [show 4 - (4 - y) = y by omega]
  rw [e]
  exact ⟨rfl, s, h.later hx, hi, ho⟩
theorem sw_go (h : StW W w b x y) (hg : stGo x y) (pick : Int) :
    Calls Try.prog 14 #[.pointer (some ⟨b, 0, none⟩), .int .i64 pick] w fun e w' => ∃ (t : Int) (x' y' : Nat), e = .returned (.tuple #[.int .i64 t, .int .i64 0]) ∧ x' + y' + 1 = x + y ∧ StW W w' b x' y' := by
  obtain ⟨s, h, hi, ho⟩ := h
  refine (g_go h pick).mono ?_
  rintro e w' ⟨rfl, h', -⟩
  obtain ⟨x', y', h1, h2, h3, h4⟩ := st_go hi ho hg.1 hg.2 pick
  rw [h3]
  exact ⟨_, x', y', rfl, h2, _, h', h4, h1⟩
theorem sw_done (h : StW W w b 0 0) (pick : Int) :
    Calls Try.prog 14 #[.pointer (some ⟨b, 0, none⟩), .int .i64 pick] w fun e w' => e = .returned (.tuple #[.int .i64 0, .int .i64 22]) ∧ Ext W w' := by
  obtain ⟨s, h, hi, ho⟩ := h
  refine (g_go h pick).mono ?_
  rintro e w' ⟨rfl, h', -⟩
  rw [st_done hi pick]
  exact ⟨rfl, h'.ext⟩
theorem sw_stuck (h : StW W w b 3 3) (pick : Int) :
    Calls Try.prog 14 #[.pointer (some ⟨b, 0, none⟩), .int .i64 pick] w fun e w' => e = .returned (.tuple #[.int .i64 0, .int .i64 21]) ∧ StW W w' b 3 3 := by
  obtain ⟨s, h, hi, ho⟩ := h
  refine (g_go h pick).mono ?_
  rintro e w' ⟨rfl, h', -⟩
  rw [st_stuck_go hi pick] at h' ⊢
  exact ⟨rfl, s, h', hi, ho⟩
theorem sw_enabled (h : StW W w b 3 3) : Calls Try.prog 13 #[.pointer (some ⟨b, 0, none⟩)] w fun r w' => ∃ p cap, r = .returned (.slice p 0 cap) ∧ Ext W w' := by
  obtain ⟨s, h, hi, ho⟩ := h
  refine (g_enabled h).mono ?_
  rintro r w' ⟨v, rfl, hown, hx⟩
  rw [st_stuck hi] at hown
  obtain ⟨p, cap, e, -⟩ := owns_form hown
  subst e
  exact ⟨p, cap, rfl, h.ext.trans hx⟩
end

theorem stT_wf : ∀ i x, x ∈ [stA, stB].getD i [] → (Lit.int .i64 x.a).wf = true ∧ (Lit.int .i64 x.b).wf = true := by
  intro i x hx
  match i with
  | 0 => simp [stA] at hx; rcases hx with rfl | rfl | rfl | rfl <;> exact ⟨by decide, by decide⟩
  | 1 => simp [stB] at hx; rcases hx with rfl | rfl | rfl | rfl <;> exact ⟨by decide, by decide⟩
  | i + 2 => simp at hx
theorem strow_blk {w : World} {g : Nat} {F : Nat → Prop} {cs : Array Value} {t : List St} {n : Nat} (h : Blk w g 25 cs) (hc : cs.toList = stsL t) (hn : n = t.length) (hF : F g) (hm : n ≤ maxLen) : StRow w F (.slice (some ⟨g, 0, none⟩) n n) t := by
  subst hn
  refine ⟨_, _, rfl, Nat.le_refl _, hm, .inr ⟨g, 0, rfl, hF, h.hasT, fun j hj => ?_⟩⟩
  rw [Nat.zero_add, h.cell, ← Array.getElem?_toList, hc]

def stAc : Array Value := #[.int .i64 1, .int .i64 1, .int .i64 0, .int .i64 1, .int .i64 2, .int .i64 0, .int .i64 2, .int .i64 2, .int .i64 0, .int .i64 2, .int .i64 1, .int .i64 0]
def stBc : Array Value := #[.int .i64 1, .int .i64 2, .int .i64 0, .int .i64 1, .int .i64 1, .int .i64 0, .int .i64 2, .int .i64 1, .int .i64 0, .int .i64 2, .int .i64 2, .int .i64 0]
theorem stT_in (w : World) : TsIn (((w.alloc (.cells stAc 25)).alloc (.cells stBc 25)).alloc (.cells #[.slice (some ⟨w.heap.size, 0, none⟩) 4 4, .slice (some ⟨w.heap.size + 1, 0, none⟩) 4 4] 23)) (.slice (some ⟨w.heap.size + 1 + 1, 0, none⟩) 2 2) [stA, stB] := by
  have hA : Blk (((w.alloc (.cells stAc 25)).alloc (.cells stBc 25)).alloc (.cells #[.slice (some ⟨w.heap.size, 0, none⟩) 4 4, .slice (some ⟨w.heap.size + 1, 0, none⟩) 4 4] 23)) w.heap.size 25 stAc := ((Blk.new w _ _).alloc _).alloc _
  have hB0 := Blk.new (w.alloc (.cells stAc 25)) 25 stBc
  rw [World.size_alloc] at hB0
  have hB := hB0.alloc (.cells #[.slice (some ⟨w.heap.size, 0, none⟩) 4 4, .slice (some ⟨w.heap.size + 1, 0, none⟩) 4 4] 23)
  have hC := Blk.new ((w.alloc (.cells stAc 25)).alloc (.cells stBc 25)) 23 #[.slice (some ⟨w.heap.size, 0, none⟩) 4 4, .slice (some ⟨w.heap.size + 1, 0, none⟩) 4 4]
  rw [World.size_alloc, World.size_alloc] at hC
  refine tsin_blk (ts := [stA, stB]) (n := 2) hC rfl (fun i hi => ?_) 2
  match i, hi with
  | 0, _ => exact ⟨_, rfl, strow_blk hA rfl rfl hA.lt (by unfold maxLen; omega)⟩
  | 1, _ => exact ⟨_, rfl, strow_blk hB rfl rfl hB.lt (by unfold maxLen; omega)⟩


set_option maxRecDepth 20000 in
set_option maxHeartbeats 8000000 in
theorem walk_SchedStuck (v : Value) (zs : List Int) (W : World) (hz : ZsIn W .i64 v zs) :
    Calls Try.prog 7 #[v] W fun e W' => e = .returned (.bool true) ∧ Ext W W' := by
  obtain ⟨p, cap, rfl, hz, hl⟩ := hz.open_
  by_cases h100 : 100 < zs.length
  · clear hz
    go_enter Try.func7, Try.ntmps7
    go_wp2
    go_ret
    exact ⟨rfl, Ext.refl _⟩
  have h100 : zs.length ≤ 100 := by omega
  have HZ := Lib.hid hz
  have HT := Lib.hid (stT_in W)
  clear hz hl
  go_enter Try.func7, Try.ntmps7
  go_wp2_with (first
    | (go_at_call 11; refine (g_new (W := W) (R := fun _ => False) ((((Ext.refl _).alloc _ _).alloc _ _).alloc _ _) (fun _ h => h.elim) [stA, stB] _ HT.out (by decide) (by decide) stT_wf (by decide) (by decide) (by decide)).mono ?_; rintro r w1 ⟨b, rfl, h, -⟩; have H1 := Lib.hid (show StW W w1 b 4 4 from ⟨_, h, StI.start, by decide⟩); clear h HT))
  go_loopw [7] (fun i wr => ∃ k x y : Nat, x + y + k = 8 ∧ i = .int .i64 k ∧ Hid (StW W wr b x y)) (fun i _ => 20 - (intOf i).toNat)
  case atStart => exact ⟨0, 4, 4, rfl, rfl, H1⟩
  case round =>
    obtain ⟨k, x, y, hxyk, rfl, hI⟩ := hrel
    obtain ⟨hx4, hy4⟩ := hI.out.le
    by_cases hx0 : x = 0
    · by_cases hy0 : y = 0
      · subst hx0; subst hy0
        obtain rfl : k = 8 := by omega
        by_cases hp : 8 < zs.length
        · obtain ⟨bb, off, rfl, hbb, cz⟩ := HZ.out.get hp hI.out.ext
          go_wp2_with (first
            | (go_at_call 18; refine (sw_left0 hI.out).mono ?_; rintro r w3 ⟨rfl, h⟩; have H3 := Lib.hid h; clear h hI)
            | (go_at_call 18; refine (sw_left1 H3.out).mono ?_; rintro r w4 ⟨rfl, h⟩; have H4 := Lib.hid h; clear h H3)
            | (go_at_call 14; refine (sw_done H4.out _).mono ?_; rintro r w5 ⟨rfl, h⟩; have H5 := Lib.hid h; clear h H4)
            | (go_at_call 14; refine (sw_stuck H4.out _).mono ?_; rintro r w5 ⟨rfl, h⟩; have H6 := Lib.hid h; clear h H4)
            | (go_at_call 13; refine (sw_enabled H6.out).mono ?_; rintro r w6 ⟨p6, cap6, rfl, h⟩; have H5 := Lib.hid h; clear h H6)
            | (go_at_call 12; refine (awake_any _).mono ?_; rintro r w9 ⟨rfl, hx⟩; have H9 := Lib.hid (H5.out.trans hx); clear hx H5))
          go_ret
          exact ⟨rfl, H9.out⟩
        · go_wp2_with (first
            | (go_at_call 18; refine (sw_left0 hI.out).mono ?_; rintro r w3 ⟨rfl, h⟩; have H3 := Lib.hid h; clear h hI)
            | (go_at_call 18; refine (sw_left1 H3.out).mono ?_; rintro r w4 ⟨rfl, h⟩; have H4 := Lib.hid h; clear h H3)
            | (go_at_call 14; refine (sw_done H4.out _).mono ?_; rintro r w5 ⟨rfl, h⟩; have H5 := Lib.hid h; clear h H4)
            | (go_at_call 14; refine (sw_stuck H4.out _).mono ?_; rintro r w5 ⟨rfl, h⟩; have H6 := Lib.hid h; clear h H4)
            | (go_at_call 13; refine (sw_enabled H6.out).mono ?_; rintro r w6 ⟨p6, cap6, rfl, h⟩; have H5 := Lib.hid h; clear h H6)
            | (go_at_call 12; refine (awake_any _).mono ?_; rintro r w9 ⟨rfl, hx⟩; have H9 := Lib.hid (H5.out.trans hx); clear hx H5))
          go_ret
          exact ⟨rfl, H9.out⟩
      · have HA := Lib.hid (show stGo x y by unfold stGo; omega)
        subst hx0
        by_cases hp : k < zs.length
        · obtain ⟨bb, off, rfl, hbb, cz⟩ := HZ.out.get hp hI.out.ext
          go_wp2_with (first
            | (go_at_call 18; refine (sw_left0 hI.out).mono ?_; rintro r w3 ⟨rfl, h⟩; have H3 := Lib.hid h; clear h hI)
            | (go_at_call 18; refine (sw_left1 H3.out).mono ?_; rintro r w4 ⟨rfl, h⟩; have H4 := Lib.hid h; clear h H3)
            | (go_at_call 14; refine (sw_go H4.out HA.out _).mono ?_; rintro r w5 ⟨t, x', y', rfl, hxy, h⟩; have H5 := Lib.hid h; clear h H4))
          go_roundw
          case rel => exact ⟨k + 1, x', y', by omega, by go_num, H5⟩
          case measure => simp [intOf]; omega
        · go_wp2_with (first
            | (go_at_call 18; refine (sw_left0 hI.out).mono ?_; rintro r w3 ⟨rfl, h⟩; have H3 := Lib.hid h; clear h hI)
            | (go_at_call 18; refine (sw_left1 H3.out).mono ?_; rintro r w4 ⟨rfl, h⟩; have H4 := Lib.hid h; clear h H3)
            | (go_at_call 14; refine (sw_go H4.out HA.out _).mono ?_; rintro r w5 ⟨t, x', y', rfl, hxy, h⟩; have H5 := Lib.hid h; clear h H4))
          go_roundw
          case rel => exact ⟨k + 1, x', y', by omega, by go_num, H5⟩
          case measure => simp [intOf]; omega
    · by_cases hx3 : x = 3
      · by_cases hy3 : y = 3
        · subst hx3; subst hy3
          obtain rfl : k = 2 := by omega
          by_cases hp : 2 < zs.length
          · obtain ⟨bb, off, rfl, hbb, cz⟩ := HZ.out.get hp hI.out.ext
            go_wp2_with (first
              | (go_at_call 18; refine (sw_left0 hI.out).mono ?_; rintro r w3 ⟨rfl, h⟩; have H3 := Lib.hid h; clear h hI)
              | (go_at_call 18; refine (sw_left1 H3.out).mono ?_; rintro r w4 ⟨rfl, h⟩; have H4 := Lib.hid h; clear h H3)
              | (go_at_call 14; refine (sw_done H4.out _).mono ?_; rintro r w5 ⟨rfl, h⟩; have H5 := Lib.hid h; clear h H4)
              | (go_at_call 14; refine (sw_stuck H4.out _).mono ?_; rintro r w5 ⟨rfl, h⟩; have H6 := Lib.hid h; clear h H4)
              | (go_at_call 13; refine (sw_enabled H6.out).mono ?_; rintro r w6 ⟨p6, cap6, rfl, h⟩; have H5 := Lib.hid h; clear h H6)
              | (go_at_call 12; refine (awake_any _).mono ?_; rintro r w9 ⟨rfl, hx⟩; have H9 := Lib.hid (H5.out.trans hx); clear hx H5))
            go_ret
            exact ⟨rfl, H9.out⟩
          · go_wp2_with (first
              | (go_at_call 18; refine (sw_left0 hI.out).mono ?_; rintro r w3 ⟨rfl, h⟩; have H3 := Lib.hid h; clear h hI)
              | (go_at_call 18; refine (sw_left1 H3.out).mono ?_; rintro r w4 ⟨rfl, h⟩; have H4 := Lib.hid h; clear h H3)
              | (go_at_call 14; refine (sw_done H4.out _).mono ?_; rintro r w5 ⟨rfl, h⟩; have H5 := Lib.hid h; clear h H4)
              | (go_at_call 14; refine (sw_stuck H4.out _).mono ?_; rintro r w5 ⟨rfl, h⟩; have H6 := Lib.hid h; clear h H4)
              | (go_at_call 13; refine (sw_enabled H6.out).mono ?_; rintro r w6 ⟨p6, cap6, rfl, h⟩; have H5 := Lib.hid h; clear h H6)
              | (go_at_call 12; refine (awake_any _).mono ?_; rintro r w9 ⟨rfl, hx⟩; have H9 := Lib.hid (H5.out.trans hx); clear hx H5))
            go_ret
            exact ⟨rfl, H9.out⟩
        · have HA := Lib.hid (show stGo x y by unfold stGo; omega)
          subst hx3
          by_cases hp : k < zs.length
          · obtain ⟨bb, off, rfl, hbb, cz⟩ := HZ.out.get hp hI.out.ext
            go_wp2_with (first
              | (go_at_call 18; refine (sw_left0 hI.out).mono ?_; rintro r w3 ⟨rfl, h⟩; have H3 := Lib.hid h; clear h hI)
              | (go_at_call 18; refine (sw_left1 H3.out).mono ?_; rintro r w4 ⟨rfl, h⟩; have H4 := Lib.hid h; clear h H3)
              | (go_at_call 14; refine (sw_go H4.out HA.out _).mono ?_; rintro r w5 ⟨t, x', y', rfl, hxy, h⟩; have H5 := Lib.hid h; clear h H4))
            go_roundw
            case rel => exact ⟨k + 1, x', y', by omega, by go_num, H5⟩
            case measure => simp [intOf]; omega
          · go_wp2_with (first
              | (go_at_call 18; refine (sw_left0 hI.out).mono ?_; rintro r w3 ⟨rfl, h⟩; have H3 := Lib.hid h; clear h hI)
              | (go_at_call 18; refine (sw_left1 H3.out).mono ?_; rintro r w4 ⟨rfl, h⟩; have H4 := Lib.hid h; clear h H3)
              | (go_at_call 14; refine (sw_go H4.out HA.out _).mono ?_; rintro r w5 ⟨t, x', y', rfl, hxy, h⟩; have H5 := Lib.hid h; clear h H4))
            go_roundw
            case rel => exact ⟨k + 1, x', y', by omega, by go_num, H5⟩
            case measure => simp [intOf]; omega
      · have HA := Lib.hid (show stGo x y by unfold stGo; omega)
        by_cases hp : k < zs.length
        · obtain ⟨bb, off, rfl, hbb, cz⟩ := HZ.out.get hp hI.out.ext
          go_wp2_with (first
            | (go_at_call 18; refine (sw_left0 hI.out).mono ?_; rintro r w3 ⟨rfl, h⟩; have H3 := Lib.hid h; clear h hI)
            | (go_at_call 18; refine (sw_left1 H3.out).mono ?_; rintro r w4 ⟨rfl, h⟩; have H4 := Lib.hid h; clear h H3)
            | (go_at_call 14; refine (sw_go H4.out HA.out _).mono ?_; rintro r w5 ⟨t, x', y', rfl, hxy, h⟩; have H5 := Lib.hid h; clear h H4))
          go_roundw
          case rel => exact ⟨k + 1, x', y', by omega, by go_num, H5⟩
          case measure => simp [intOf]; omega
        · go_wp2_with (first
            | (go_at_call 18; refine (sw_left0 hI.out).mono ?_; rintro r w3 ⟨rfl, h⟩; have H3 := Lib.hid h; clear h hI)
            | (go_at_call 18; refine (sw_left1 H3.out).mono ?_; rintro r w4 ⟨rfl, h⟩; have H4 := Lib.hid h; clear h H3)
            | (go_at_call 14; refine (sw_go H4.out HA.out _).mono ?_; rintro r w5 ⟨t, x', y', rfl, hxy, h⟩; have H5 := Lib.hid h; clear h H4))
          go_roundw
          case rel => exact ⟨k + 1, x', y', by omega, by go_num, H5⟩
          case measure => simp [intOf]; omega

end Go.Proofs.Ytfgfbmmidijgoaa
