/- The walk of SchedFair. -/
import Derived.Test.YtfgfbmmidijgoaaFair
namespace Go.Proofs.Ytfgfbmmidijgoaa
open Go.RowKit
set_option linter.unusedVariables false

def FairW (W w : World) (b n k : Nat) : Prop := ∃ s, SchG W w b (fun _ => False) s ∧ FairI n k s
section
variable {W w : World} {b n k : Nat}
theorem FairW.ext (h : FairW W w b n k) : Ext W w := by obtain ⟨s, h, -⟩ := h; exact h.ext
theorem fw_enabled (h : FairW W w b n k) (hk : k < 5 * n) : Calls Try.prog 13 #[.pointer (some ⟨b, 0, none⟩)] w fun r w' => ∃ g m cap, r = .returned (.slice (some ⟨g, 0, none⟩) m cap) ∧ 0 < m ∧ m ≤ n ∧ g < w'.heap.size ∧ (∀ j, j < m → ∃ x : Int, w'.cell? ⟨g, j, none⟩ = some (.int .i64 x)) ∧ FairW W w' b n k := by
  obtain ⟨s, h, hi⟩ := h
  obtain ⟨h0, hn⟩ := hi.ne hk
  refine (g_enabled h).mono ?_
  rintro r w' ⟨v, rfl, hown, hx⟩
  obtain ⟨p, cap, rfl, -, -, hp⟩ := owns_form hown
  obtain ⟨g, rfl, -, hg⟩ := hp.resolve_left (by omega)
  refine ⟨g, _, cap, rfl, h0, hn, hg, fun j hj => ?_, s, h.later hx, hi⟩
  rw [hown.cellAt j (by omega)]
  unfold ints
  rw [List.getElem?_map, List.getElem?_eq_getElem hj]
  exact ⟨_, rfl⟩
theorem fw_go (h : FairW W w b n k) (hk : k < 5 * n) (pick : Int) :
    Calls Try.prog 14 #[.pointer (some ⟨b, 0, none⟩), .int .i64 pick] w fun e w' => ∃ i : Nat, e = .returned (.tuple #[.int .i64 i, .int .i64 0]) ∧ i < n ∧ FairW W w' b n (k + 1) := by
  obtain ⟨s, h, hi⟩ := h
  refine (g_go h pick).mono ?_
  rintro e w' ⟨rfl, h', -⟩
  obtain ⟨i, hin, e1, e2, hi'⟩ := hi.go hk pick
  rw [e1, e2]
  exact ⟨i, rfl, hin, _, h', hi'⟩
theorem fw_done (h : FairW W w b n (5 * n)) (pick : Int) :
    Calls Try.prog 14 #[.pointer (some ⟨b, 0, none⟩), .int .i64 pick] w fun e w' => e = .returned (.tuple #[.int .i64 0, .int .i64 22]) ∧ FairW W w' b n (5 * n) := by
  obtain ⟨s, h, hi⟩ := h
  refine (g_go h pick).mono ?_
  rintro e w' ⟨rfl, h', -⟩
  rw [hi.done pick] at h' ⊢
  exact ⟨rfl, s, h', hi⟩
theorem fw_said (h : FairW W w b n (5 * n)) : Calls Try.prog 15 #[.pointer (some ⟨b, 0, none⟩)] w fun r w' => ∃ p cap, r = .returned (.slice p n cap) ∧ Ext W w' := by
  obtain ⟨s, h, hi⟩ := h
  refine (g_said h).mono ?_
  rintro r w' ⟨v, rfl, hown, hx⟩
  rw [hi.all] at hown
  obtain ⟨p, cap, rfl, -⟩ := owns_form hown
  exact ⟨p, cap, rfl, h.ext.trans hx⟩
end

theorem fT_cells (w : World) (W : World) (hx : W.heap.size ≤ w.heap.size) (i k : Int) : StRow (w.alloc (.cells #[.int .i64 1, .int .i64 k, .int .i64 0, .int .i64 1, .int .i64 (k + 1), .int .i64 0, .int .i64 5, .int .i64 i, .int .i64 0, .int .i64 2, .int .i64 k, .int .i64 0, .int .i64 2, .int .i64 (k + 1), .int .i64 0] 25)) (fun g => W.heap.size ≤ g ∧ g < (w.alloc (.cells #[.int .i64 1, .int .i64 k, .int .i64 0, .int .i64 1, .int .i64 (k + 1), .int .i64 0, .int .i64 5, .int .i64 i, .int .i64 0, .int .i64 2, .int .i64 k, .int .i64 0, .int .i64 2, .int .i64 (k + 1), .int .i64 0] 25)).heap.size) (.slice (some ⟨w.heap.size, 0, none⟩) 5 5) (fT i k) :=
  strow_blk (Blk.new w _ _) rfl rfl ⟨hx, by rw [World.size_alloc]; omega⟩ (by unfold maxLen; omega)


set_option maxRecDepth 20000 in
set_option maxHeartbeats 8000000 in
theorem walk_SchedFair (v : Value) (zs : List Int) (W : World) (hz : ZsIn W .i64 v zs) :
    Calls Try.prog 4 #[v] W fun e W' => e = .returned (.bool true) ∧ Ext W W' := by
  obtain ⟨i0, hi0, hz0, hz1, hz2⟩ := info_parts row_info
  obtain ⟨p, cap, rfl, hz, hl⟩ := hz.open_
  by_cases h20 : 20 < zs.length
  · clear hz
    go_enter Try.func4, Try.ntmps4
    go_wp2
    go_ret
    exact ⟨rfl, Ext.refl _⟩
  have h20 : zs.length ≤ 20 := by omega
  have HZ := Lib.hid hz
  clear hz hl
  go_enter Try.func4, Try.ntmps4
  go_wp2
  go_loopw [3, 4, 5] (fun v st i wr => ∃ k : Nat, k ≤ zs.length ∧ i = .int .i64 k ∧ st = .int .i64 ((5 * k : Nat) : Int) ∧ ∃ vals, Hid (TasksAt W wr v vals (fairN zs k))) (fun _ _ i _ => zs.length - (intOf i).toNat)
  case atStart => exact ⟨0, by omega, rfl, rfl, _, Lib.hid (TasksAt.start W)⟩
  case round =>
    obtain ⟨k, hk, rfl, rfl, vals, hR⟩ := hrel
    obtain ⟨pv, capv, rfl, -, -, -⟩ := owns_form hR.out.own
    rw [fairN_len]
    by_cases hlt : k < zs.length
    · obtain ⟨bb, off, rfl, hbb, cz⟩ := HZ.out.get hlt hR.out.ext
      have hkF := kF_le (zs.getD k 0)
      have HU := Lib.hid (fairN_succ zs k)
      have HKF : bits .and .i64 (zs.getD k 0) 7 = kF (zs.getD k 0) := rfl
      have HOW : Hid (wr.ownsRow W.heap.size 23 1 (.slice pv k capv) k vals) := Lib.hid (by have := hR.out.own; rwa [fairN_len] at this)
      have HT0 : Hid (TasksAt W wr (.slice pv k capv) vals (fairN zs k)) := Lib.hid (by have := hR.out; rwa [fairN_len] at this)
      generalize kF (zs.getD k 0) = c at *
      generalize zs.getD k 0 = z at *
      obtain ⟨hc0, hc7⟩ := hkF
      clear hR
      go_wp2_with (first | (at_builtin; refine wpList_append_all W.heap.size _ rfl (.tmp 45) (.tmp 47) 22 rfl 23 i0 _ 1 24 Try.underlying22 hi0 hz0 hz1 hz2 rfl (by decide) _ _ _ (by rfl) (by exact owns_later HOW.out ((((Ext.refl _).alloc _ _).alloc _ _).below)) (.slice (some ⟨wr.heap.size + 1, 0, none⟩) 1 1) 1 [.slice (some ⟨wr.heap.size, 0, none⟩) 5 5] (by rfl) (by have := src_one (wr.alloc (.cells #[.int .i64 1, .int .i64 c, .int .i64 0, .int .i64 1, .int .i64 (c + 1), .int .i64 0, .int .i64 5, .int .i64 k, .int .i64 0, .int .i64 2, .int .i64 c, .int .i64 0, .int .i64 2, .int .i64 (c + 1), .int .i64 0] 25)) [.slice (some ⟨wr.heap.size, 0, none⟩) 5 5] 23 1 rfl; rw [World.size_alloc] at this; exact this) (by intro u hu; simp at hu; subst hu; rfl) (by unfold maxLen; omega) (by omega) (by have := HT0.out.ext.size; simp; omega) ?_) | fail)
      intro v' w2 hown hc _
      have HN : Hid (TasksAt W w2 v' (vals ++ [.slice (some ⟨wr.heap.size, 0, none⟩) 5 5]) (fairN zs (k + 1))) := Lib.hid (by
        rw [HU.out]
        exact (HT0.out.later ((Ext.refl _).alloc _ _)).add (fT_cells wr W HT0.out.ext.size k c) (by rw [fairN_len]; exact hown) hc)
      obtain ⟨p', cap', rfl, -, -, -⟩ := owns_form hown
      clear hown hc HOW HT0 HU
      go_wp2_with fail
      go_roundw
      case rel => exact ⟨k + 1, by omega, by go_num, by go_num, _, HN⟩
      case measure => simp [intOf]; omega
    · obtain rfl : k = zs.length := by omega
      have HT0 : Hid (TsIn wr (.slice pv zs.length capv) (fairN zs zs.length)) := Lib.hid (by have := hR.out.tsin; rwa [fairN_len] at this)
      have HX := Lib.hid hR.out.ext
      clear hR
      go_wp2_with (first
        | (go_at_call 11; refine (g_new (W := W) (R := fun _ => False) HX.out (fun _ h => h.elim) (fairN zs zs.length) _ HT0.out (by rw [fairN_len]; omega) (by rw [fairN_total]; omega) (fairN_wf zs _ (by omega)) (by rw [fairN_len]; omega) (by rw [fairN_total]; omega) (fairN_ok zs _)).mono ?_; rintro r w1 ⟨b, rfl, h, -⟩; have H1 := Lib.hid (show FairW W w1 b zs.length 0 from ⟨_, h, FairI.start zs⟩); clear h))
      go_loopw [10, 11] (fun tn i wr => ∃ (k : Nat) (t : Int), k ≤ 5 * zs.length ∧ tn = .int .i64 t ∧ i = .int .i64 k ∧ Hid (FairW W wr b zs.length k)) (fun _ i _ => 5 * zs.length - (intOf i).toNat)
      case atStart => exact ⟨0, 0, by omega, rfl, rfl, H1⟩
      case round =>
        obtain ⟨k, t, hk, rfl, rfl, hI⟩ := hrel
        by_cases hlt : k < 5 * zs.length
        · go_wp2_with (first
            | (go_at_call 13; refine (fw_enabled hI.out hlt).mono ?_; rintro r w3 ⟨g, m, capm, rfl, hm0, hmn, hg, hcell, h⟩; have H3 := Lib.hid h; have HC := Lib.hid hcell; clear h hcell hI))
          obtain ⟨W3, rfl⟩ : ∃ W3, W3 = w3 := ⟨_, rfl⟩
          go_loopw [13] (fun i wr => ∃ j : Nat, j ≤ m ∧ i = .int .i64 j ∧ wr = W3) (fun i _ => m - (intOf i).toNat)
          case atStart => exact ⟨0, by omega, rfl, rfl⟩
          case round =>
            obtain ⟨j, hj, rfl, rfl⟩ := hrel
            by_cases hjm : j < m
            · obtain ⟨x, hx⟩ := HC.out j hjm
              by_cases hxt : x < t
              · go_wp2_with fail
                go_roundw
                case rel => exact ⟨j + 1, by omega, by go_num, trivial⟩
                case measure => simp [intOf]; omega
              · go_wp2_with (first
                  | (go_at_call 14; refine (fw_go H3.out hlt _).mono ?_; rintro r w4 ⟨i, rfl, hin, h⟩; have H4 := Lib.hid h; clear h H3))
                all_goals (
                  go_roundw
                  case rel => exact ⟨k + 1, _, by omega, rfl, by go_num, H4⟩
                  case measure => simp [intOf]; omega)
            · obtain rfl : j = m := by omega
              go_wp2_with (first
                | (go_at_call 14; refine (fw_go H3.out hlt _).mono ?_; rintro r w4 ⟨i, rfl, hin, h⟩; have H4 := Lib.hid h; clear h H3))
              all_goals (
                go_roundw
                case rel => exact ⟨k + 1, _, by omega, rfl, by go_num, H4⟩
                case measure => simp [intOf]; omega)
        · obtain rfl : k = 5 * zs.length := by omega
          go_wp2_with (first
            | (go_at_call 14; refine (fw_done hI.out 0).mono ?_; rintro r w3 ⟨rfl, h⟩; have H3 := Lib.hid h; clear h hI)
            | (go_at_call 15; refine (fw_said H3.out).mono ?_; rintro r w4 ⟨p4, cap4, rfl, hx⟩; have H4 := Lib.hid hx; clear hx H3)
            | (go_at_call 12; refine (awake_any _).mono ?_; rintro r w9 ⟨rfl, hx⟩; have H9 := Lib.hid (H4.out.trans hx); clear hx H4))
          go_ret
          exact ⟨rfl, H9.out⟩

end Go.Proofs.Ytfgfbmmidijgoaa
