/- The reference's rows of truths: Sum. -/
import Derived.Test.YtmiogoecjoldoaaRefBB
import Derived.Test.YtmiogoecjoldoaaSumsP
import Derived.Deep.LoopGhost
namespace Go.Proofs.Ytmiogoecjoldoaa
open Go.RowKit
set_option linter.unusedVariables false

theorem start_of {f : Nat → Bool} {x : Nat} (hx : x ≤ 512) (h : ∀ j, j < x → f j = false) (he : x = 512 ∨ f x = true) : startS f 512 = x := by
  obtain ⟨h1, h2⟩ := startS_spec f 512
  have hle := startS_le f 512
  generalize startS f 512 = s at *
  rcases Nat.lt_trichotomy s x with hlt | rfl | hgt
  · rcases h2 with h2 | ⟨h2, h3⟩
    · omega
    · rw [h s hlt] at h3; cases h3
  · rfl
  · rcases he with he | he
    · omega
    · rw [h1 x hgt] at he; cases he
theorem end_of {f : Nat → Bool} {y : Nat} (hy : y ≤ 512) (h : ∀ j, j < y → f (511 - j) = false) (he : y = 512 ∨ f (511 - y) = true) : endS f 512 = y := by
  obtain ⟨h1, h2⟩ := endS_spec f 512
  have hle := endS_le f 512
  generalize endS f 512 = s at *
  rcases Nat.lt_trichotomy s y with hlt | rfl | hgt
  · rcases h2 with h2 | h2
    · omega
    · have := h s hlt
      rw [show 512 - s - 1 = 511 - s by omega, this] at h2; cases h2
  · rfl
  · rcases he with he | he
    · omega
    · rw [h1 (511 - y) (by omega) (by omega)] at he; cases he

theorem SuRel.end_ {w wr : World} {g : Nat} {x y z : Int} (h : SuRel w wr g x y z) (hg : w.heap.size ≤ g) (u : Int) : SuRel w (wr.setCell ⟨g + 1, 2, none⟩ (.int .i64 u)) g x y u :=
  ⟨h.res.far (p := ⟨g + 1, 2, none⟩) (by simp) _, h.sum.set_ 2 (.int .i64 u), h.ext.setCell (by simp; omega) _⟩
theorem SuRel.drewN {w wr : World} {g : Nat} {x y z : Int} (h : SuRel w wr g x y z) (n : Nat) : SuRel w (wr.drewN n) g x y z := ⟨h.res.drewN n, h.sum.drewN n, h.ext.drewN' n⟩

set_option maxRecDepth 20000 in
set_option maxHeartbeats 4000000 in
theorem rsum_any (b o : Nat) (f : Nat → Bool) (w : World) (h : TrueAt w b o f) :
    Calls Try.prog 18 #[.pointer (some ⟨b, o, none⟩)] w fun r w' => r = .returned (sumV f) ∧ Ext w w' := by
  have HH := Lib.hid h
  have hlt := h.lt
  clear h
  go_enter Try.func18, Try.ntmps18
  go_wp2
  go_loopg [] 512 (fun gk wr => ∃ x : Nat, x ≤ 512 ∧ gk = 512 - x ∧ Hid (SuRel w wr w.heap.size x 0 0) ∧ Hid (∀ j, j < x → f j = false))
  case atStart =>
    refine ⟨0, by omega, rfl, Lib.hid ⟨(Blk.new w _ _).alloc _, ?_, ((Ext.refl _).alloc _ _).alloc _ _⟩, Lib.hid (fun j hj => by omega)⟩
    have := Blk.new (w.alloc (.cells #[.int .i64 0, .int .i64 0, .int .i64 0] 34)) 34 #[.int .i64 0, .int .i64 0, .int .i64 0]
    simp only [World.size_alloc] at this
    exact this
  case round =>
    obtain ⟨x, hx, rfl, hR, hF⟩ := hrel
    have c0 := hR.out.sum.cell 0
    simp only [List.getElem?_toArray, List.getElem?_cons_zero] at c0
    have fs := hR.out.sum.frozen 0
    by_cases hgo : x < 512 ∧ f x = false
    · obtain ⟨hlt2, hf⟩ := hgo
      have hc := (HH.out.later hR.out.ext).cell x hlt2
      have hx5 : (x : Int) < 512 := by omega
      rw [hf] at hc
      have HF := Lib.hid (show ∀ j, j < x + 1 → f j = false from fun j hj => by
        by_cases e : j = x
        · rw [e]; exact hf
        · exact hF.out j (by omega))
      have HS := Lib.hid (fun n => (hR.out.drewN n).start_ (Nat.le_refl _) ((x : Int) + 1))
      clear hF hf hR
      go_wp2_with fail
      go_quiet (fail)
      go_wp2_with fail
      go_roundg (512 - (x + 1))
      case measure => omega
      case rel => exact ⟨x + 1, by omega, rfl, Lib.hid (by rw [show ((x + 1 : Nat) : Int) = (x : Int) + 1 from rfl]; exact HS.out nq), HF⟩
    · have hway : (x < 512 ∧ f x = true) ∨ x = 512 := by
        by_cases e : x < 512
        · left
          refine ⟨e, ?_⟩
          cases hf : f x
          · exact absurd ⟨e, hf⟩ hgo
          · rfl
        · right; omega
      have HS := Lib.hid (start_of hx hF.out (hway.elim (fun h => .inr h.2) .inl))
      clear hgo hF
      have HV := Lib.hid (show sumV f = .agg #[.int .i64 (startS f 512 : Nat), .int .i64 (maxS f 512 : Nat), .int .i64 (endS f 512 : Nat)] from rfl)
      rw [HS.out] at HV
      clear HS
      rcases hway with ⟨hlt2, hf⟩ | rfl
      · have hc := (HH.out.later hR.out.ext).cell x hlt2
        have hx5 : (x : Int) < 512 := by omega
        rw [hf] at hc
        clear hf
        go_wp2_with fail
        go_quiet (fail)
        clear hc
        go_wp2_with fail
        go_loopg [] 512 (fun gk wr => ∃ y : Nat, y ≤ 512 ∧ gk = 512 - y ∧ Hid (SuRel w wr w.heap.size (x : Nat) 0 y) ∧ Hid (∀ j, j < y → f (511 - j) = false))
        case atStart => exact ⟨0, by omega, rfl, Lib.hid (hR.out.drewN _), Lib.hid (fun j hj => by omega)⟩
        case round =>
          obtain ⟨y, hy, rfl, hR2, hF⟩ := hrel
          clear c0 fs hR
          have c2 := hR2.out.sum.cell 2
          simp only [List.getElem?_toArray, List.getElem?_cons_succ, List.getElem?_cons_zero] at c2
          have fs := hR2.out.sum.frozen 2
          by_cases hgo : y < 512 ∧ f (511 - y) = false
          · obtain ⟨hlt3, hf⟩ := hgo
            have hc := (HH.out.later hR2.out.ext).cell (511 - y) (by omega)
            have hy5 : (y : Int) < 512 := by omega
            have hy6 : (0 : Int) ≤ 511 - y := by omega
            rw [hf] at hc
            have HF := Lib.hid (show ∀ j, j < y + 1 → f (511 - j) = false from fun j hj => by
              by_cases e : j = y
              · rw [e]; exact hf
              · exact hF.out j (by omega))
            have HS := Lib.hid (fun n => (hR2.out.drewN n).end_ (Nat.le_refl _) ((y : Int) + 1))
            clear hF hf hR2
            go_wp2_with fail
            go_quiet (fail)
            go_wp2_with fail
            go_roundg (512 - (y + 1))
            case measure => omega
            case rel => exact ⟨y + 1, by omega, rfl, Lib.hid (by rw [show ((y + 1 : Nat) : Int) = (y : Int) + 1 from rfl]; exact HS.out nq), HF⟩
          · have hway : (y < 512 ∧ f (511 - y) = true) ∨ y = 512 := by
              by_cases e : y < 512
              · left
                refine ⟨e, ?_⟩
                cases hf : f (511 - y)
                · exact absurd ⟨e, hf⟩ hgo
                · rfl
              · right; omega
            have HE := Lib.hid (end_of hy hF.out (hway.elim (fun h => .inr h.2) .inl))
            clear hgo hF
            rw [HE.out] at HV
            clear HE
            rcases hway with ⟨hlt3, hf⟩ | rfl
            · have hc := (HH.out.later hR2.out.ext).cell (511 - y) (by omega)
              have hy5 : (y : Int) < 512 := by omega
              have hy6 : (0 : Int) ≤ 511 - y := by omega
              rw [hf] at hc
              clear hf
              go_wp2_with fail
              go_quiet (fail)
              clear hc
              go_wp2_with fail
              go_loopw [4, 5] (fun vr vi wr => ∃ k : Nat, k ≤ 512 ∧ vi = .int .i64 k ∧ vr = .int .i64 (endS f k : Nat) ∧ Hid (SuRel w wr w.heap.size (x : Nat) (maxS f k : Nat) (y : Nat))) (fun _ vi _ => 512 - (intOf vi).toNat)
              case atStart => exact ⟨0, by omega, rfl, rfl, Lib.hid (hR2.out.drewN _)⟩
              case round =>
                obtain ⟨k, hk, rfl, rfl, hR⟩ := hrel
                clear c2 fs hR2
                have hme := maxS_le f k
                have hee := endS_le f k
                have c0 := hR.out.sum.cell 0
                have c1 := hR.out.sum.cell 1
                have c2 := hR.out.sum.cell 2
                simp only [List.getElem?_toArray, List.getElem?_cons_succ, List.getElem?_cons_zero] at c0 c1 c2
                have fs := hR.out.sum.frozen
                by_cases hlt4 : k < 512
                · have hc := (HH.out.later hR.out.ext).cell k hlt4
                  have hk5 : (k : Int) < 512 := by omega
                  cases hf : f k
                  · rw [hf] at hc
                    have HE := Lib.hid (endS_on f k hf)
                    by_cases hm : maxS f k < endS f k + 1
                    · have hm2 : ((maxS f k : Nat) : Int) < ((endS f k : Nat) : Int) + 1 := by omega
                      have HM := Lib.hid (maxS_more f k hf hm)
                      have HN := Lib.hid (show SuRel w _ w.heap.size (x : Nat) (maxS f (k + 1) : Nat) (y : Nat) by
                        rw [HM.out]
                        have e2 : ((endS f k + 1 : Nat) : Int) = ((endS f k : Nat) : Int) + 1 := by omega
                        rw [e2]
                        exact hR.out.max_ (Nat.le_refl _) ((endS f k : Nat) + 1))
                      clear hm hR hf
                      generalize endS f k = e at *
                      generalize maxS f k = m at *
                      go_wp2
                      go_roundw
                      case rel => exact ⟨k + 1, hlt4, by go_num, by rw [HE.out]; go_num, HN⟩
                      case measure => simp [intOf]; omega
                    · have hm2 : ¬ ((maxS f k : Nat) : Int) < ((endS f k : Nat) : Int) + 1 := by omega
                      have HM := Lib.hid (maxS_same f k hf hm)
                      have HN := Lib.hid (show SuRel w _ w.heap.size (x : Nat) (maxS f (k + 1) : Nat) (y : Nat) by
                        rw [HM.out]
                        exact hR.out)
                      clear hm hR hf
                      generalize endS f k = e at *
                      generalize maxS f k = m at *
                      go_wp2
                      go_roundw
                      case rel => exact ⟨k + 1, hlt4, by go_num, by rw [HE.out]; go_num, HN⟩
                      case measure => simp [intOf]; omega
                  · rw [hf] at hc
                    have HE := Lib.hid (endS_hit f k hf)
                    have HN := Lib.hid (show SuRel w wr w.heap.size (x : Nat) (maxS f (k + 1) : Nat) (y : Nat) by
                      rw [maxS_hit f k hf]; exact hR.out)
                    clear hR hf
                    generalize endS f k = e at *
                    generalize maxS f k = m at *
                    go_wp2
                    go_roundw
                    case rel => exact ⟨k + 1, hlt4, by go_num, by rw [HE.out]; rfl, HN⟩
                    case measure => simp [intOf]; omega
                · obtain rfl : k = 512 := by omega
                  have d0 := hR.out.res.cell 0
                  have d1 := hR.out.res.cell 1
                  have d2 := hR.out.res.cell 2
                  simp only [List.getElem?_toArray, List.getElem?_cons_succ, List.getElem?_cons_zero] at d0 d1 d2
                  have fr := hR.out.res.frozen
                  have HX := Lib.hid hR.out.ext
                  clear hR hlt4 hk
                  generalize endS f 512 = e at *
                  generalize maxS f 512 = m at *
                  go_wp2
                  refine bodyPost_ret (v := .agg #[.int .i64 (x : Nat), .int .i64 (m : Nat), .int .i64 (y : Nat)]) ?c1 ?c2 ?c3
                  case c2 => rfl
                  case c3 => exact ⟨by rw [HV.out]; first | done | rfl, (((HX.out.setCell (by simp) _).setCell (by simp) _).setCell (by simp) _)⟩
                  case c1 => simp [results, Try.results18, go_sem, d0, d1, d2]
            · go_wp2_with fail
              go_quiet (fail)
              go_wp2_with fail
              go_loopw [4, 5] (fun vr vi wr => ∃ k : Nat, k ≤ 512 ∧ vi = .int .i64 k ∧ vr = .int .i64 (endS f k : Nat) ∧ Hid (SuRel w wr w.heap.size (x : Nat) (maxS f k : Nat) (512 : Nat))) (fun _ vi _ => 512 - (intOf vi).toNat)
              case atStart => exact ⟨0, by omega, rfl, rfl, Lib.hid (hR2.out.drewN _)⟩
              case round =>
                obtain ⟨k, hk, rfl, rfl, hR⟩ := hrel
                clear c2 fs hR2
                have hme := maxS_le f k
                have hee := endS_le f k
                have c0 := hR.out.sum.cell 0
                have c1 := hR.out.sum.cell 1
                have c2 := hR.out.sum.cell 2
                simp only [List.getElem?_toArray, List.getElem?_cons_succ, List.getElem?_cons_zero] at c0 c1 c2
                have fs := hR.out.sum.frozen
                by_cases hlt4 : k < 512
                · have hc := (HH.out.later hR.out.ext).cell k hlt4
                  have hk5 : (k : Int) < 512 := by omega
                  cases hf : f k
                  · rw [hf] at hc
                    have HE := Lib.hid (endS_on f k hf)
                    by_cases hm : maxS f k < endS f k + 1
                    · have hm2 : ((maxS f k : Nat) : Int) < ((endS f k : Nat) : Int) + 1 := by omega
                      have HM := Lib.hid (maxS_more f k hf hm)
                      have HN := Lib.hid (show SuRel w _ w.heap.size (x : Nat) (maxS f (k + 1) : Nat) (512 : Nat) by
                        rw [HM.out]
                        have e2 : ((endS f k + 1 : Nat) : Int) = ((endS f k : Nat) : Int) + 1 := by omega
                        rw [e2]
                        exact hR.out.max_ (Nat.le_refl _) ((endS f k : Nat) + 1))
                      clear hm hR hf
                      generalize endS f k = e at *
                      generalize maxS f k = m at *
                      go_wp2
                      go_roundw
                      case rel => exact ⟨k + 1, hlt4, by go_num, by rw [HE.out]; go_num, HN⟩
                      case measure => simp [intOf]; omega
                    · have hm2 : ¬ ((maxS f k : Nat) : Int) < ((endS f k : Nat) : Int) + 1 := by omega
                      have HM := Lib.hid (maxS_same f k hf hm)
                      have HN := Lib.hid (show SuRel w _ w.heap.size (x : Nat) (maxS f (k + 1) : Nat) (512 : Nat) by
                        rw [HM.out]
                        exact hR.out)
                      clear hm hR hf
                      generalize endS f k = e at *
                      generalize maxS f k = m at *
                      go_wp2
                      go_roundw
                      case rel => exact ⟨k + 1, hlt4, by go_num, by rw [HE.out]; go_num, HN⟩
                      case measure => simp [intOf]; omega
                  · rw [hf] at hc
                    have HE := Lib.hid (endS_hit f k hf)
                    have HN := Lib.hid (show SuRel w wr w.heap.size (x : Nat) (maxS f (k + 1) : Nat) (512 : Nat) by
                      rw [maxS_hit f k hf]; exact hR.out)
                    clear hR hf
                    generalize endS f k = e at *
                    generalize maxS f k = m at *
                    go_wp2
                    go_roundw
                    case rel => exact ⟨k + 1, hlt4, by go_num, by rw [HE.out]; rfl, HN⟩
                    case measure => simp [intOf]; omega
                · obtain rfl : k = 512 := by omega
                  have d0 := hR.out.res.cell 0
                  have d1 := hR.out.res.cell 1
                  have d2 := hR.out.res.cell 2
                  simp only [List.getElem?_toArray, List.getElem?_cons_succ, List.getElem?_cons_zero] at d0 d1 d2
                  have fr := hR.out.res.frozen
                  have HX := Lib.hid hR.out.ext
                  clear hR hlt4 hk
                  generalize endS f 512 = e at *
                  generalize maxS f 512 = m at *
                  go_wp2
                  refine bodyPost_ret (v := .agg #[.int .i64 (x : Nat), .int .i64 (m : Nat), .int .i64 (512 : Nat)]) ?c1 ?c2 ?c3
                  case c2 => rfl
                  case c3 => exact ⟨by rw [HV.out]; first | done | rfl, (((HX.out.setCell (by simp) _).setCell (by simp) _).setCell (by simp) _)⟩
                  case c1 => simp [results, Try.results18, go_sem, d0, d1, d2]
      · go_wp2_with fail
        go_quiet (fail)
        go_wp2_with fail
        go_loopg [] 512 (fun gk wr => ∃ y : Nat, y ≤ 512 ∧ gk = 512 - y ∧ Hid (SuRel w wr w.heap.size (512 : Nat) 0 y) ∧ Hid (∀ j, j < y → f (511 - j) = false))
        case atStart => exact ⟨0, by omega, rfl, Lib.hid (hR.out.drewN _), Lib.hid (fun j hj => by omega)⟩
        case round =>
          obtain ⟨y, hy, rfl, hR2, hF⟩ := hrel
          clear c0 fs hR
          have c2 := hR2.out.sum.cell 2
          simp only [List.getElem?_toArray, List.getElem?_cons_succ, List.getElem?_cons_zero] at c2
          have fs := hR2.out.sum.frozen 2
          by_cases hgo : y < 512 ∧ f (511 - y) = false
          · obtain ⟨hlt3, hf⟩ := hgo
            have hc := (HH.out.later hR2.out.ext).cell (511 - y) (by omega)
            have hy5 : (y : Int) < 512 := by omega
            have hy6 : (0 : Int) ≤ 511 - y := by omega
            rw [hf] at hc
            have HF := Lib.hid (show ∀ j, j < y + 1 → f (511 - j) = false from fun j hj => by
              by_cases e : j = y
              · rw [e]; exact hf
              · exact hF.out j (by omega))
            have HS := Lib.hid (fun n => (hR2.out.drewN n).end_ (Nat.le_refl _) ((y : Int) + 1))
            clear hF hf hR2
            go_wp2_with fail
            go_quiet (fail)
            go_wp2_with fail
            go_roundg (512 - (y + 1))
            case measure => omega
            case rel => exact ⟨y + 1, by omega, rfl, Lib.hid (by rw [show ((y + 1 : Nat) : Int) = (y : Int) + 1 from rfl]; exact HS.out nq), HF⟩
          · have hway : (y < 512 ∧ f (511 - y) = true) ∨ y = 512 := by
              by_cases e : y < 512
              · left
                refine ⟨e, ?_⟩
                cases hf : f (511 - y)
                · exact absurd ⟨e, hf⟩ hgo
                · rfl
              · right; omega
            have HE := Lib.hid (end_of hy hF.out (hway.elim (fun h => .inr h.2) .inl))
            clear hgo hF
            rw [HE.out] at HV
            clear HE
            rcases hway with ⟨hlt3, hf⟩ | rfl
            · have hc := (HH.out.later hR2.out.ext).cell (511 - y) (by omega)
              have hy5 : (y : Int) < 512 := by omega
              have hy6 : (0 : Int) ≤ 511 - y := by omega
              rw [hf] at hc
              clear hf
              go_wp2_with fail
              go_quiet (fail)
              clear hc
              go_wp2_with fail
              go_loopw [4, 5] (fun vr vi wr => ∃ k : Nat, k ≤ 512 ∧ vi = .int .i64 k ∧ vr = .int .i64 (endS f k : Nat) ∧ Hid (SuRel w wr w.heap.size (512 : Nat) (maxS f k : Nat) (y : Nat))) (fun _ vi _ => 512 - (intOf vi).toNat)
              case atStart => exact ⟨0, by omega, rfl, rfl, Lib.hid (hR2.out.drewN _)⟩
              case round =>
                obtain ⟨k, hk, rfl, rfl, hR⟩ := hrel
                clear c2 fs hR2
                have hme := maxS_le f k
                have hee := endS_le f k
                have c0 := hR.out.sum.cell 0
                have c1 := hR.out.sum.cell 1
                have c2 := hR.out.sum.cell 2
                simp only [List.getElem?_toArray, List.getElem?_cons_succ, List.getElem?_cons_zero] at c0 c1 c2
                have fs := hR.out.sum.frozen
                by_cases hlt4 : k < 512
                · have hc := (HH.out.later hR.out.ext).cell k hlt4
                  have hk5 : (k : Int) < 512 := by omega
                  cases hf : f k
                  · rw [hf] at hc
                    have HE := Lib.hid (endS_on f k hf)
                    by_cases hm : maxS f k < endS f k + 1
                    · have hm2 : ((maxS f k : Nat) : Int) < ((endS f k : Nat) : Int) + 1 := by omega
                      have HM := Lib.hid (maxS_more f k hf hm)
                      have HN := Lib.hid (show SuRel w _ w.heap.size (512 : Nat) (maxS f (k + 1) : Nat) (y : Nat) by
                        rw [HM.out]
                        have e2 : ((endS f k + 1 : Nat) : Int) = ((endS f k : Nat) : Int) + 1 := by omega
                        rw [e2]
                        exact hR.out.max_ (Nat.le_refl _) ((endS f k : Nat) + 1))
                      clear hm hR hf
                      generalize endS f k = e at *
                      generalize maxS f k = m at *
                      go_wp2
                      go_roundw
                      case rel => exact ⟨k + 1, hlt4, by go_num, by rw [HE.out]; go_num, HN⟩
                      case measure => simp [intOf]; omega
                    · have hm2 : ¬ ((maxS f k : Nat) : Int) < ((endS f k : Nat) : Int) + 1 := by omega
                      have HM := Lib.hid (maxS_same f k hf hm)
                      have HN := Lib.hid (show SuRel w _ w.heap.size (512 : Nat) (maxS f (k + 1) : Nat) (y : Nat) by
                        rw [HM.out]
                        exact hR.out)
                      clear hm hR hf
                      generalize endS f k = e at *
                      generalize maxS f k = m at *
                      go_wp2
                      go_roundw
                      case rel => exact ⟨k + 1, hlt4, by go_num, by rw [HE.out]; go_num, HN⟩
                      case measure => simp [intOf]; omega
                  · rw [hf] at hc
                    have HE := Lib.hid (endS_hit f k hf)
                    have HN := Lib.hid (show SuRel w wr w.heap.size (512 : Nat) (maxS f (k + 1) : Nat) (y : Nat) by
                      rw [maxS_hit f k hf]; exact hR.out)
                    clear hR hf
                    generalize endS f k = e at *
                    generalize maxS f k = m at *
                    go_wp2
                    go_roundw
                    case rel => exact ⟨k + 1, hlt4, by go_num, by rw [HE.out]; rfl, HN⟩
                    case measure => simp [intOf]; omega
                · obtain rfl : k = 512 := by omega
                  have d0 := hR.out.res.cell 0
                  have d1 := hR.out.res.cell 1
                  have d2 := hR.out.res.cell 2
                  simp only [List.getElem?_toArray, List.getElem?_cons_succ, List.getElem?_cons_zero] at d0 d1 d2
                  have fr := hR.out.res.frozen
                  have HX := Lib.hid hR.out.ext
                  clear hR hlt4 hk
                  generalize endS f 512 = e at *
                  generalize maxS f 512 = m at *
                  go_wp2
                  refine bodyPost_ret (v := .agg #[.int .i64 (512 : Nat), .int .i64 (m : Nat), .int .i64 (y : Nat)]) ?c1 ?c2 ?c3
                  case c2 => rfl
                  case c3 => exact ⟨by rw [HV.out]; first | done | rfl, (((HX.out.setCell (by simp) _).setCell (by simp) _).setCell (by simp) _)⟩
                  case c1 => simp [results, Try.results18, go_sem, d0, d1, d2]
            · go_wp2_with fail
              go_quiet (fail)
              go_wp2_with fail
              go_loopw [4, 5] (fun vr vi wr => ∃ k : Nat, k ≤ 512 ∧ vi = .int .i64 k ∧ vr = .int .i64 (endS f k : Nat) ∧ Hid (SuRel w wr w.heap.size (512 : Nat) (maxS f k : Nat) (512 : Nat))) (fun _ vi _ => 512 - (intOf vi).toNat)
              case atStart => exact ⟨0, by omega, rfl, rfl, Lib.hid (hR2.out.drewN _)⟩
              case round =>
                obtain ⟨k, hk, rfl, rfl, hR⟩ := hrel
                clear c2 fs hR2
                have hme := maxS_le f k
                have hee := endS_le f k
                have c0 := hR.out.sum.cell 0
                have c1 := hR.out.sum.cell 1
                have c2 := hR.out.sum.cell 2
                simp only [List.getElem?_toArray, List.getElem?_cons_succ, List.getElem?_cons_zero] at c0 c1 c2
                have fs := hR.out.sum.frozen
                by_cases hlt4 : k < 512
                · have hc := (HH.out.later hR.out.ext).cell k hlt4
                  have hk5 : (k : Int) < 512 := by omega
                  cases hf : f k
                  · rw [hf] at hc
                    have HE := Lib.hid (endS_on f k hf)
                    by_cases hm : maxS f k < endS f k + 1
                    · have hm2 : ((maxS f k : Nat) : Int) < ((endS f k : Nat) : Int) + 1 := by omega
                      have HM := Lib.hid (maxS_more f k hf hm)
                      have HN := Lib.hid (show SuRel w _ w.heap.size (512 : Nat) (maxS f (k + 1) : Nat) (512 : Nat) by
                        rw [HM.out]
                        have e2 : ((endS f k + 1 : Nat) : Int) = ((endS f k : Nat) : Int) + 1 := by omega
                        rw [e2]
                        exact hR.out.max_ (Nat.le_refl _) ((endS f k : Nat) + 1))
                      clear hm hR hf
                      generalize endS f k = e at *
                      generalize maxS f k = m at *
                      go_wp2
                      go_roundw
                      case rel => exact ⟨k + 1, hlt4, by go_num, by rw [HE.out]; go_num, HN⟩
                      case measure => simp [intOf]; omega
                    · have hm2 : ¬ ((maxS f k : Nat) : Int) < ((endS f k : Nat) : Int) + 1 := by omega
                      have HM := Lib.hid (maxS_same f k hf hm)
                      have HN := Lib.hid (show SuRel w _ w.heap.size (512 : Nat) (maxS f (k + 1) : Nat) (512 : Nat) by
                        rw [HM.out]
                        exact hR.out)
                      clear hm hR hf
                      generalize endS f k = e at *
                      generalize maxS f k = m at *
                      go_wp2
                      go_roundw
                      case rel => exact ⟨k + 1, hlt4, by go_num, by rw [HE.out]; go_num, HN⟩
                      case measure => simp [intOf]; omega
                  · rw [hf] at hc
                    have HE := Lib.hid (endS_hit f k hf)
                    have HN := Lib.hid (show SuRel w wr w.heap.size (512 : Nat) (maxS f (k + 1) : Nat) (512 : Nat) by
                      rw [maxS_hit f k hf]; exact hR.out)
                    clear hR hf
                    generalize endS f k = e at *
                    generalize maxS f k = m at *
                    go_wp2
                    go_roundw
                    case rel => exact ⟨k + 1, hlt4, by go_num, by rw [HE.out]; rfl, HN⟩
                    case measure => simp [intOf]; omega
                · obtain rfl : k = 512 := by omega
                  have d0 := hR.out.res.cell 0
                  have d1 := hR.out.res.cell 1
                  have d2 := hR.out.res.cell 2
                  simp only [List.getElem?_toArray, List.getElem?_cons_succ, List.getElem?_cons_zero] at d0 d1 d2
                  have fr := hR.out.res.frozen
                  have HX := Lib.hid hR.out.ext
                  clear hR hlt4 hk
                  generalize endS f 512 = e at *
                  generalize maxS f 512 = m at *
                  go_wp2
                  refine bodyPost_ret (v := .agg #[.int .i64 (512 : Nat), .int .i64 (m : Nat), .int .i64 (512 : Nat)]) ?c1 ?c2 ?c3
                  case c2 => rfl
                  case c3 => exact ⟨by rw [HV.out]; first | done | rfl, (((HX.out.setCell (by simp) _).setCell (by simp) _).setCell (by simp) _)⟩
                  case c1 => simp [results, Try.results18, go_sem, d0, d1, d2]

end Go.Proofs.Ytmiogoecjoldoaa
