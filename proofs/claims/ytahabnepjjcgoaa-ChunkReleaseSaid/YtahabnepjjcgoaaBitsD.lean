/- The contract of bits' Sum; Last for all arguments. -/
import Derived.Test.YtahabnepjjcgoaaBitsC
namespace Go.Proofs.Ytahabnepjjcgoaa
open Go.RowKit
set_option linter.unusedVariables false

theorem last_any (b o : Nat) (n to : Int) (f : Nat → Bool) (w : World) (h : RowAt w b o f) (hn : n ≤ 9223372036854775807) :
    Calls Try.prog 29 #[.pointer (some ⟨b, o, none⟩), .int .i64 n, .int .i64 to] w fun r w' => r = .returned (.tuple #[.int .i64 (lastI f n to : Nat), .int .i64 (lastN f n to : Nat)]) ∧ w = w' := by
  by_cases h1 : n < 1
  · exact last_no b o n to f w h1
  · have := last_yes b o n.toNat to f w h (by omega) (by omega)
    rwa [show ((n.toNat : Nat) : Int) = n by omega] at this

/-- the memory while a row is told. -/
structure SuRel (w wr : World) (g : Nat) (x y z : Int) : Prop where
  res : Blk wr g 48 #[.int .i64 0, .int .i64 0, .int .i64 0]
  sum : Blk wr (g + 1) 48 #[.int .i64 x, .int .i64 y, .int .i64 z]
  ext : Ext w wr

theorem SuRel.max_ {w wr : World} {g : Nat} {x y z : Int} (h : SuRel w wr g x y z) (hg : w.heap.size ≤ g) (u : Int) : SuRel w (wr.setCell ⟨g + 1, 1, none⟩ (.int .i64 u)) g x u z :=
  ⟨h.res.far (p := ⟨g + 1, 1, none⟩) (by simp) _, h.sum.set_ 1 (.int .i64 u), h.ext.setCell (by simp; omega) _⟩
theorem SuRel.start_ {w wr : World} {g : Nat} {x y z : Int} (h : SuRel w wr g x y z) (hg : w.heap.size ≤ g) (u : Int) : SuRel w (wr.setCell ⟨g + 1, 0, none⟩ (.int .i64 u)) g u y z :=
  ⟨h.res.far (p := ⟨g + 1, 0, none⟩) (by simp) _, h.sum.set_ 0 (.int .i64 u), h.ext.setCell (by simp; omega) _⟩

/-- what Sum answers. -/
def sumV (f : Nat → Bool) : Value := .agg #[.int .i64 (startS f 512 : Nat), .int .i64 (maxS f 512 : Nat), .int .i64 (endS f 512 : Nat)]

theorem endS_hit (f : Nat → Bool) (k : Nat) (h : f k = true) : endS f (k + 1) = 0 := by show (if f k = true then 0 else _) = 0; rw [if_pos h]
theorem endS_on (f : Nat → Bool) (k : Nat) (h : f k = false) : endS f (k + 1) = endS f k + 1 := by show (if f k = true then 0 else _) = _; rw [if_neg (by rw [h]; decide)]
theorem maxS_hit (f : Nat → Bool) (k : Nat) (h : f k = true) : maxS f (k + 1) = maxS f k := by show (if f k = true then _ else _) = _; rw [if_pos h]
theorem maxS_more (f : Nat → Bool) (k : Nat) (h : f k = false) (h2 : maxS f k < endS f k + 1) : maxS f (k + 1) = endS f k + 1 := by
  show (if f k = true then _ else if maxS f k < endS f k + 1 then _ else _) = _; rw [if_neg (by rw [h]; decide), if_pos h2]
theorem maxS_same (f : Nat → Bool) (k : Nat) (h : f k = false) (h2 : ¬ maxS f k < endS f k + 1) : maxS f (k + 1) = maxS f k := by
  show (if f k = true then _ else if maxS f k < endS f k + 1 then _ else _) = _; rw [if_neg (by rw [h]; decide), if_neg h2]
theorem startS_hit (f : Nat → Bool) (k : Nat) (h : f k = true) : startS f (k + 1) = startS f k := by show (if f k = true then _ else _) = _; rw [if_pos h]
theorem startS_more (f : Nat → Bool) (k : Nat) (h : f k = false) (h2 : endS f k = k) : startS f (k + 1) = k + 1 := by
  show (if f k = true then _ else if endS f k = k then _ else _) = _; rw [if_neg (by rw [h]; decide), if_pos h2]
theorem startS_same (f : Nat → Bool) (k : Nat) (h : f k = false) (h2 : endS f k ≠ k) : startS f (k + 1) = startS f k := by
  show (if f k = true then _ else if endS f k = k then _ else _) = _; rw [if_neg (by rw [h]; decide), if_neg h2]

set_option maxRecDepth 20000 in
set_option maxHeartbeats 1000000 in
theorem sum_any (b o : Nat) (f : Nat → Bool) (w : World) (h : RowAt w b o f) :
    Calls Try.prog 34 #[.pointer (some ⟨b, o, none⟩)] w fun r w' => r = .returned (sumV f) ∧ Ext w w' := by
  have HH := Lib.hid h
  have hlt := h.lt
  clear h
  go_enter Try.func34, Try.ntmps34
  go_wp2
  go_loopw [4, 6] (fun vr vi wr => ∃ k : Nat, k ≤ 512 ∧ vi = .int .i64 k ∧ vr = .int .i64 (endS f k : Nat) ∧ Hid (SuRel w wr w.heap.size (startS f k : Nat) (maxS f k : Nat) 0)) (fun _ vi _ => 512 - (intOf vi).toNat)
  case atStart =>
    refine ⟨0, by omega, rfl, rfl, Lib.hid ⟨(Blk.new w _ _).alloc _, ?_, ((Ext.refl _).alloc _ _).alloc _ _⟩⟩
    have := Blk.new (w.alloc (.cells #[.int .i64 0, .int .i64 0, .int .i64 0] 48)) 48 #[.int .i64 0, .int .i64 0, .int .i64 0]
    simp only [World.size_alloc] at this
    exact this
  case round =>
    obtain ⟨k, hk, rfl, rfl, hR⟩ := hrel
    have hme := maxS_le f k
    have hse := startS_le f k
    have hee := endS_le f k
    have c0 := hR.out.sum.cell 0
    have c1 := hR.out.sum.cell 1
    have c2 := hR.out.sum.cell 2
    simp only [List.getElem?_toArray, List.getElem?_cons_succ, List.getElem?_cons_zero] at c0 c1 c2
    have fs := hR.out.sum.frozen
    by_cases hlt2 : k < 512
    · have HGet := Lib.hid (get_in b o k f wr hlt2 (HH.out.later hR.out.ext))
      cases hf : f k
      · rw [hf] at HGet
        have HE := Lib.hid (endS_on f k hf)
        by_cases hm : maxS f k < endS f k + 1
        · have hm2 : ¬ ((endS f k : Nat) : Int) + 1 ≤ ((maxS f k : Nat) : Int) := by omega
          have HM := Lib.hid (maxS_more f k hf hm)
          have hR2 := hR.out.max_ (Nat.le_refl _) ((endS f k : Nat) + 1)
          by_cases hs : endS f k = k
          · have HS := Lib.hid (startS_more f k hf hs)
            have hsb : (((endS f k : Nat) : Int) + 1 == (k : Int) + 1) = true := by simp; omega
            have HN := Lib.hid (show SuRel w _ w.heap.size (startS f (k + 1) : Nat) (maxS f (k + 1) : Nat) 0 by
              have := hR2.start_ (Nat.le_refl _) ((endS f k : Nat) + 1)
              rw [HS.out, HM.out]
              have e1 : ((k + 1 : Nat) : Int) = ((endS f k : Nat) : Int) + 1 := by omega
              have e2 : ((endS f k + 1 : Nat) : Int) = ((endS f k : Nat) : Int) + 1 := by omega
              rw [e1, e2]
              exact this)
            clear hR2 hs hm hR hf
            generalize endS f k = e at *
            generalize maxS f k = m at *
            generalize startS f k = s at *
            go_wp2_with (go_at_call 19; refine HGet.out.mono ?_; rintro r w1 ⟨rfl, rfl⟩)
            go_roundw
            case rel => exact ⟨k + 1, hlt2, by go_num, by rw [HE.out]; go_num, HN⟩
            case measure => simp [intOf]; omega
          · have HS := Lib.hid (startS_same f k hf hs)
            have hsb : (((endS f k : Nat) : Int) + 1 == (k : Int) + 1) = false := by simp; omega
            have HN := Lib.hid (show SuRel w _ w.heap.size (startS f (k + 1) : Nat) (maxS f (k + 1) : Nat) 0 by
              rw [HS.out, HM.out]
              have e2 : ((endS f k + 1 : Nat) : Int) = ((endS f k : Nat) : Int) + 1 := by omega
              rw [e2]
              exact hR2)
            clear hR2 hs hm hR hf
            generalize endS f k = e at *
            generalize maxS f k = m at *
            generalize startS f k = s at *
            go_wp2_with (go_at_call 19; refine HGet.out.mono ?_; rintro r w1 ⟨rfl, rfl⟩)
            go_roundw
            case rel => exact ⟨k + 1, hlt2, by go_num, by rw [HE.out]; go_num, HN⟩
            case measure => simp [intOf]; omega
        · have hm2 : ((endS f k : Nat) : Int) + 1 ≤ ((maxS f k : Nat) : Int) := by omega
          have HM := Lib.hid (maxS_same f k hf hm)
          have hR2 := hR.out.max_ (Nat.le_refl _) (maxS f k : Nat)
          by_cases hs : endS f k = k
          · exfalso
            have := maxS_le f k
            omega
          · have HS := Lib.hid (startS_same f k hf hs)
            have hsb : (((endS f k : Nat) : Int) + 1 == (k : Int) + 1) = false := by simp; omega
            have HN := Lib.hid (show SuRel w _ w.heap.size (startS f (k + 1) : Nat) (maxS f (k + 1) : Nat) 0 by
              rw [HS.out, HM.out]
              exact hR2)
            clear hR2 hs hm hR hf
            generalize endS f k = e at *
            generalize maxS f k = m at *
            generalize startS f k = s at *
            go_wp2_with (go_at_call 19; refine HGet.out.mono ?_; rintro r w1 ⟨rfl, rfl⟩)
            go_roundw
            case rel => exact ⟨k + 1, hlt2, by go_num, by rw [HE.out]; go_num, HN⟩
            case measure => simp [intOf]; omega
      · rw [hf] at HGet
        have HE := Lib.hid (endS_hit f k hf)
        have HN := Lib.hid (show SuRel w wr w.heap.size (startS f (k + 1) : Nat) (maxS f (k + 1) : Nat) 0 by
          rw [startS_hit f k hf, maxS_hit f k hf]; exact hR.out)
        clear hR hf
        generalize endS f k = e at *
        generalize maxS f k = m at *
        generalize startS f k = s at *
        go_wp2_with (go_at_call 19; refine HGet.out.mono ?_; rintro r w1 ⟨rfl, rfl⟩)
        go_roundw
        case rel => exact ⟨k + 1, hlt2, by go_num, by rw [HE.out]; rfl, HN⟩
        case measure => simp [intOf]; omega
    · obtain rfl : k = 512 := by omega
      have d0 := hR.out.res.cell 0
      have d1 := hR.out.res.cell 1
      have d2 := hR.out.res.cell 2
      simp only [List.getElem?_toArray, List.getElem?_cons_succ, List.getElem?_cons_zero] at d0 d1 d2
      have fr := hR.out.res.frozen
      have HX := Lib.hid hR.out.ext
      have HV := Lib.hid (show sumV f = .agg #[.int .i64 (startS f 512 : Nat), .int .i64 (maxS f 512 : Nat), .int .i64 (endS f 512 : Nat)] from rfl)
      clear hR hlt2 hk
      generalize endS f 512 = e at *
      generalize maxS f 512 = m at *
      generalize startS f 512 = s at *
      go_wp2
      refine bodyPost_ret (v := .agg #[.int .i64 (s : Nat), .int .i64 (m : Nat), .int .i64 (e : Nat)]) (by simp [results, Try.results34, go_sem, d0, d1, d2]) rfl ⟨by rw [HV.out], ?_⟩
      exact ((((HX.out.setCell (by simp) _).setCell (by simp) _).setCell (by simp) _).setCell (by simp) _)

end Go.Proofs.Ytahabnepjjcgoaa
