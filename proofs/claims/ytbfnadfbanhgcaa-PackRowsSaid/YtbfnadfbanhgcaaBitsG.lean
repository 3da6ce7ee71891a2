/- The contracts of bits' Get and Sum, and eight words that come in. -/
import Derived.Test.YtbfnadfbanhgcaaRows
import Derived.Test.YtbfnadfbanhgcaaChg
import Derived.Test.YtbfnadfbanhgcaaSumsP
import Derived.Test.YtbfnadfbanhgcaaFrame
import Derived.Test.YtbfnadfbanhgcaaHead
import Derived.WalkSpells
import Derived.ProofKit
import Derived.Handy
import Derived.Outline
import Derived.IntWalk
import Derived.Deep.QuietTactic
import Derived.BigQuiet
namespace Go.Proofs.Ytbfnadfbanhgcaa
open Go.RowKit
set_option linter.unusedVariables false

/-- a row of bits at a place. -/
structure RowAt (w : World) (b o : Nat) (f : Nat → Bool) : Prop where
  lt : b < w.heap.size
  cell : ∀ k, k < 8 → w.cell? ⟨b, o + k, none⟩ = some (.int .u64 (word f k : Nat))
  frozen : ∀ j, w.frozen? ⟨b, j, none⟩ = false

theorem RowAt.congr {w : World} {b o : Nat} {f g : Nat → Bool} (h : RowAt w b o f) (e : ∀ j, j < 512 → f j = g j) : RowAt w b o g :=
  ⟨h.lt, fun k hk => by rw [h.cell k hk, word_congr fun j hj => e _ (by omega)], h.frozen⟩
theorem RowAt.later {w w' : World} {b o : Nat} {f : Nat → Bool} (h : RowAt w b o f) (hx : Ext w w') : RowAt w' b o f :=
  ⟨Nat.lt_of_lt_of_le h.lt hx.size, fun k hk => (hx.cell _ _ h.lt).trans (h.cell k hk), fun j => (hx.frozen _).trans (h.frozen j)⟩
theorem RowAt.chg {w w' : World} {b o : Nat} {f : Nat → Bool} {F : Nat → Prop} (h : RowAt w b o f) (hc : Chg F w w') (hF : ¬ F b) : RowAt w' b o f :=
  ⟨Nat.lt_of_lt_of_le h.lt hc.size, fun k hk => (hc.cell h.lt hF).trans (h.cell k hk), fun j => (hc.frozen _).trans (h.frozen j)⟩

set_option maxRecDepth 20000 in
theorem get_in (b o : Nat) (i : Nat) (f : Nat → Bool) (w : World) (hi : i < 512) (h : RowAt w b o f) :
    Calls Try.prog 22 #[.pointer (some ⟨b, o, none⟩), .int .i64 i] w fun r w' => r = .returned (.bool (f i)) ∧ w = w' := by
  have hc := h.cell (i / 64) (by omega)
  have h2 : ((i / 64 : Nat) : Int) < 8 := by omega
  have HG := Lib.hid (word_get f (i / 64) (i % 64) (by omega))
  rw [show 64 * (i / 64) + i % 64 = i by omega] at HG
  clear h
  generalize word f (i / 64) = x at *
  go_enter Try.func22, Try.ntmps22
  go_wp2
  go_ret
  exact ⟨by rw [← HG.out]; rfl, rfl⟩

/-- the memory while a row is told. -/
structure SuRel (w wr : World) (g : Nat) (x y z : Int) : Prop where
  res : Blk wr g 25 #[.int .i64 0, .int .i64 0, .int .i64 0]
  sum : Blk wr (g + 1) 25 #[.int .i64 x, .int .i64 y, .int .i64 z]
  ext : Ext w wr

theorem SuRel.max_ {w wr : World} {g : Nat} {x y z : Int} (h : SuRel w wr g x y z) (hg : w.heap.size ≤ g) (u : Int) : SuRel w (wr.setCell ⟨g + 1, 1, none⟩ (.int .i64 u)) g x u z :=
  ⟨h.res.far (p := ⟨g + 1, 1, none⟩) (by simp) _, h.sum.set_ 1 (.int .i64 u), h.ext.setCell (by simp; omega) _⟩
theorem SuRel.start_ {w wr : World} {g : Nat} {x y z : Int} (h : SuRel w wr g x y z) (hg : w.heap.size ≤ g) (u : Int) : SuRel w (wr.setCell ⟨g + 1, 0, none⟩ (.int .i64 u)) g u y z :=
  ⟨h.res.far (p := ⟨g + 1, 0, none⟩) (by simp) _, h.sum.set_ 0 (.int .i64 u), h.ext.setCell (by simp; omega) _⟩

/-- what Sum answers. -/
def sumV (f : Nat → Bool) : Value := .agg #[.int .i64 (startS f 512 : Nat), .int .i64 (maxS f 512 : Nat), .int .i64 (endS f 512 : Nat)]

theorem endS_hit (f : Nat → Bool) (k : Nat) (h : f k = true) : endS f (k + 1) = 0 := by show (if f k = true then 0 else _) = 0; rw [if_pos h]
theorem endS_on (f : Nat → Bool) (k : Nat) (h : f k = false) : endS f (k + 1) = endS f k + 1 := by show (if f k = true then 0 else _) = _; rw [if_neg (by rw [h]; decide)]
theorem maxS_hit (f : Nat → Bool) (k : Nat) (h : f k = true) : maxS f (k + 1) = maxS f k := by show (if f k = true then _ else _) = _; rw [if_pos h]
theorem maxS_more (f : Nat → Bool) (k : Nat) (h : f k = false) (h2 : maxS f k < endS f k + 1) : maxS f (k + 1) = endS f k + 1 := by
  show (if f k = true then _ else if maxS f k < endS f k + 1 then _ else _) = _; rw [if_neg (by rw [h]; decide), if_pos h2]
theorem maxS_same (f : Nat → Bool) (k : Nat) (h : f k = false) (h2 : ¬ maxS f k < endS f k + 1) : maxS f (k + 1) = maxS f k := by
  show (if f k = true then _ else if maxS f k < endS f k + 1 then _ else _) = _; rw [if_neg (by rw [h]; decide), if_neg h2]
theorem startS_hit (f : Nat → Bool) (k : Nat) (h : f k = true) : startS f (k + 1) = startS f k := by show (if f k = true then _ else _) = _; rw [if_pos h]
theorem startS_more (f : Nat → Bool) (k : Nat) (h : f k = false) (h2 : endS f k = k) : startS f (k + 1) = k + 1 := by
  show (if f k = true then _ else if endS f k = k then _ else _) = _; rw [if_neg (by rw [h]; decide), if_pos h2]
theorem startS_same (f : Nat → Bool) (k : Nat) (h : f k = false) (h2 : endS f k ≠ k) : startS f (k + 1) = startS f k := by
  show (if f k = true then _ else if endS f k = k then _ else _) = _; rw [if_neg (by rw [h]; decide), if_neg h2]

set_option maxRecDepth 20000 in
set_option maxHeartbeats 1000000 in
theorem sum_any (b o : Nat) (f : Nat → Bool) (w : World) (h : RowAt w b o f) :
    Calls Try.prog 21 #[.pointer (some ⟨b, o, none⟩)] w fun r w' => r = .returned (sumV f) ∧ Ext w w' := by
  have HH := Lib.hid h
  have hlt := h.lt
  clear h
  go_enter Try.func21, Try.ntmps21
  go_wp2
  go_loopw [4, 6] (fun vr vi wr => ∃ k : Nat, k ≤ 512 ∧ vi = .int .i64 k ∧ vr = .int .i64 (endS f k : Nat) ∧ Hid (SuRel w wr w.heap.size (startS f k : Nat) (maxS f k : Nat) 0)) (fun _ vi _ => 512 - (intOf vi).toNat)
  case atStart =>
    refine ⟨0, by omega, rfl, rfl, Lib.hid ⟨(Blk.new w _ _).alloc _, ?_, ((Ext.refl _).alloc _ _).alloc _ _⟩⟩
    have := Blk.new (w.alloc (.cells #[.int .i64 0, .int .i64 0, .int .i64 0] 25)) 25 #[.int .i64 0, .int .i64 0, .int .i64 0]
    simp only [World.size_alloc] at this
    exact this
  case round =>
    obtain ⟨k, hk, rfl, rfl, hR⟩ := hrel
    have hme := maxS_le f k
    have hse := startS_le f k
    have hee := endS_le f k
    have c0 := hR.out.sum.cell 0
    have c1 := hR.out.sum.cell 1
    have c2 := hR.out.sum.cell 2
    simp only [List.getElem?_toArray, List.getElem?_cons_succ, List.getElem?_cons_zero] at c0 c1 c2
    have fs := hR.out.sum.frozen
    by_cases hlt2 : k < 512
    · have HGet := Lib.hid (get_in b o k f wr hlt2 (HH.out.later hR.out.ext))
      cases hf : f k
      · rw [hf] at HGet
        have HE := Lib.hid (endS_on f k hf)
        by_cases hm : maxS f k < endS f k + 1
        · have hm2 : ¬ ((endS f k : Nat) : Int) + 1 ≤ ((maxS f k : Nat) : Int) := by omega
          have HM := Lib.hid (maxS_more f k hf hm)
          have hR2 := hR.out.max_ (Nat.le_refl _) ((endS f k : Nat) + 1)
          by_cases hs : endS f k = k
          · have HS := Lib.hid (startS_more f k hf hs)
            have hsb : (((endS f k : Nat) : Int) + 1 == (k : Int) + 1) = true := by simp; omega
            have HN := Lib.hid (show SuRel w _ w.heap.size (startS f (k + 1) : Nat) (maxS f (k + 1) : Nat) 0 by
              have := hR2.start_ (Nat.le_refl _) ((endS f k : Nat) + 1)
              rw [HS.out, HM.out]
              have e1 : ((k + 1 : Nat) : Int) = ((endS f k : Nat) : Int) + 1 := by omega
              have e2 : ((endS f k + 1 : Nat) : Int) = ((endS f k : Nat) : Int) + 1 := by omega
              rw [e1, e2]
              exact this)
            clear hR2 hs hm hR hf
            generalize endS f k = e at *
            generalize maxS f k = m at *
            generalize startS f k = s at *
            go_wp2_with (go_at_call 22; refine HGet.out.mono ?_; rintro r w1 ⟨rfl, rfl⟩)
            go_roundw
            case rel => exact ⟨k + 1, hlt2, by go_num, by rw [HE.out]; go_num, HN⟩
            case measure => simp [intOf]; omega
          · have HS := Lib.hid (startS_same f k hf hs)
            have hsb : (((endS f k : Nat) : Int) + 1 == (k : Int) + 1) = false := by simp; omega
            have HN := Lib.hid (show SuRel w _ w.heap.size (startS f (k + 1) : Nat) (maxS f (k + 1) : Nat) 0 by
              rw [HS.out, HM.out]
              have e2 : ((endS f k + 1 : Nat) : Int) = ((endS f k : Nat) : Int) + 1 := by omega
              rw [e2]
              exact hR2)
            clear hR2 hs hm hR hf
            generalize endS f k = e at *
            generalize maxS f k = m at *
            generalize startS f k = s at *
            go_wp2_with (go_at_call 22; refine HGet.out.mono ?_; rintro r w1 ⟨rfl, rfl⟩)
            go_roundw
            case rel => exact ⟨k + 1, hlt2, by go_num, by rw [HE.out]; go_num, HN⟩
            case measure => simp [intOf]; omega
        · have hm2 : ((endS f k : Nat) : Int) + 1 ≤ ((maxS f k : Nat) : Int) := by omega
          have HM := Lib.hid (maxS_same f k hf hm)
          have hR2 := hR.out.max_ (Nat.le_refl _) (maxS f k : Nat)
          by_cases hs : endS f k = k
          · exfalso
            have := maxS_le f k
            omega
          · have HS := Lib.hid (startS_same f k hf hs)
            have hsb : (((endS f k : Nat) : Int) + 1 == (k : Int) + 1) = false := by simp; omega
            have HN := Lib.hid (show SuRel w _ w.heap.size (startS f (k + 1) : Nat) (maxS f (k + 1) : Nat) 0 by
              rw [HS.out, HM.out]
              exact hR2)
            clear hR2 hs hm hR hf
            generalize endS f k = e at *
            generalize maxS f k = m at *
            generalize startS f k = s at *
            go_wp2_with (go_at_call 22; refine HGet.out.mono ?_; rintro r w1 ⟨rfl, rfl⟩)
            go_roundw
            case rel => exact ⟨k + 1, hlt2, by go_num, by rw [HE.out]; go_num, HN⟩
            case measure => simp [intOf]; omega
      · rw [hf] at HGet
        have HE := Lib.hid (endS_hit f k hf)
        have HN := Lib.hid (show SuRel w wr w.heap.size (startS f (k + 1) : Nat) (maxS f (k + 1) : Nat) 0 by
          rw [startS_hit f k hf, maxS_hit f k hf]; exact hR.out)
        clear hR hf
        generalize endS f k = e at *
        generalize maxS f k = m at *
        generalize startS f k = s at *
        go_wp2_with (go_at_call 22; refine HGet.out.mono ?_; rintro r w1 ⟨rfl, rfl⟩)
        go_roundw
        case rel => exact ⟨k + 1, hlt2, by go_num, by rw [HE.out]; rfl, HN⟩
        case measure => simp [intOf]; omega
    · obtain rfl : k = 512 := by omega
      have d0 := hR.out.res.cell 0
      have d1 := hR.out.res.cell 1
      have d2 := hR.out.res.cell 2
      simp only [List.getElem?_toArray, List.getElem?_cons_succ, List.getElem?_cons_zero] at d0 d1 d2
      have fr := hR.out.res.frozen
      have HX := Lib.hid hR.out.ext
      have HV := Lib.hid (show sumV f = .agg #[.int .i64 (startS f 512 : Nat), .int .i64 (maxS f 512 : Nat), .int .i64 (endS f 512 : Nat)] from rfl)
      clear hR hlt2 hk
      generalize endS f 512 = e at *
      generalize maxS f 512 = m at *
      generalize startS f 512 = s at *
      go_wp2
      refine bodyPost_ret (v := .agg #[.int .i64 (s : Nat), .int .i64 (m : Nat), .int .i64 (e : Nat)]) (by simp [results, Try.results21, go_sem, d0, d1, d2]) rfl ⟨by rw [HV.out], ?_⟩
      exact ((((HX.out.setCell (by simp) _).setCell (by simp) _).setCell (by simp) _).setCell (by simp) _)



/-- a row's words. -/
def arr (f : Nat → Bool) : Array Value := #[.int .u64 (word f 0 : Nat), .int .u64 (word f 1 : Nat), .int .u64 (word f 2 : Nat), .int .u64 (word f 3 : Nat), .int .u64 (word f 4 : Nat), .int .u64 (word f 5 : Nat), .int .u64 (word f 6 : Nat), .int .u64 (word f 7 : Nat)]
def noB : Nat → Bool := fun _ => false

theorem word_no (k : Nat) : word noB k = 0 := (eq_word (f := noB) (k := k) (by decide) (fun j _ => by rw [Nat.zero_testBit]; rfl)).symm
theorem arr_no : arr noB = #[.int .u64 0, .int .u64 0, .int .u64 0, .int .u64 0, .int .u64 0, .int .u64 0, .int .u64 0, .int .u64 0] := by
  unfold arr; simp only [word_no]; rfl

theorem row_of_blk {w : World} {b : Nat} {t : TypeId} {f : Nat → Bool} (h : Blk w b t (arr f)) : RowAt w b 0 f where
  lt := h.lt
  cell := fun k hk => by
    rw [Nat.zero_add, h.cell k]
    obtain rfl | rfl | rfl | rfl | rfl | rfl | rfl | rfl : k = 0 ∨ k = 1 ∨ k = 2 ∨ k = 3 ∨ k = 4 ∨ k = 5 ∨ k = 6 ∨ k = 7 := by omega
    all_goals rfl
  frozen := h.frozen

/-- any eight words are a row's. -/
theorem arr_of (x : Nat → Int) (h : ∀ k, k < 8 → 0 ≤ x k ∧ x k ≤ 18446744073709551615) : ∃ f, arr f = #[.int .u64 (x 0), .int .u64 (x 1), .int .u64 (x 2), .int .u64 (x 3), .int .u64 (x 4), .int .u64 (x 5), .int .u64 (x 6), .int .u64 (x 7)] := by
  refine ⟨bitsOf (fun k => (x k).toNat), ?_⟩
  have e : ∀ k, k < 8 → ((word (bitsOf (fun k => (x k).toNat)) k : Nat) : Int) = x k := fun k hk => by
    have := h k hk
    rw [word_of (fun k => (x k).toNat) k (by show (x k).toNat < 2 ^ 64; omega)]
    show (((x k).toNat : Nat) : Int) = x k
    omega
  unfold arr
  rw [e 0 (by omega), e 1 (by omega), e 2 (by omega), e 3 (by omega), e 4 (by omega), e 5 (by omega), e 6 (by omega), e 7 (by omega)]

/-- two rows of the same words are the same among their 512. -/
theorem arr_inj {f g : Nat → Bool} (h : ∀ k, k < 8 → word f k = word g k) : ∀ j, j < 512 → f j = g j := fun j hj => by
  have := h (j / 64) (by omega)
  have h1 := word_bit f (j / 64) (j % 64) (by omega)
  rw [this, word_bit g (j / 64) (j % 64) (by omega), show 64 * (j / 64) + j % 64 = j by omega] at h1
  exact h1.symm

open Go.ChangeShapes Go.WideShapes in
/-- an argument of eight words. -/
theorem open_words {H : Type} {enc : TypeId × Value → H} {W : World} {base : Nat} {v : Value} {d : DataW H} {p : List MemPlace} (hval : Value.okWide Try.prog W .any base 41 v) (h : DataW.Trod enc Try.prog W 0 (fun _ => true) true 41 v d p) :
    ∃ f : Nat → Bool, v = .agg (arr f) := by
  have hv : ∃ cs, v = .agg cs ∧ cs.size = 8 := by
    simp only [Value.okWide, Try.underlying41] at hval
    obtain ⟨cs, h1, h2, _⟩ := hval
    exact ⟨cs, h1, h2.trans (by kernel_rfl)⟩
  obtain ⟨⟨l⟩, rfl, hsz⟩ := hv
  match l, hsz with
  | [c0, c1, c2, c3, c4, c5, c6, c7], _ =>
    obtain ⟨fuel, hf⟩ := h
    obtain ⟨xs, m, -, -, -, hlen, hg⟩ := DataW.trod_array Try.underlying41 hf
    have h1 : Try.prog.cellsOf 36 = 1 := by kernel_rfl
    have one : ∀ (c : Value) (y : DataW H × List MemPlace), DataW.trod enc Try.prog W 0 (fun _ => true) true m 36 [c] = some y → ∃ n, c = .int .u64 n ∧ 0 ≤ n ∧ n ≤ 18446744073709551615 := by
      intro c y hy
      obtain ⟨n, e, -, hw⟩ := DataW.trod_int Try.underlying36 hy
      have e' : c = .int .u64 n := by simpa using e
      exact ⟨n, e', by simp [Lit.wf, IntKind.min, IntKind.max, IntKind.signed, IntKind.bits] at hw; omega⟩
    match xs, hlen with
    | [y0, y1, y2, y3, y4, y5, y6, y7], _ =>
      obtain ⟨n0, rfl, a0⟩ := one c0 y0 (by simpa [Value.cells, h1] using hg 0 (by omega))
      obtain ⟨n1, rfl, a1⟩ := one c1 y1 (by simpa [Value.cells, h1] using hg 1 (by omega))
      obtain ⟨n2, rfl, a2⟩ := one c2 y2 (by simpa [Value.cells, h1] using hg 2 (by omega))
      obtain ⟨n3, rfl, a3⟩ := one c3 y3 (by simpa [Value.cells, h1] using hg 3 (by omega))
      obtain ⟨n4, rfl, a4⟩ := one c4 y4 (by simpa [Value.cells, h1] using hg 4 (by omega))
      obtain ⟨n5, rfl, a5⟩ := one c5 y5 (by simpa [Value.cells, h1] using hg 5 (by omega))
      obtain ⟨n6, rfl, a6⟩ := one c6 y6 (by simpa [Value.cells, h1] using hg 6 (by omega))
      obtain ⟨n7, rfl, a7⟩ := one c7 y7 (by simpa [Value.cells, h1] using hg 7 (by omega))
      obtain ⟨f, hf⟩ := arr_of (fun k => [n0, n1, n2, n3, n4, n5, n6, n7].getD k 0) (by
        intro k hk
        obtain rfl | rfl | rfl | rfl | rfl | rfl | rfl | rfl : k = 0 ∨ k = 1 ∨ k = 2 ∨ k = 3 ∨ k = 4 ∨ k = 5 ∨ k = 6 ∨ k = 7 := by omega
        all_goals assumption)
      exact ⟨f, by rw [hf]; rfl⟩

end Go.Proofs.Ytbfnadfbanhgcaa
