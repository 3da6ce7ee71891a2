/- The contracts of package chunk. -/
import Derived.Test.YtahabnepjjcgoaaBitsE
namespace Go.Proofs.Ytahabnepjjcgoaa
open Go.RowKit
set_option linter.unusedVariables false

/-- a chunk: what is used, what is released. -/
structure ChunkAt (w : World) (b : Nat) (u g : Nat → Bool) : Prop where
  used : RowAt w b 0 u
  gone : RowAt w b 8 g

theorem ChunkAt.later {w w' : World} {b : Nat} {u g : Nat → Bool} (h : ChunkAt w b u g) (hx : Ext w w') : ChunkAt w' b u g := ⟨h.used.later hx, h.gone.later hx⟩
theorem ChunkAt.chg {w w' : World} {b : Nat} {u g : Nat → Bool} {F : Nat → Prop} (h : ChunkAt w b u g) (hc : Chg F w w') (hF : ¬ F b) : ChunkAt w' b u g := ⟨h.used.chg hc hF, h.gone.chg hc hF⟩
theorem ChunkAt.congr {w : World} {b : Nat} {u g u' g' : Nat → Bool} (h : ChunkAt w b u g) (h1 : ∀ j, j < 512 → u j = u' j) (h2 : ∀ j, j < 512 → g j = g' j) : ChunkAt w b u' g' := ⟨h.used.congr h1, h.gone.congr h2⟩

def allB : Nat → Bool := fun _ => true

theorem chunk_new (w : World) : Calls Try.prog 8 #[] w fun r w' => r = .returned (.pointer (some ⟨w.heap.size, 0, none⟩)) ∧ ChunkAt w' w.heap.size noB allB ∧ Ext w w' := by
  have hz : RowAt (w.alloc (.cells (arr noB ++ arr noB) 59)) w.heap.size 0 noB ∧ RowAt (w.alloc (.cells (arr noB ++ arr noB) 59)) w.heap.size 8 noB := by
    have B := Blk.new w 59 (arr noB ++ arr noB)
    refine ⟨⟨B.lt, fun k hk => ?_, B.frozen⟩, ⟨B.lt, fun k hk => ?_, B.frozen⟩⟩
    all_goals
      rw [B.cell]
      obtain rfl | rfl | rfl | rfl | rfl | rfl | rfl | rfl : k = 0 ∨ k = 1 ∨ k = 2 ∨ k = 3 ∨ k = 4 ∨ k = 5 ∨ k = 6 ∨ k = 7 := by omega
    all_goals rfl
  have ha : arr noB ++ arr noB = #[.int .u64 0, .int .u64 0, .int .u64 0, .int .u64 0, .int .u64 0, .int .u64 0, .int .u64 0, .int .u64 0, .int .u64 0, .int .u64 0, .int .u64 0, .int .u64 0, .int .u64 0, .int .u64 0, .int .u64 0, .int .u64 0] := by rw [arr_no]; rfl
  rw [ha] at hz
  have HU := Lib.hid hz.1
  have HG := Lib.hid hz.2
  clear hz ha
  go_enter Try.func8, Try.ntmps8
  go_wp2_with fail
  refine (set_any w.heap.size 8 0 512 noB _ HG.out).mono ?_
  rintro r w1 ⟨rfl, hr, hc⟩
  have HU1 := Lib.hid (HU.out.beside hc (by omega))
  have HG1 := Lib.hid (hr.congr (g := allB) (fun j hj => by unfold setF; rw [if_pos (by decide)]; unfold setB inB allB noB; simp; omega))
  have HX1 := Lib.hid (hc.chg.ext ((Ext.refl w).alloc _ _) (fun i hi => by rw [hi]; exact Nat.le_refl _))
  clear hr hc
  go_wp2_with fail
  go_ret
  exact ⟨rfl, ⟨HU1.out, HG1.out⟩, HX1.out⟩

/-- may such pages be looked at? -/
def pagesB (i n : Int) : Bool := decide (0 ≤ i ∧ 1 ≤ n ∧ i ≤ 512 ∧ n ≤ 512 - i)
def lookE (u : Nat → Bool) (i n used e : Int) : Int := if pagesB i n = true then (if cntF u i n = used then 0 else e) else 1

theorem looked_any (b : Nat) (u g : Nat → Bool) (i n used e : Int) (w : World) (h : ChunkAt w b u g) :
    Calls Try.prog 26 #[.pointer (some ⟨b, 0, none⟩), .int .i64 i, .int .i64 n, .int .i64 used, .int .i64 e] w fun r w' => r = .returned (.int .i64 (lookE u i n used e)) ∧ Ext w w' := by
  have HH := Lib.hid h
  clear h
  by_cases hp : 0 ≤ i ∧ 1 ≤ n ∧ i ≤ 512 ∧ n ≤ 512 - i
  · obtain ⟨h1, h2, h3, h4⟩ := hp
    have HE := Lib.hid (show lookE u i n used e = if cntF u i n = used then 0 else e by unfold lookE pagesB; rw [if_pos (decide_eq_true ⟨h1, h2, h3, h4⟩)])
    have HC := Lib.hid (count_any b 0 i n u w HH.out.used)
    generalize cntF u i n = c at *
    have k1 : decide (i < 0) = false := decide_eq_false (by omega)
    have k2 : decide (n < 1) = false := decide_eq_false (by omega)
    have k3 : decide (512 < i) = false := decide_eq_false (by omega)
    have k4 : decide (512 - i < n) = false := decide_eq_false (by omega)
    by_cases hc : c = used
    · have k5 : (c != used) = false := by simpa using hc
      have HE2 := Lib.hid (show lookE u i n used e = 0 by rw [HE.out, if_pos hc])
      clear hc
      go_enter Try.func26, Try.ntmps26
      go_wp2_with (go_at_call 18; refine HC.out.mono ?_; rintro r w1 ⟨rfl, hx⟩)
      go_ret
      exact ⟨by rw [HE2.out]; rfl, hx⟩
    · have k5 : (c != used) = true := by simpa using hc
      have HE2 := Lib.hid (show lookE u i n used e = e by rw [HE.out, if_neg hc])
      clear hc
      go_enter Try.func26, Try.ntmps26
      go_wp2_with (go_at_call 18; refine HC.out.mono ?_; rintro r w1 ⟨rfl, hx⟩)
      go_ret
      exact ⟨by rw [HE2.out]; rfl, hx⟩
  · have HE := Lib.hid (show lookE u i n used e = 1 by unfold lookE pagesB; rw [if_neg (by simpa using hp)])
    by_cases h1 : i < 0
    · have k1 : decide (i < 0) = true := decide_eq_true h1
      clear hp
      go_enter Try.func26, Try.ntmps26
      go_wp2
      go_ret
      exact ⟨by rw [HE.out]; rfl, Ext.refl _⟩
    have k1 : decide (i < 0) = false := decide_eq_false h1
    by_cases h2 : n < 1
    · have k2 : decide (n < 1) = true := decide_eq_true h2
      clear hp
      go_enter Try.func26, Try.ntmps26
      go_wp2
      go_ret
      exact ⟨by rw [HE.out]; rfl, Ext.refl _⟩
    have k2 : decide (n < 1) = false := decide_eq_false h2
    by_cases h3 : 512 < i
    · have k3 : decide (512 < i) = true := decide_eq_true h3
      clear hp
      go_enter Try.func26, Try.ntmps26
      go_wp2
      go_ret
      exact ⟨by rw [HE.out]; rfl, Ext.refl _⟩
    have k3 : decide (512 < i) = false := decide_eq_false h3
    have k4 : decide (512 - i < n) = true := decide_eq_true (by omega)
    clear hp
    go_enter Try.func26, Try.ntmps26
    go_wp2
    go_ret
    exact ⟨by rw [HE.out]; rfl, Ext.refl _⟩

/-- what Take does, where the pages are free. -/
theorem take_any (b : Nat) (u g : Nat → Bool) (i n : Int) (w : World) (h : ChunkAt w b u g) :
    Calls Try.prog 10 #[.pointer (some ⟨b, 0, none⟩), .int .i64 i, .int .i64 n] w fun r w' =>
      r = .returned (.tuple #[.int .i64 (if lookE u i n 0 32 = 0 then cntF g i n else 0), .int .i64 (lookE u i n 0 32)]) ∧ ChunkAt w' b (if lookE u i n 0 32 = 0 then setF u i n else u) (if lookE u i n 0 32 = 0 then clrF g i n else g) ∧ Chg (· = b) w w' := by
  have HH := Lib.hid h
  have HL := Lib.hid (looked_any b u g i n 0 32 w h)
  clear h
  by_cases he : lookE u i n 0 32 = 0
  · rw [he] at HL ⊢
    simp only [if_true]
    clear he
    go_enter Try.func10, Try.ntmps10
    go_wp2_with fail
    refine HL.out.mono ?_
    rintro r w1 ⟨rfl, hx⟩
    have HC1 := Lib.hid (HH.out.later hx)
    have HX1 := Lib.hid (Chg.of_ext hx (· = b))
    clear hx
    go_wp2_with fail
    refine (count_any b 8 i n g _ HC1.out.gone).mono ?_
    rintro r w2 ⟨rfl, hx⟩
    have HC2 := Lib.hid (HC1.out.later hx)
    have HX2 := Lib.hid (HX1.out.trans (Chg.of_ext hx (· = b)) (fun _ h => .inl h))
    clear hx
    go_wp2_with fail
    refine (set_any b 0 i n u _ HC2.out.used).mono ?_
    rintro r w3 ⟨rfl, hr, hc⟩
    have HU3 := Lib.hid hr
    have HG3 := Lib.hid (HC2.out.gone.beside hc (by omega))
    have HX3 := Lib.hid (HX2.out.trans hc.chg (fun _ h => .inl h))
    clear hr hc
    go_wp2_with fail
    refine (clear_any b 8 i n g _ HG3.out).mono ?_
    rintro r w4 ⟨rfl, hr, hc⟩
    have HU4 := Lib.hid (HU3.out.beside hc (by omega))
    have HG4 := Lib.hid hr
    have HX4 := Lib.hid (HX3.out.trans hc.chg (fun _ h => .inl h))
    clear hr hc
    go_wp2_with fail
    go_ret2
    exact ⟨rfl, ⟨HU4.out, HG4.out⟩, HX4.out⟩
  · have hb : (lookE u i n 0 32 != 0) = true := by simpa using he
    rw [if_neg he, if_neg he, if_neg he]
    generalize lookE u i n 0 32 = e at *
    clear he
    go_enter Try.func10, Try.ntmps10
    go_wp2_with fail
    refine HL.out.mono ?_
    rintro r w1 ⟨rfl, hx⟩
    have HC1 := Lib.hid (HH.out.later hx)
    have HX1 := Lib.hid (Chg.of_ext hx (· = b))
    clear hx
    go_wp2_with fail
    go_ret2
    exact ⟨rfl, HC1.out, HX1.out⟩

theorem give_any (b : Nat) (u g : Nat → Bool) (i n : Int) (w : World) (h : ChunkAt w b u g) :
    Calls Try.prog 13 #[.pointer (some ⟨b, 0, none⟩), .int .i64 i, .int .i64 n] w fun r w' =>
      r = .returned (.int .i64 (lookE u i n n 31)) ∧ ChunkAt w' b (if lookE u i n n 31 = 0 then clrF u i n else u) g ∧ Chg (· = b) w w' := by
  have HH := Lib.hid h
  have HL := Lib.hid (looked_any b u g i n n 31 w h)
  clear h
  by_cases he : lookE u i n n 31 = 0
  · rw [he] at HL ⊢
    simp only [if_true]
    clear he
    go_enter Try.func13, Try.ntmps13
    go_wp2_with fail
    refine HL.out.mono ?_
    rintro r w1 ⟨rfl, hx⟩
    have HC1 := Lib.hid (HH.out.later hx)
    have HX1 := Lib.hid (Chg.of_ext hx (· = b))
    clear hx
    go_wp2_with fail
    refine (clear_any b 0 i n u _ HC1.out.used).mono ?_
    rintro r w3 ⟨rfl, hr, hc⟩
    have HU3 := Lib.hid hr
    have HG3 := Lib.hid (HC1.out.gone.beside hc (by omega))
    have HX3 := Lib.hid (HX1.out.trans hc.chg (fun _ h => .inl h))
    clear hr hc
    go_wp2_with fail
    go_ret
    exact ⟨rfl, ⟨HU3.out, HG3.out⟩, HX3.out⟩
  · have hb : (lookE u i n n 31 == 0) = false := by simpa using he
    rw [if_neg he]
    generalize lookE u i n n 31 = e at *
    clear he
    go_enter Try.func13, Try.ntmps13
    go_wp2_with fail
    refine HL.out.mono ?_
    rintro r w1 ⟨rfl, hx⟩
    have HC1 := Lib.hid (HH.out.later hx)
    have HX1 := Lib.hid (Chg.of_ext hx (· = b))
    clear hx
    go_wp2_with fail
    go_ret
    exact ⟨rfl, HC1.out, HX1.out⟩

theorem back_any (b : Nat) (u g : Nat → Bool) (i n : Int) (w : World) (h : ChunkAt w b u g) :
    Calls Try.prog 14 #[.pointer (some ⟨b, 0, none⟩), .int .i64 i, .int .i64 n] w fun r w' =>
      r = .returned (.int .i64 (lookE u i n n 31)) ∧ ChunkAt w' b (if lookE u i n n 31 = 0 then clrF u i n else u) (if lookE u i n n 31 = 0 then setF g i n else g) ∧ Chg (· = b) w w' := by
  have HL := Lib.hid (give_any b u g i n w h)
  clear h
  by_cases he : lookE u i n n 31 = 0
  · rw [he] at HL ⊢
    simp only [if_true] at HL ⊢
    clear he
    go_enter Try.func14, Try.ntmps14
    go_wp2_with fail
    refine HL.out.mono ?_
    rintro r w1 ⟨rfl, hr, hc⟩
    have HC1 := Lib.hid hr
    have HX1 := Lib.hid hc
    clear hr hc
    go_wp2_with fail
    refine (set_any b 8 i n g _ HC1.out.gone).mono ?_
    rintro r w3 ⟨rfl, hr, hc⟩
    have HG3 := Lib.hid hr
    have HU3 := Lib.hid (HC1.out.used.beside hc (by omega))
    have HX3 := Lib.hid (HX1.out.trans hc.chg (fun _ h => .inl h))
    clear hr hc
    go_wp2_with fail
    go_ret
    exact ⟨rfl, ⟨HU3.out, HG3.out⟩, HX3.out⟩
  · have hb : (lookE u i n n 31 == 0) = false := by simpa using he
    rw [if_neg he] at HL ⊢
    rw [if_neg he]
    generalize lookE u i n n 31 = e at *
    clear he
    go_enter Try.func14, Try.ntmps14
    go_wp2_with fail
    refine HL.out.mono ?_
    rintro r w1 ⟨rfl, hr, hc⟩
    have HC1 := Lib.hid hr
    have HX1 := Lib.hid hc
    clear hr hc
    go_wp2_with fail
    go_ret
    exact ⟨rfl, HC1.out, HX1.out⟩

theorem cfind_any (b : Nat) (u g : Nat → Bool) (n frm : Int) (w : World) (h : ChunkAt w b u g) (hf : frm ≤ 9223372036854775807) :
    Calls Try.prog 9 #[.pointer (some ⟨b, 0, none⟩), .int .i64 n, .int .i64 frm] w fun r w' => r = .returned (.tuple #[.int .i64 (findI u n frm), .bool (findB u n frm)]) ∧ w = w' := by
  have HF := Lib.hid (find_any b 0 n frm u w h.used hf)
  clear h hf
  go_enter Try.func9, Try.ntmps9
  go_wp2_with (go_at_call 25; refine HF.out.mono ?_; rintro r w1 ⟨rfl, rfl⟩)
  go_ret2
  exact ⟨rfl, rfl⟩

def cnt5 (f : Nat → Bool) : Int := cntF f 0 512
theorem cnt5_bd (f : Nat → Bool) : 0 ≤ cnt5 f ∧ cnt5 f ≤ 512 := by
  unfold cnt5 cntF
  rw [if_pos (by decide)]
  have := cnt_le f 512 0
  exact ⟨by omega, by show ((cnt f 0 512 : Nat) : Int) ≤ 512; omega⟩

theorem free_any (b : Nat) (u g : Nat → Bool) (w : World) (h : ChunkAt w b u g) : Calls Try.prog 11 #[.pointer (some ⟨b, 0, none⟩)] w fun r w' => r = .returned (.int .i64 (512 - cnt5 u)) ∧ Ext w w' := by
  have HC := Lib.hid (show Calls _ _ _ _ _ from count_any b 0 0 512 u w h.used)
  have hb := cnt5_bd u
  unfold cnt5 at hb ⊢
  clear h
  generalize cntF u 0 512 = c at *
  go_enter Try.func11, Try.ntmps11
  go_wp2_with (go_at_call 18; refine HC.out.mono ?_; rintro r w1 ⟨rfl, hx⟩)
  go_ret
  exact ⟨rfl, hx⟩

theorem released_any (b : Nat) (u g : Nat → Bool) (w : World) (h : ChunkAt w b u g) : Calls Try.prog 16 #[.pointer (some ⟨b, 0, none⟩)] w fun r w' => r = .returned (.int .i64 (cnt5 g)) ∧ Ext w w' := by
  have HC := Lib.hid (show Calls _ _ _ _ _ from count_any b 8 0 512 g w h.gone)
  unfold cnt5
  clear h
  generalize cntF g 0 512 = c at *
  go_enter Try.func16, Try.ntmps16
  go_wp2_with (go_at_call 18; refine HC.out.mono ?_; rintro r w1 ⟨rfl, hx⟩)
  go_ret
  exact ⟨rfl, hx⟩

end Go.Proofs.Ytahabnepjjcgoaa
