/- The walk of the law PackMerges. -/
import Derived.Test.YtbfnadfbanhgcaaKept
import Derived.Test.YtbfnadfbanhgcaaRefMerge
import Derived.Test.YtbfnadfbanhgcaaRefFits
import Derived.Test.YtbfnadfbanhgcaaFewer
namespace Go.Proofs.Ytbfnadfbanhgcaa
open Go.RowKit
set_option linter.unusedVariables false

theorem mergeT_form (l : List Sm) (p : Int) : ∃ a b c d : Int, mergeT l p = .tuple #[.agg #[.int .i64 a, .int .i64 b, .int .i64 c], .int .i64 d] := by
  unfold mergeT
  split
  · exact ⟨_, _, _, _, rfl⟩
  · exact ⟨_, _, _, _, rfl⟩

theorem fitsT_form (l : List Sm) (p n : Int) : ∃ (i : Int) (b : Bool) (e : Int), fitsT l p n = .tuple #[.int .i64 i, .bool b, .int .i64 e] := by
  unfold fitsT
  split
  · cases fitsRec p n l 0 0 with
    | none => exact ⟨_, _, _, rfl⟩
    | some i => exact ⟨_, _, _, rfl⟩
  · exact ⟨_, _, _, rfl⟩

set_option maxHeartbeats 2000000 in
theorem merges_in (v : Value) (l : List Sm) (W : World) (h : SlAt W v l) (p n : Int) (hl : l.length ≤ 100) (hn : n ≤ 9223372036854775807) :
    Calls Try.prog 3 #[v, .int .i64 p, .int .i64 n] W fun r w' => r = .returned (.bool true) ∧ Ext W w' := by
  obtain ⟨a, b, c, d, hm⟩ := mergeT_form l p
  obtain ⟨i, ok, e, hf⟩ := fitsT_form l p n
  have HM := Lib.hid hm
  have HF := Lib.hid hf
  obtain ⟨ad0, c0, rfl⟩ := sl_form h
  have H := Lib.hid h
  clear h hm hf
  have k1 : decide (100 < (l.length : Int)) = false := by simp; omega
  go_enter Try.func3, Try.ntmps3
  go_wp2_with fail
  refine (own_any _ l _ H.out hl).mono ?_
  rintro r w1 hp1
  obtain ⟨v1, rfl, hx1, ho1⟩ := hp1
  have HX1 := Lib.hid hx1
  have HO1 := Lib.hid ho1
  clear hx1 ho1
  go_wp2_with fail
  refine (merge_any _ l _ _ HO1.out.sl).mono ?_
  rintro r w2 ⟨rfl, hg2⟩
  rw [HM.out]
  have HX2 := Lib.hid (HX1.out.trans hg2)
  have HO2 := Lib.hid (HO1.out.ext hg2)
  clear hg2 HX1 HO1
  go_wp2_with fail
  refine (rmerge_any _ l _ _ ((H.out.ext HX2.out).ext ((Ext.refl _).alloc _ _))).mono ?_
  rintro r w3 ⟨rfl, hg3⟩
  rw [HM.out]
  obtain ⟨q0, q1, q2, qf, qz⟩ := hg3.new3
  have hE3 : Ext w2 w3 := ((Ext.refl w2).alloc _ _).trans hg3
  have HX3 := Lib.hid (HX2.out.trans hE3)
  have HO3 := Lib.hid (HO2.out.ext hE3)
  clear hg3 HX2 HO2 hE3 qf
  go_wp2_with fail
  refine (fits_any _ l _ _ _ (HO3.out.sl.ext ((Ext.refl _).alloc _ _)) hn).mono ?_
  rintro r w4 ⟨rfl, hg4⟩
  rw [HF.out]
  obtain ⟨r0, r1, r2, rf, rz⟩ := hg4.new3
  have hE4 : Ext w3 w4 := ((Ext.refl w3).alloc _ _).trans hg4
  have s0 := (hE4.cell _ _ qz).trans q0
  have s1 := (hE4.cell _ _ qz).trans q1
  have s2 := (hE4.cell _ _ qz).trans q2
  have sz := Nat.lt_of_lt_of_le qz hE4.size
  have HX4 := Lib.hid (HX3.out.trans hE4)
  have HO4 := Lib.hid (HO3.out.ext hE4)
  clear hg4 HX3 HO3 hE4 rf q0 q1 q2 qz
  go_wp2_with fail
  refine (rfits_any _ l _ _ _ (H.out.ext HX4.out) hn).mono ?_
  rintro r w5 ⟨rfl, hg5⟩
  rw [HF.out]
  have t0 := (hg5.cell _ _ sz).trans s0
  have t1 := (hg5.cell _ _ sz).trans s1
  have t2 := (hg5.cell _ _ sz).trans s2
  have u0 := (hg5.cell _ _ rz).trans r0
  have u1 := (hg5.cell _ _ rz).trans r1
  have u2 := (hg5.cell _ _ rz).trans r2
  have HX5 := Lib.hid (HX4.out.trans hg5)
  have HO5 := Lib.hid (HO4.out.ext hg5)
  clear hg5 HX4 HO4 s0 s1 s2 r0 r1 r2
  go_wp2_with (first | (go_at_call 15; refine (kept_any _ _ _ l _ HO5.out (H.out.ext HX5.out)).mono ?_; rintro r w6 ⟨rfl, hg6⟩) | (go_at_call 16; refine (awake_any _).mono ?_; rintro r w7 ⟨rfl, hg7⟩))
  go_ret
  exact ⟨rfl, (HX5.out.trans hg6).trans hg7⟩

theorem walk_PackMerges {W : World} (v : Value) (l : List Sm) (hl : SlAt W v l ∧ l.length ≤ maxLen) (p : Int) (_wp : (Lit.int .i64 p).wf = true) (n : Int) (wn : (Lit.int .i64 n).wf = true) :
    Calls Try.prog 3 #[v, .int .i64 p, .int .i64 n] W fun r w' => r = .returned (.bool true) ∧ Ext W w' := by
  have bn := int_of wn
  obtain ⟨h, hm⟩ := hl
  unfold maxLen at hm
  by_cases ho : l.length ≤ 100
  · exact merges_in v l W h p n ho (by omega)
  · obtain ⟨ad0, c0, rfl⟩ := sl_form h
    have k1 : decide (100 < (l.length : Int)) = true := by simp; omega
    clear h
    go_enter Try.func3, Try.ntmps3
    go_wp2
    go_ret
    exact ⟨rfl, Ext.refl _⟩

end Go.Proofs.Ytbfnadfbanhgcaa
