/- The walk of the law PackFewer. -/
import Derived.Test.YtbfnadfbanhgcaaOwn
import Derived.Test.YtbfnadfbanhgcaaOther
import Derived.Test.YtbfnadfbanhgcaaFrame
import Derived.Test.YtbfnadfbanhgcaaLater
namespace Go.Proofs.Ytbfnadfbanhgcaa
open Go.RowKit Go.Deep Go.ChangeShapes Go.WideShapes
set_option linter.unusedVariables false

theorem div_test {p i j : Int} (p1 : 1 ≤ p) (j0 : 0 ≤ j) (ji : j ≤ i) (i2 : i ≤ 134217728) : decide (wrap64 (j.tdiv p) ≤ wrap64 (i.tdiv p)) = true := by
  have h1 : j.tdiv p = j / p := Int.tdiv_eq_ediv_of_nonneg j0
  have h2 : i.tdiv p = i / p := Int.tdiv_eq_ediv_of_nonneg (by omega)
  have h3 : j / p ≤ i / p := Int.ediv_le_ediv (by omega) ji
  have h4 : 0 ≤ j / p := Int.ediv_nonneg j0 (by omega)
  have h5 : i / p ≤ i := Int.ediv_le_self _ (by omega)
  rw [h1, h2, IntWalk.wrap64_in _ ⟨by omega, by omega⟩, IntWalk.wrap64_in _ ⟨by omega, by omega⟩]
  exact decide_eq_true h3

set_option maxHeartbeats 2000000 in
theorem fewer_up (w0 : World) (v : Value) (l : List Sm) (h : SlAt w0 v l) (hl : l.length ≤ 64) (p n m : Int) (n1 : 1 ≤ n) (hnm : n ≤ m) (m2 : m ≤ 9223372036854775807) :
    Calls Try.prog 6 #[v, .int .i64 p, .int .i64 n, .int .i64 m] w0 fun r w' => r = .returned (.bool true) ∧ Ext w0 w' := by
  have hnil : Hid (∃ a c, v = .slice a l.length c) := Lib.hid (by
    rcases h with ⟨rfl, rfl⟩ | ⟨b, off, cap, rfl, hb, hc⟩
    · exact ⟨_, _, rfl⟩
    · exact ⟨_, _, rfl⟩)
  have H := Lib.hid h
  clear h
  obtain ⟨ad0, c0, rfl⟩ := hnil.out
  clear hnil
  have hf := fewer l p n m n1 (by omega)
  unfold fewerOk at hf
  have k1 : decide (64 < (l.length : Int)) = false := by simp; omega
  rcases hf with ⟨-, hm, hn⟩ | ⟨p1, hm, j, bb, hn, j0⟩ | ⟨p1, i, j, hm, hn, j0, ji, i2⟩
  · have HM := Lib.hid hm
    have HN := Lib.hid hn
    clear hm hn
    go_enter Try.func6, Try.ntmps6
    go_wp2_with fail
    refine (own_any _ l _ H.out (by omega)).mono ?_
    rintro r w1 hp1
    obtain ⟨v1, rfl, hx1, ho1⟩ := hp1
    have HX1 := Lib.hid hx1
    have HO1 := Lib.hid ho1
    clear hx1 ho1
    go_wp2_with fail
    refine (fits_any _ l _ _ _ HO1.out.sl (by omega)).mono ?_
    rintro r w2 ⟨rfl, hg2⟩
    rw [HM.out]
    have HX2 := Lib.hid (HX1.out.trans hg2)
    clear hg2
    go_wp2_with fail
    refine (own_any _ l _ (H.out.ext HX2.out) (by omega)).mono ?_
    rintro r w3 hp3
    obtain ⟨v3, rfl, hx3, ho3⟩ := hp3
    have HX3 := Lib.hid (HX2.out.trans hx3)
    have HO3 := Lib.hid ho3
    clear hx3 ho3
    go_wp2_with fail
    refine (fits_any _ l _ _ _ HO3.out.sl (by omega)).mono ?_
    rintro r w4 ⟨rfl, hg4⟩
    rw [HN.out]
    have HX4 := Lib.hid (HX3.out.trans hg4)
    clear hg4
    go_wp2_with (go_at_call 16; refine (awake_any _).mono ?_; rintro r w5 ⟨rfl, hg5⟩)
    go_ret
    exact ⟨rfl, HX4.out.trans hg5⟩
  · have HM := Lib.hid hm
    have HN := Lib.hid hn
    clear hm hn
    go_enter Try.func6, Try.ntmps6
    go_wp2_with fail
    refine (own_any _ l _ H.out (by omega)).mono ?_
    rintro r w1 hp1
    obtain ⟨v1, rfl, hx1, ho1⟩ := hp1
    have HX1 := Lib.hid hx1
    have HO1 := Lib.hid ho1
    clear hx1 ho1
    go_wp2_with fail
    refine (fits_any _ l _ _ _ HO1.out.sl (by omega)).mono ?_
    rintro r w2 ⟨rfl, hg2⟩
    rw [HM.out]
    have HX2 := Lib.hid (HX1.out.trans hg2)
    clear hg2
    go_wp2_with fail
    refine (own_any _ l _ (H.out.ext HX2.out) (by omega)).mono ?_
    rintro r w3 hp3
    obtain ⟨v3, rfl, hx3, ho3⟩ := hp3
    have HX3 := Lib.hid (HX2.out.trans hx3)
    have HO3 := Lib.hid ho3
    clear hx3 ho3
    go_wp2_with fail
    refine (fits_any _ l _ _ _ HO3.out.sl (by omega)).mono ?_
    rintro r w4 ⟨rfl, hg4⟩
    rw [HN.out]
    have HX4 := Lib.hid (HX3.out.trans hg4)
    clear hg4
    go_wp2_with fail
    refine wp_region_later _ (by kernel_rfl) (by kernel_rfl) (Ext.refl _) ?_
    repeat (go_big_quiet_step ((go_at_call 16; exact later_call (awake_any _))))
    refine wpQuiet_nil ?_
    rintro ⟨w5, hg5⟩
    dsimp only
    go_wp2
    go_ret
    exact ⟨rfl, HX4.out.trans hg5⟩
  · have hq := div_test p1 j0 ji i2
    have hq2 : decide (j / p ≤ i / p) = true := decide_eq_true (Int.ediv_le_ediv (by omega) ji)
    have hq3 : decide (j.tdiv p ≤ i.tdiv p) = true := by rw [Int.tdiv_eq_ediv_of_nonneg j0, Int.tdiv_eq_ediv_of_nonneg (show 0 ≤ i by omega)]; exact hq2
    have hi0 : 0 ≤ i := by omega
    have hp0 : (p == 0) = false := by simp; omega
    have hp1 : p ≠ 0 := by omega
    have HM := Lib.hid hm
    have HN := Lib.hid hn
    clear hm hn
    go_enter Try.func6, Try.ntmps6
    go_wp2_with fail
    refine (own_any _ l _ H.out (by omega)).mono ?_
    rintro r w1 hp1
    obtain ⟨v1, rfl, hx1, ho1⟩ := hp1
    have HX1 := Lib.hid hx1
    have HO1 := Lib.hid ho1
    clear hx1 ho1
    go_wp2_with fail
    refine (fits_any _ l _ _ _ HO1.out.sl (by omega)).mono ?_
    rintro r w2 ⟨rfl, hg2⟩
    rw [HM.out]
    have HX2 := Lib.hid (HX1.out.trans hg2)
    clear hg2
    go_wp2_with fail
    refine (own_any _ l _ (H.out.ext HX2.out) (by omega)).mono ?_
    rintro r w3 hp3
    obtain ⟨v3, rfl, hx3, ho3⟩ := hp3
    have HX3 := Lib.hid (HX2.out.trans hx3)
    have HO3 := Lib.hid ho3
    clear hx3 ho3
    go_wp2_with fail
    refine (fits_any _ l _ _ _ HO3.out.sl (by omega)).mono ?_
    rintro r w4 ⟨rfl, hg4⟩
    rw [HN.out]
    have HX4 := Lib.hid (HX3.out.trans hg4)
    clear hg4
    go_wp2_with fail
    refine wp_region_later _ (by kernel_rfl) (by kernel_rfl) (Ext.refl _) ?_
    repeat (go_big_quiet_step ((go_at_call 16; exact later_call (awake_any _))))
    repeat (go_big_quiet_step ((go_at_call 16; exact later_call (awake_any _))))
    refine wpQuiet_nil ?_
    rintro ⟨w5, hg5⟩
    dsimp only
    go_wp2
    go_ret
    exact ⟨rfl, HX4.out.trans hg5⟩

set_option maxHeartbeats 2000000 in
theorem fewer_down (w0 : World) (v : Value) (l : List Sm) (h : SlAt w0 v l) (hl : l.length ≤ 64) (p n m : Int) (n1 : 1 ≤ n) (hnm : n < m) (m2 : m ≤ 9223372036854775807) :
    Calls Try.prog 6 #[v, .int .i64 p, .int .i64 m, .int .i64 n] w0 fun r w' => r = .returned (.bool true) ∧ Ext w0 w' := by
  have hnil : Hid (∃ a c, v = .slice a l.length c) := Lib.hid (by
    rcases h with ⟨rfl, rfl⟩ | ⟨b, off, cap, rfl, hb, hc⟩
    · exact ⟨_, _, rfl⟩
    · exact ⟨_, _, rfl⟩)
  have H := Lib.hid h
  clear h
  obtain ⟨ad0, c0, rfl⟩ := hnil.out
  clear hnil
  have hf := fewer l p n m n1 (by omega)
  unfold fewerOk at hf
  have k1 : decide (64 < (l.length : Int)) = false := by simp; omega
  rcases hf with ⟨-, hm, hn⟩ | ⟨p1, hm, j, bb, hn, j0⟩ | ⟨p1, i, j, hm, hn, j0, ji, i2⟩
  · have HM := Lib.hid hm
    have HN := Lib.hid hn
    clear hm hn
    go_enter Try.func6, Try.ntmps6
    go_wp2_with fail
    refine (own_any _ l _ H.out (by omega)).mono ?_
    rintro r w1 hp1
    obtain ⟨v1, rfl, hx1, ho1⟩ := hp1
    have HX1 := Lib.hid hx1
    have HO1 := Lib.hid ho1
    clear hx1 ho1
    go_wp2_with fail
    refine (fits_any _ l _ _ _ HO1.out.sl (by omega)).mono ?_
    rintro r w2 ⟨rfl, hg2⟩
    rw [HM.out]
    have HX2 := Lib.hid (HX1.out.trans hg2)
    clear hg2
    go_wp2_with fail
    refine (own_any _ l _ (H.out.ext HX2.out) (by omega)).mono ?_
    rintro r w3 hp3
    obtain ⟨v3, rfl, hx3, ho3⟩ := hp3
    have HX3 := Lib.hid (HX2.out.trans hx3)
    have HO3 := Lib.hid ho3
    clear hx3 ho3
    go_wp2_with fail
    refine (fits_any _ l _ _ _ HO3.out.sl (by omega)).mono ?_
    rintro r w4 ⟨rfl, hg4⟩
    rw [HN.out]
    have HX4 := Lib.hid (HX3.out.trans hg4)
    clear hg4
    go_wp2_with (go_at_call 16; refine (awake_any _).mono ?_; rintro r w5 ⟨rfl, hg5⟩)
    go_ret
    exact ⟨rfl, HX4.out.trans hg5⟩
  · have HM := Lib.hid hm
    have HN := Lib.hid hn
    clear hm hn
    go_enter Try.func6, Try.ntmps6
    go_wp2_with fail
    refine (own_any _ l _ H.out (by omega)).mono ?_
    rintro r w1 hp1
    obtain ⟨v1, rfl, hx1, ho1⟩ := hp1
    have HX1 := Lib.hid hx1
    have HO1 := Lib.hid ho1
    clear hx1 ho1
    go_wp2_with fail
    refine (fits_any _ l _ _ _ HO1.out.sl (by omega)).mono ?_
    rintro r w2 ⟨rfl, hg2⟩
    rw [HM.out]
    have HX2 := Lib.hid (HX1.out.trans hg2)
    clear hg2
    go_wp2_with fail
    refine (own_any _ l _ (H.out.ext HX2.out) (by omega)).mono ?_
    rintro r w3 hp3
    obtain ⟨v3, rfl, hx3, ho3⟩ := hp3
    have HX3 := Lib.hid (HX2.out.trans hx3)
    have HO3 := Lib.hid ho3
    clear hx3 ho3
    go_wp2_with fail
    refine (fits_any _ l _ _ _ HO3.out.sl (by omega)).mono ?_
    rintro r w4 ⟨rfl, hg4⟩
    rw [HN.out]
    have HX4 := Lib.hid (HX3.out.trans hg4)
    clear hg4
    go_wp2_with fail
    refine wp_region_later _ (by kernel_rfl) (by kernel_rfl) (Ext.refl _) ?_
    repeat (go_big_quiet_step ((go_at_call 16; exact later_call (awake_any _))))
    refine wpQuiet_nil ?_
    rintro ⟨w5, hg5⟩
    dsimp only
    go_wp2
    go_ret
    exact ⟨rfl, HX4.out.trans hg5⟩
  · have hq := div_test p1 j0 ji i2
    have hq2 : decide (j / p ≤ i / p) = true := decide_eq_true (Int.ediv_le_ediv (by omega) ji)
    have hq3 : decide (j.tdiv p ≤ i.tdiv p) = true := by rw [Int.tdiv_eq_ediv_of_nonneg j0, Int.tdiv_eq_ediv_of_nonneg (show 0 ≤ i by omega)]; exact hq2
    have hi0 : 0 ≤ i := by omega
    have hp0 : (p == 0) = false := by simp; omega
    have hp1 : p ≠ 0 := by omega
    have HM := Lib.hid hm
    have HN := Lib.hid hn
    clear hm hn
    go_enter Try.func6, Try.ntmps6
    go_wp2_with fail
    refine (own_any _ l _ H.out (by omega)).mono ?_
    rintro r w1 hp1
    obtain ⟨v1, rfl, hx1, ho1⟩ := hp1
    have HX1 := Lib.hid hx1
    have HO1 := Lib.hid ho1
    clear hx1 ho1
    go_wp2_with fail
    refine (fits_any _ l _ _ _ HO1.out.sl (by omega)).mono ?_
    rintro r w2 ⟨rfl, hg2⟩
    rw [HM.out]
    have HX2 := Lib.hid (HX1.out.trans hg2)
    clear hg2
    go_wp2_with fail
    refine (own_any _ l _ (H.out.ext HX2.out) (by omega)).mono ?_
    rintro r w3 hp3
    obtain ⟨v3, rfl, hx3, ho3⟩ := hp3
    have HX3 := Lib.hid (HX2.out.trans hx3)
    have HO3 := Lib.hid ho3
    clear hx3 ho3
    go_wp2_with fail
    refine (fits_any _ l _ _ _ HO3.out.sl (by omega)).mono ?_
    rintro r w4 ⟨rfl, hg4⟩
    rw [HN.out]
    have HX4 := Lib.hid (HX3.out.trans hg4)
    clear hg4
    go_wp2_with fail
    refine wp_region_later _ (by kernel_rfl) (by kernel_rfl) (Ext.refl _) ?_
    repeat (go_big_quiet_step ((go_at_call 16; exact later_call (awake_any _))))
    repeat (go_big_quiet_step ((go_at_call 16; exact later_call (awake_any _))))
    refine wpQuiet_nil ?_
    rintro ⟨w5, hg5⟩
    dsimp only
    go_wp2
    go_ret
    exact ⟨rfl, HX4.out.trans hg5⟩


theorem int_of {a : Int} (h : (Lit.int .i64 a).wf = true) : -9223372036854775808 ≤ a ∧ a ≤ 9223372036854775807 := by
  simp [Lit.wf, IntKind.min, IntKind.max, IntKind.signed, IntKind.bits] at h; omega

theorem open_sums {H : Type} {enc : TypeId × Value → H} {W : World} {base : Nat} {v : Value} {d : DataW H} {p : List MemPlace} (hval : Value.okWide Try.prog W .any base 22 v) (h : DataW.Trod enc Try.prog W 0 (fun _ => true) true 22 v d p) :
    ∃ l : List Sm, SlAt W v l ∧ l.length ≤ maxLen := by
  rcases open_recs (fs := _) Try.underlying22 Try.underlying25 (by kernel_rfl) (by kernel_rfl) (by decide) hval h with hv | ⟨b, off, len, cap, hv, hm, hb, hc⟩
  · exact ⟨[], .inl ⟨hv, rfl⟩, by simp⟩
  · have each : ∀ i, i < len → ∃ x : Sm, W.cell? ⟨b, off + i * 3, none⟩ = some (.int .i64 x.s) ∧ W.cell? ⟨b, off + i * 3 + 1, none⟩ = some (.int .i64 x.m) ∧ W.cell? ⟨b, off + i * 3 + 2, none⟩ = some (.int .i64 x.e) := by
      intro i hi
      obtain ⟨u0, y0, n0, c0, t0⟩ := hc i hi 0 _ rfl
      obtain ⟨u1, y1, n1, c1, t1⟩ := hc i hi 1 _ rfl
      obtain ⟨u2, y2, n2, c2, t2⟩ := hc i hi 2 _ rfl
      obtain ⟨z0, e0, -, -⟩ := DataW.trod_int Try.underlying3 t0
      obtain ⟨z1, e1, -, -⟩ := DataW.trod_int Try.underlying3 t1
      obtain ⟨z2, e2, -, -⟩ := DataW.trod_int Try.underlying3 t2
      simp only [List.cons.injEq, and_true] at e0 e1 e2
      subst e0 e1 e2
      exact ⟨⟨z0, z1, z2⟩, c0, c1, c2⟩
    let f : Nat → Sm := fun i => if h : i < len then Classical.choose (each i h) else ⟨0, 0, 0⟩
    have hf : ∀ i (h : i < len), W.cell? ⟨b, off + i * 3, none⟩ = some (.int .i64 (f i).s) ∧ W.cell? ⟨b, off + i * 3 + 1, none⟩ = some (.int .i64 (f i).m) ∧ W.cell? ⟨b, off + i * 3 + 2, none⟩ = some (.int .i64 (f i).e) := by
      intro i h
      have := Classical.choose_spec (each i h)
      simp only [f, dif_pos h]
      exact this
    refine ⟨(List.range len).map f, .inr ⟨b, off, cap, by simpa using hv, hb, fun i hi => ?_⟩, by simpa using hm⟩
    simp only [List.length_map, List.length_range] at hi
    simpa using hf i hi

theorem sl_form {w : World} {v : Value} {l : List Sm} (h : SlAt w v l) : ∃ a c, v = .slice a l.length c := by
  rcases h with ⟨rfl, rfl⟩ | ⟨b, off, cap, rfl, hb, hc⟩
  · exact ⟨_, _, rfl⟩
  · exact ⟨_, _, rfl⟩

set_option maxHeartbeats 1000000 in
theorem fewer_out (v : Value) (l : List Sm) (W : World) (h : SlAt W v l) (p n m : Int) (ho : 64 < l.length ∨ n < 1 ∨ m < 1) (hl : l.length ≤ maxLen) :
    Calls Try.prog 6 #[v, .int .i64 p, .int .i64 n, .int .i64 m] W fun r w' => r = .returned (.bool true) ∧ Ext W w' := by
  obtain ⟨ad0, c0, rfl⟩ := sl_form h
  clear h
  unfold maxLen at hl
  by_cases h1 : 64 < l.length
  · have k1 : decide (64 < (l.length : Int)) = true := by simp; omega
    clear ho
    go_enter Try.func6, Try.ntmps6
    go_wp2
    go_ret
    exact ⟨rfl, Ext.refl _⟩
  · have k1 : decide (64 < (l.length : Int)) = false := by simp; omega
    by_cases h2 : n < 1
    · clear ho
      go_enter Try.func6, Try.ntmps6
      go_wp2
      go_ret
      exact ⟨rfl, Ext.refl _⟩
    · have h3 : m < 1 := by omega
      clear ho
      go_enter Try.func6, Try.ntmps6
      go_wp2
      go_ret
      exact ⟨rfl, Ext.refl _⟩

theorem walk_PackFewer {W : World} (v : Value) (l : List Sm) (hl : SlAt W v l ∧ l.length ≤ maxLen) (p : Int) (_wp : (Lit.int .i64 p).wf = true) (n : Int) (wn : (Lit.int .i64 n).wf = true) (m : Int) (wm : (Lit.int .i64 m).wf = true) :
    Calls Try.prog 6 #[v, .int .i64 p, .int .i64 n, .int .i64 m] W fun r w' => r = .returned (.bool true) ∧ Ext W w' := by
  have bn := int_of wn
  have bm := int_of wm
  by_cases ho : 64 < l.length ∨ n < 1 ∨ m < 1
  · exact fewer_out v l W hl.1 p n m ho hl.2
  · by_cases hnm : n ≤ m
    · exact fewer_up W v l hl.1 (by omega) p n m (by omega) hnm (by omega)
    · exact fewer_down W v l hl.1 (by omega) p m n (by omega) (by omega) (by omega)

end Go.Proofs.Ytbfnadfbanhgcaa
