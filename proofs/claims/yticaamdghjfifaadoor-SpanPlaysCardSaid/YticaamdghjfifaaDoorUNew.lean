/- What the reference's New and Manual answer. -/
import Derived.Test.YticaamdghjfifaaDoorTNew
namespace Go.Proofs.YticaamdghjfifaaDoor
open Go.RowKit
set_option linter.unusedVariables false

theorem rmake_bools (n : Nat) (hn : n ≤ 1099511627776) (w : World) : (Instr.makeSlice 34 (.int .i64 n) (.int .i64 n)).run Tryd.prog w = .ok (.slice (some ⟨w.heap.size, 0, none⟩) n n) (w.alloc (.cells (bl (fun _ => false) n) 4)) := by
  obtain ⟨i0, hi, hz0, hz1, hz2⟩ := info_parts rbool_info
  have := run_make (P := Tryd.prog) w 34 4 i0 _ Tryd.underlying34 hi hz0 .i64 .i64 n n (by omega) (by omega) (by rw [hz2]; omega) (by omega)
  rw [hz1] at this
  simp only [Int.toNat_natCast] at this
  rwa [bl_made] at this
theorem bl_list (U : Nat → Bool) (n : Nat) : (bl U n).toList = blL U n := by unfold bl blL; simp
theorem own_bools {w : World} {g B n : Nat} {U : Nat → Bool} (h : Blk w g 4 (bl U n)) (hB : B ≤ g) (hn : n ≤ 65536) : w.ownsRow B 4 1 (.slice (some ⟨g, 0, none⟩) n n) n (blL U n) := by
  refine ⟨by rw [blL_len]; omega, .inr ⟨g, n, bl U n, rfl, hB, h, Nat.le_refl _, by unfold maxLen; omega, by rw [bl_size]; omega, ?_⟩⟩
  rw [bl_list, List.take_of_length_le (by rw [blL_len]; omega)]
theorem brow_new {w : World} {g B n : Nat} (h : Blk w g 4 (bl (fun _ => false) n)) (hB : B ≤ g) (hn : n ≤ 65536) : BRow w B (.slice (some ⟨g, 0, none⟩) n n) n (fun _ => false) := ⟨own_bools h hB hn, (fun j hj => by cases hj), hn⟩

/-- a span that was laid with its rows. -/
theorem rs_rows {w : World} {b g1 g2 page : Nat} {s : Sp} {F : Nat → Prop} (hb : Blk w b 78 #[.int .u64 page, .int .u64 s.pages, .int .i64 s.state, .int .i64 s.cls, .bool s.noptr, .int .i64 s.elem, .int .i64 s.slots, .slice (some ⟨g1, 0, none⟩) s.slots s.slots, .slice (some ⟨g2, 0, none⟩) s.slots s.slots, .int .i64 s.look])
    (h1 : Blk w g1 4 (bl (fun _ => false) s.slots)) (h2 : Blk w g2 4 (bl (fun _ => false) s.slots)) (l1 : b < g1) (l2 : g1 < g2) (hf : Fit s) (hbase : s.base = page * 8192) (hs : s.slots ≤ 65536) (hu : s.used = 0) (fb : F b) (f1 : F g1) (f2 : F g2) (hlt : ∀ k, F k → k < w.heap.size) :
    RsIs w b F page s (fun _ => false) (fun _ => false) := by
  refine ⟨⟨_, _, s.slots, s.slots, ⟨hb, brow_new h1 (by omega) hs, brow_new h2 (by omega) hs, fun g hg hm => ?_, Nat.le_refl _, Nat.le_refl _, fb, fun g hg => ?_, fun g hg => ?_⟩⟩, hlt, hf, hbase, hs, by rw [hu, cntB_none]⟩
  · simp [Value.ownBlock] at hg hm
    omega
  · simp [Value.ownBlock] at hg
    rw [← hg]; exact f1
  · simp [Value.ownBlock] at hg
    rw [← hg]; exact f2
/-- a manual span. -/
theorem rs_plain (w : World) (page : Nat) (s : Sp) (hf : Fit s) (hbase : s.base = page * 8192) (hs : s.slots ≤ 65536) (hu : s.used = 0) :
    RsIs (w.alloc (.cells #[.int .u64 page, .int .u64 s.pages, .int .i64 s.state, .int .i64 s.cls, .bool s.noptr, .int .i64 s.elem, .int .i64 s.slots, .slice none 0 0, .slice none 0 0, .int .i64 s.look] 78)) w.heap.size (· = w.heap.size) page s (fun _ => false) (fun _ => false) :=
  ⟨⟨_, _, 0, 0, ⟨Blk.new w _ _, brow_nil _ _, brow_nil _ _, (fun g hg => by cases hg), Nat.zero_le _, Nat.zero_le _, rfl, (fun g hg => by cases hg), (fun g hg => by cases hg)⟩⟩, fun k hk => by rw [World.size_alloc, hk]; omega, hf, hbase, hs, by rw [hu, cntB_none]⟩

set_option maxHeartbeats 1600000 in
theorem rmanual_no (p q e : Int) (w : World) (p0 : 0 ≤ p) (p1 : p ≤ 18446744073709551615) (q0 : 0 ≤ q) (q1 : q ≤ 18446744073709551615) (e0 : -9223372036854775808 ≤ e) (e1 : e ≤ 9223372036854775807) (hno : ¬ ManOk p q e) :
    Calls Tryd.prog 24 #[.int .u64 p, .int .u64 q, .int .i64 e] w fun r w' => r = .returned (.tuple #[.pointer none, .int .i64 1]) ∧ w = w' := by
  have HNO := Lib.hid hno
  clear hno
  by_cases hr : RightP p q
  · have HR := Lib.hid (right_yes p q w p0 hr)
    have hq := hr.2.1
    have HRr := Lib.hid hr
    clear hr
    by_cases h : e < 8
    · have k : decide (e < 8) = true := decide_eq_true h
      clear h
      go_enter Tryd.func24, Tryd.ntmps24
      go_wp2_with (first | (go_at_call 36; refine HR.out.mono ?_; rintro r w1 ⟨rfl, rfl⟩))
      go_ret2
      exact ⟨rfl, rfl⟩
    · have k1 : decide (e < 8) = false := decide_eq_false h
      have k2 : decide (q * 8192 < e) = true := decide_eq_true (Classical.byContradiction fun hh => HNO.out ⟨HRr.out, by omega, by omega⟩)
      go_enter Tryd.func24, Tryd.ntmps24
      go_wp2_with (first | (go_at_call 36; refine HR.out.mono ?_; rintro r w1 ⟨rfl, rfl⟩))
      go_ret2
      exact ⟨rfl, rfl⟩
  · have HR := Lib.hid (right_no p q w p0 p1 q0 q1 hr)
    clear hr
    go_enter Tryd.func24, Tryd.ntmps24
    go_wp2_with (first | (go_at_call 36; refine HR.out.mono ?_; rintro r w1 ⟨rfl, rfl⟩))
    go_ret2
    exact ⟨rfl, rfl⟩
set_option maxHeartbeats 1600000 in
theorem rmanual_yes (page pages elem : Nat) (w : World) (h1 : 0 < pages) (h2 : pages ≤ 134217728) (h3 : page + pages ≤ 34359738368) (h4 : 8 ≤ elem) (h5 : elem ≤ pages * 8192) (h6 : pages * 8192 / elem ≤ 65536) :
    Calls Tryd.prog 24 #[.int .u64 page, .int .u64 pages, .int .i64 elem] w fun r w' => r = .returned (.tuple #[.pointer (some ⟨w.heap.size, 0, none⟩), .int .i64 0]) ∧ RsIs w' w.heap.size (· = w.heap.size) page (sMan page pages elem) (fun _ => false) (fun _ => false) ∧ Ext w w' := by
  have HN := Lib.hid (rs_plain w page (sMan page pages elem) (fit_man page pages elem h1 h2 h3 h4 h5) rfl h6 rfl)
  unfold sMan at HN
  have e1 : (pages : Int) * 8192 / (elem : Int) = ((pages * 8192 / elem : Nat) : Int) := by
    rw [show (pages : Int) * 8192 = ((pages * 8192 : Nat) : Int) by omega]; rfl
  have hN := HN.out
  simp only [← e1] at hN
  have HM := Lib.hid hN
  have HR := Lib.hid (right_yes page pages w (by omega) ⟨by omega, by omega, by omega⟩)
  have k5 : decide (elem < 8) = false := decide_eq_false (by omega)
  have k6 : decide ((pages : Int) * 8192 < elem) = false := decide_eq_false (by omega)
  clear hN HN e1 h6
  go_enter Tryd.func24, Tryd.ntmps24
  go_wp2_with (first | (go_at_call 36; refine HR.out.mono ?_; rintro r w1 ⟨rfl, rfl⟩))
  go_ret2
  exact ⟨rfl, HM.out, (Ext.refl _).alloc _ _⟩

set_option maxRecDepth 20000 in
set_option maxHeartbeats 4000000 in
theorem rnew_no (p q c : Int) (np : Bool) (w : World) (p0 : 0 ≤ p) (p1 : p ≤ 18446744073709551615) (q0 : 0 ≤ q) (q1 : q ≤ 18446744073709551615) (hno : ¬ NewOk p q c) :
    Calls Tryd.prog 23 #[.int .u64 p, .int .u64 q, .int .i64 c, .bool np] w fun r w' => r = .returned (.tuple #[.pointer none, .int .i64 1]) ∧ Ext w w' := by
  have HNO := Lib.hid hno
  clear hno
  by_cases hr : RightP p q
  · have HR := Lib.hid (right_yes p q w p0 hr)
    have hq := hr.2.1
    have HRr := Lib.hid hr
    clear hr
    by_cases h : c < 0
    · have k : decide (c < 0) = true := decide_eq_true h
      clear h
      go_enter Tryd.func23, Tryd.ntmps23
      go_wp2_with (first | (go_at_call 36; refine HR.out.mono ?_; rintro r w1 ⟨rfl, rfl⟩))
      go_ret2
      exact ⟨rfl, Ext.refl _⟩
    have k3 : decide (c < 0) = false := decide_eq_false h
    by_cases h7 : 67 < c
    · have k : decide (67 < c) = true := decide_eq_true h7
      clear h7
      go_enter Tryd.func23, Tryd.ntmps23
      go_wp2_with (first | (go_at_call 36; refine HR.out.mono ?_; rintro r w1 ⟨rfl, rfl⟩))
      go_ret2
      exact ⟨rfl, Ext.refl _⟩
    have k4 : decide (67 < c) = false := decide_eq_false h7
    obtain ⟨n, rfl⟩ : ∃ n : Nat, c = n := ⟨c.toNat, by omega⟩
    by_cases hn0 : n = 0
    · exact absurd ⟨HRr.out, by omega, by omega, fun hc => by omega⟩ HNO.out
    have hn1 : 0 < n := by omega
    have k8 : decide (0 < n) = true := decide_eq_true hn1
    have hne : q ≠ (pgN n : Int) := fun e => HNO.out ⟨HRr.out, by omega, by omega, fun _ => by rw [Int.toNat_natCast]; exact e⟩
    have k7 : ((pgN n : Int) != q) = true := bne_iff_ne.2 (fun e => hne e.symm)
    have hn : n < 68 := by omega
    have hpg := (tabN_fit n hn).2.1
    have HT := Lib.hid (tabN_all n hn)
    clear h hne hn0
    go_enter Tryd.func23, Tryd.ntmps23
    go_wp2_with (first
      | (go_at_call 36; refine HR.out.mono ?_; rintro r w1 ⟨rfl, rfl⟩)
      | (go_at_call 37; refine (rtable_any _).mono ?_; rintro r w1 ⟨v, rfl, ho, hx⟩; obtain ⟨g, cap, rfl, hBg, hcap, hcm, hT⟩ := tab_open ho; obtain ⟨t0, t1, t2, t3⟩ := hT.row n (by omega); rw [HT.out.2.1] at t1; have HX := Lib.hid (((Ext.refl w).alloc _ _).trans hx); clear ho hx hT t0 t2 t3))
    go_ret2
    exact ⟨rfl, HX.out⟩
  · have HR := Lib.hid (right_no p q w p0 p1 q0 q1 hr)
    clear hr
    go_enter Tryd.func23, Tryd.ntmps23
    go_wp2_with (first | (go_at_call 36; refine HR.out.mono ?_; rintro r w1 ⟨rfl, rfl⟩))
    go_ret2
    exact ⟨rfl, Ext.refl _⟩

set_option maxRecDepth 20000 in
set_option maxHeartbeats 4000000 in
theorem rnew_zero (page pages : Nat) (noptr : Bool) (w : World) (h1 : 0 < pages) (h2 : pages ≤ 134217728) (h3 : page + pages ≤ 34359738368) :
    Calls Tryd.prog 23 #[.int .u64 page, .int .u64 pages, .int .i64 0, .bool noptr] w fun r w' => ∃ b F, r = .returned (.tuple #[.pointer (some ⟨b, 0, none⟩), .int .i64 0]) ∧ RsIs w' b F page (sZero page pages noptr) (fun _ => false) (fun _ => false) ∧ (∀ k, F k → w.heap.size ≤ k) ∧ Ext w w' := by
  have HR := Lib.hid (right_yes page pages w (by omega) ⟨by omega, by omega, by omega⟩)
  have HF := Lib.hid (fit_zero page pages noptr h1 h2 h3)
  have hmk : ∀ w' : World, (Instr.makeSlice 34 (.int .i64 1) (.int .i64 1)).run Tryd.prog w' = .ok (.slice (some ⟨w'.heap.size, 0, none⟩) 1 1) (w'.alloc (.cells (bl (fun _ => false) 1) 4)) := fun w' => rmake_bools 1 (by omega) w'
  go_enter Tryd.func23, Tryd.ntmps23
  go_wp2_with (first | (go_at_call 36; refine HR.out.mono ?_; rintro r w1 ⟨rfl, rfl⟩))
  go_ret2
  have e0 : (pages : Int) * 8192 = ((pages * 8192 : Nat) : Int) := by omega
  rw [e0]
  refine ⟨w.heap.size, (fun k => w.heap.size ≤ k ∧ k < w.heap.size + 3), rfl, rs_rows (g1 := w.heap.size + 1) (g2 := w.heap.size + 1 + 1) (((Blk.new w _ _).alloc _).alloc _) ?_ ?_ (by omega) (by omega) HF.out rfl (by show 1 ≤ _; omega) rfl ⟨by omega, by omega⟩ ⟨by omega, by omega⟩ ⟨by omega, by omega⟩ (fun k hk => by rw [World.size_alloc, World.size_alloc, World.size_alloc]; omega), fun k hk => hk.1, (((Ext.refl _).alloc _ _).alloc _ _).alloc _ _⟩
  · have := Blk.new (w.alloc (.cells #[.int .u64 page, .int .u64 pages, .int .i64 1, .int .i64 0, .bool noptr, .int .i64 (pages * 8192 : Nat), .int .i64 1, .slice (some ⟨w.heap.size + 1, 0, none⟩) 1 1, .slice (some ⟨w.heap.size + 1 + 1, 0, none⟩) 1 1, .int .i64 0] 78)) 4 (bl (fun _ => false) 1)
    rw [World.size_alloc] at this
    exact this.alloc _
  · have := Blk.new ((w.alloc (.cells #[.int .u64 page, .int .u64 pages, .int .i64 1, .int .i64 0, .bool noptr, .int .i64 (pages * 8192 : Nat), .int .i64 1, .slice (some ⟨w.heap.size + 1, 0, none⟩) 1 1, .slice (some ⟨w.heap.size + 1 + 1, 0, none⟩) 1 1, .int .i64 0] 78)).alloc (.cells (bl (fun _ => false) 1) 4)) 4 (bl (fun _ => false) 1)
    rw [World.size_alloc, World.size_alloc] at this
    exact this

set_option maxRecDepth 20000 in
set_option maxHeartbeats 4000000 in
theorem rnew_yes (page c : Nat) (noptr : Bool) (w : World) (hc0 : 1 ≤ c) (hc : c ≤ 67) (h3 : page + pgN c ≤ 34359738368) :
    Calls Tryd.prog 23 #[.int .u64 page, .int .u64 (pgN c : Nat), .int .i64 c, .bool noptr] w fun r w' => ∃ b F, r = .returned (.tuple #[.pointer (some ⟨b, 0, none⟩), .int .i64 0]) ∧ RsIs w' b F page (sNew page c noptr) (fun _ => false) (fun _ => false) ∧ (∀ k, F k → w.heap.size ≤ k) ∧ Ext w w' := by
  obtain ⟨a1, a2, a3, a4, a5, a6⟩ := tabN_fit c (by omega)
  obtain ⟨b1, b2, b3⟩ := a6 hc0
  have HR := Lib.hid (right_yes page (pgN c : Nat) w (by omega) ⟨by omega, by omega, by omega⟩)
  have HF := Lib.hid (fit_new page c noptr hc0 hc h3)
  have HT := Lib.hid (tabN_all c (by omega))
  have hmk : ∀ w' : World, (Instr.makeSlice 34 (.int .i64 (slN c : Nat)) (.int .i64 (slN c : Nat))).run Tryd.prog w' = .ok (.slice (some ⟨w'.heap.size, 0, none⟩) (slN c) (slN c)) (w'.alloc (.cells (bl (fun _ => false) (slN c)) 4)) := fun w' => rmake_bools (slN c) (by omega) w'
  clear a5 a6
  go_enter Tryd.func23, Tryd.ntmps23
  go_wp2_with (first
    | (go_at_call 36; refine HR.out.mono ?_; rintro r w1 ⟨rfl, rfl⟩)
    | (go_at_call 37; refine (rtable_any _).mono ?_; rintro r w1 ⟨v, rfl, ho, hx⟩; obtain ⟨g, cap, rfl, hBg, hcap, hcm, hT⟩ := tab_open ho; obtain ⟨t0, t1, t2, t3⟩ := hT.row c (by omega); rw [HT.out.1] at t0; rw [HT.out.2.1] at t1; rw [HT.out.2.2.1] at t2; have HX := Lib.hid (((Ext.refl w).alloc _ _).trans hx); have hbk := (Blk.new w _ _).later hx; have HB := Lib.hid hbk; have c5 := hbk.cell 5; have c6 := hbk.cell 6; have c7 := hbk.cell 7; have c8 := hbk.cell 8; simp only [List.getElem?_toArray, List.getElem?_cons_succ, List.getElem?_cons_zero] at c5 c6 c7 c8; have f5 := hbk.frozen 5; have f6 := hbk.frozen 6; have f7 := hbk.frozen 7; have f8 := hbk.frozen 8; have hbl := hbk.lt; have hgb : g ≠ w.heap.size := (by rw [World.size_alloc] at hBg; omega); have hgb2 : w.heap.size ≠ g := (by rw [World.size_alloc] at hBg; omega); have hgl := hT.lt; clear ho hx hT t3 hbk))
  go_ret2
  have hx4 : Ext w ((((w1.setCell ⟨w.heap.size, 5, none⟩ (.int .i64 (szN c : Nat))).setCell ⟨w.heap.size, 6, none⟩ (.int .i64 (slN c : Nat))).setCell ⟨w.heap.size, 7, none⟩ (.slice (some ⟨w1.heap.size, 0, none⟩) (slN c) (slN c))).setCell ⟨w.heap.size, 8, none⟩ (.slice (some ⟨w1.heap.size + 1, 0, none⟩) (slN c) (slN c))) :=
    (((HX.out.setCell (p := ⟨w.heap.size, 5, none⟩) (Nat.le_refl _) _).setCell (p := ⟨w.heap.size, 6, none⟩) (Nat.le_refl _) _).setCell (p := ⟨w.heap.size, 7, none⟩) (Nat.le_refl _) _).setCell (p := ⟨w.heap.size, 8, none⟩) (Nat.le_refl _) _
  have hb4 := (((HB.out.set_ 5 (.int .i64 (szN c : Nat))).set_ 6 (.int .i64 (slN c : Nat))).set_ 7 (.slice (some ⟨w1.heap.size, 0, none⟩) (slN c) (slN c))).set_ 8 (.slice (some ⟨w1.heap.size + 1, 0, none⟩) (slN c) (slN c))
  have hs4 : ((((w1.setCell ⟨w.heap.size, 5, none⟩ (.int .i64 (szN c : Nat))).setCell ⟨w.heap.size, 6, none⟩ (.int .i64 (slN c : Nat))).setCell ⟨w.heap.size, 7, none⟩ (.slice (some ⟨w1.heap.size, 0, none⟩) (slN c) (slN c))).setCell ⟨w.heap.size, 8, none⟩ (.slice (some ⟨w1.heap.size + 1, 0, none⟩) (slN c) (slN c))).heap.size = w1.heap.size := by
    rw [World.size_setCell, World.size_setCell, World.size_setCell, World.size_setCell]
  generalize ((((w1.setCell ⟨w.heap.size, 5, none⟩ (.int .i64 (szN c : Nat))).setCell ⟨w.heap.size, 6, none⟩ (.int .i64 (slN c : Nat))).setCell ⟨w.heap.size, 7, none⟩ (.slice (some ⟨w1.heap.size, 0, none⟩) (slN c) (slN c))).setCell ⟨w.heap.size, 8, none⟩ (.slice (some ⟨w1.heap.size + 1, 0, none⟩) (slN c) (slN c))) = w4 at *
  refine ⟨w.heap.size, (fun k => w.heap.size ≤ k ∧ k < w1.heap.size + 2), rfl, rs_rows (g1 := w1.heap.size) (g2 := w1.heap.size + 1) ((hb4.alloc _).alloc _) ?_ ?_ (by omega) (by omega) HF.out rfl (by show slN c ≤ _; omega) rfl ⟨by omega, by omega⟩ ⟨by omega, by omega⟩ ⟨by omega, by omega⟩ (fun k hk => by rw [World.size_alloc, World.size_alloc]; omega), fun k hk => hk.1, (hx4.alloc _ _).alloc _ _⟩
  · have := Blk.new w4 4 (bl (fun _ => false) (slN c))
    rw [hs4] at this
    exact this.alloc _
  · have := Blk.new (w4.alloc (.cells (bl (fun _ => false) (slN c)) 4)) 4 (bl (fun _ => false) (slN c))
    rw [World.size_alloc, hs4] at this
    exact this

end Go.Proofs.YticaamdghjfifaaDoor
