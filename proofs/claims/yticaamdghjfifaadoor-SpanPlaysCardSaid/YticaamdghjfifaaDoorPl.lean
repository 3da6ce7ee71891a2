/- SpanPlays: its act, its comparison, its spans and its walk (parts printed by gen_plact.py and gen_plw.py). -/
import Derived.Test.YticaamdghjfifaaDoorPr
import Derived.Test.YticaamdghjfifaaDoorHead
import Derived.Deep.RegionWith
import Derived.Deep.RegionHeld3
import Derived.BigQuiet
import Derived.Test.YticaamdghjfifaaDoorUNew
import Derived.Test.YticaamdghjfifaaDoorFrame
import Derived.Test.YticaamdghjfifaaDoorZs
import Derived.Test.YticaamdghjfifaaDoorAwake

namespace Go.Proofs.YticaamdghjfifaaDoor
open Go.RowKit
set_option linter.unusedVariables false

/-- the memory while an act is done: the pair, and the act in a box. -/
structure Box (W w : World) (g b page : Nat) (s : Sp) (U M : Nat → Bool) (t : Sp) (V N : Nat → Bool) (a : Nat) (x y z : Int) : Prop where
  pr : Pr W w g b page s U M t V N (fun k => k = a)
  bk : Blk w a 62 #[.int .i64 x, .int .i64 y, .int .u64 z]
/-- an act was done to both. -/
def Acted (W w : World) (g b page : Nat) : Prop := ∃ (s : Sp) (U M : Nat → Bool), Pr W w g b page s U M s U M (fun _ => False) ∧ Inv s U M

section
variable {W w w' : World} {g b page a : Nat} {s s' t t' : Sp} {U M V N U' M' V' N' : Nat → Bool} {x y z : Int} {f1 f2 : FuncId} {u v : Value}
theorem box_new (h : Pr W w g b page s U M t V N (fun _ => False)) (x y z : Int) : Box W (w.alloc (.cells #[.int .i64 x, .int .i64 y, .int .u64 z] 62)) g b page s U M t V N w.heap.size x y z :=
  ⟨h.more ((Ext.refl w).alloc _ _) fun k hk => ⟨.inr (Nat.le_of_eq hk.symm), by have := World.size_alloc w (.cells #[.int .i64 x, .int .i64 y, .int .u64 z] 62); omega⟩, Blk.new w _ _⟩
theorem Box.cells (h : Box W w g b page s U M t V N a x y z) : w.cell? ⟨a, 0, none⟩ = some (.int .i64 x) ∧ w.cell? ⟨a, 1, none⟩ = some (.int .i64 y) ∧ w.cell? ⟨a, 2, none⟩ = some (.int .u64 z) := ⟨h.bk.cell 0, h.bk.cell 1, h.bk.cell 2⟩
theorem Box.later (h : Box W w g b page s U M t V N a x y z) (hx : Ext w w') : Box W w' g b page s U M t V N a x y z := ⟨(h.pr.later hx).1, h.bk.later hx⟩
theorem Box.acted (h : Box W w g b page s U M s U M a x y z) (hi : Inv s U M) : Acted W w g b page := ⟨s, U, M, h.pr.fewer fun k hk => hk.elim, hi⟩
theorem Both0.bp (H : Both0 W g b page s U M f1 f2 v s' U' M') (h : Box W w g b page s U M t V N a x y z) : Calls Tryd.prog f1 #[.pointer (some ⟨g, 0, none⟩)] w fun e w' => e = .returned v ∧ Box W w' g b page s' U' M' t V N a x y z :=
  (H.p _ _ _ _ _ h.pr).mono fun _ _ ⟨h1, h2, h3⟩ => ⟨h1, h2, h.bk.kept h3 rfl⟩
theorem Both0.br (H : Both0 W g b page s U M f1 f2 v s' U' M') (h : Box W w g b page t V N s U M a x y z) : Calls Tryd.prog f2 #[.pointer (some ⟨b, 0, none⟩)] w fun e w' => e = .returned v ∧ Box W w' g b page t V N s' U' M' a x y z :=
  (H.r _ _ _ _ _ h.pr).mono fun _ _ ⟨h1, h2, h3⟩ => ⟨h1, h2, h.bk.kept h3 rfl⟩
theorem Both1.bp (H : Both1 W g b page s U M f1 f2 u v s' U' M') (h : Box W w g b page s U M t V N a x y z) : Calls Tryd.prog f1 #[.pointer (some ⟨g, 0, none⟩), u] w fun e w' => e = .returned v ∧ Box W w' g b page s' U' M' t V N a x y z :=
  (H.p _ _ _ _ _ h.pr).mono fun _ _ ⟨h1, h2, h3⟩ => ⟨h1, h2, h.bk.kept h3 rfl⟩
theorem Both1.br (H : Both1 W g b page s U M f1 f2 u v s' U' M') (h : Box W w g b page t V N s U M a x y z) : Calls Tryd.prog f2 #[.pointer (some ⟨b, 0, none⟩), u] w fun e w' => e = .returned v ∧ Box W w' g b page t V N s' U' M' a x y z :=
  (H.r _ _ _ _ _ h.pr).mono fun _ _ ⟨h1, h2, h3⟩ => ⟨h1, h2, h.bk.kept h3 rfl⟩

set_option maxRecDepth 100000 in
set_option maxHeartbeats 2000000 in
theorem act_1 (y z : Int) (ht : TzAt W) (hi : Inv s U M) (h : Pr W w g b page s U M s U M (fun _ => False)) :
    Calls Tryd.prog 25 #[.pointer (some ⟨g, 0, none⟩), .pointer (some ⟨b, 0, none⟩), .agg #[.int .i64 1, .int .i64 y, .int .u64 z]] w fun r w' => r = .returned (.bool true) ∧ Acted W w' g b page := by
  have HM := Lib.hid (box_new h 1 y z)
  have hI := Lib.hid hi
  obtain ⟨x1, e1, s', U', hB⟩ := both_next (g := g) (b := b) (page := page) hi ht
  have HI := Lib.hid hB.inv
  have HB := Lib.hid hB
  clear hB hI
  clear h hi ht
  obtain ⟨c0, c1, c2⟩ := HM.out.cells
  go_enter Tryd.func25, Tryd.ntmps25
  go_wp2_with (first
    | (go_at_call 12; refine (HB.out.bp HM.out).mono ?_; rintro r w2 ⟨rfl, hm⟩; have HM2 := Lib.hid hm; obtain ⟨d0, d1, d2⟩ := hm.cells; clear hm)
    | (go_at_call 38; refine (HB.out.br HM2.out).mono ?_; rintro r w3 ⟨rfl, hm⟩; have HF := Lib.hid hm; obtain ⟨e0, e1, e2⟩ := hm.cells; clear hm))
  go_ret
  exact ⟨rfl, HF.out.acted HI.out⟩

set_option maxRecDepth 100000 in
set_option maxHeartbeats 2000000 in
theorem act_2 (y z : Int) (hi : Inv s U M) (h : Pr W w g b page s U M s U M (fun _ => False)) :
    Calls Tryd.prog 25 #[.pointer (some ⟨g, 0, none⟩), .pointer (some ⟨b, 0, none⟩), .agg #[.int .i64 2, .int .i64 y, .int .u64 z]] w fun r w' => r = .returned (.bool true) ∧ Acted W w' g b page := by
  have HM := Lib.hid (box_new h 2 y z)
  have hI := Lib.hid hi
  obtain ⟨e1, s', U', hB⟩ := both_give (W := W) (g := g) (b := b) (page := page) hi y
  have HI := Lib.hid hB.inv
  have HB := Lib.hid hB
  clear hB hI
  clear h hi
  obtain ⟨c0, c1, c2⟩ := HM.out.cells
  go_enter Tryd.func25, Tryd.ntmps25
  go_wp2_with fail
  have HRd := Lib.hid (HM.out.later (Ext.refl _).drew)
  clear HM
  go_region_held3 (fun w' => w'.cell? ⟨w.heap.size, 1, none⟩ = some (.int .i64 y)) (go_keep) (first
    | (go_at_call 21; refine (HB.out.bp HR1.out).mono ?_; rintro r w2 ⟨rfl, hm⟩; have HF := Lib.hid hm; obtain ⟨d0, d1, d2⟩ := hm.cells; clear hm)
    | (go_at_call 21; refine (HB.out.bp HRd.out).mono ?_; rintro r w2 ⟨rfl, hm⟩; have HQ1 := Lib.hid hm; obtain ⟨d0, d1, d2⟩ := hm.cells; clear hm)
    | (go_at_call 39; refine (HB.out.br HQ1.out).mono ?_; rintro r w3 ⟨rfl, hm⟩; have HF := Lib.hid hm; obtain ⟨e0, e1, e2⟩ := hm.cells; clear hm)
    | (go_at_call 39; refine (HB.out.br HRd.out).mono ?_; rintro r w3 ⟨rfl, hm⟩; have HR1 := Lib.hid hm; obtain ⟨e0, e1, e2⟩ := hm.cells; clear hm))
  all_goals
    go_wp2
    go_ret
    exact ⟨rfl, HF.out.acted HI.out⟩

set_option maxRecDepth 100000 in
set_option maxHeartbeats 2000000 in
theorem act_3 (y z : Int) (hi : Inv s U M) (h : Pr W w g b page s U M s U M (fun _ => False)) :
    Calls Tryd.prog 25 #[.pointer (some ⟨g, 0, none⟩), .pointer (some ⟨b, 0, none⟩), .agg #[.int .i64 3, .int .i64 y, .int .u64 z]] w fun r w' => r = .returned (.bool true) ∧ Acted W w' g b page := by
  have HM := Lib.hid (box_new h 3 y z)
  have hI := Lib.hid hi
  obtain ⟨e1, M', hB⟩ := both_mark (W := W) (g := g) (b := b) (page := page) hi y
  have HI := Lib.hid hB.inv
  have HB := Lib.hid hB
  clear hB hI
  clear h hi
  obtain ⟨c0, c1, c2⟩ := HM.out.cells
  go_enter Tryd.func25, Tryd.ntmps25
  go_wp2_with fail
  have HRd := Lib.hid (HM.out.later (Ext.refl _).drew)
  clear HM
  go_region_held3 (fun w' => w'.cell? ⟨w.heap.size, 1, none⟩ = some (.int .i64 y)) (go_keep) (first
    | (go_at_call 14; refine (HB.out.bp HR1.out).mono ?_; rintro r w2 ⟨rfl, hm⟩; have HF := Lib.hid hm; obtain ⟨d0, d1, d2⟩ := hm.cells; clear hm)
    | (go_at_call 14; refine (HB.out.bp HRd.out).mono ?_; rintro r w2 ⟨rfl, hm⟩; have HQ1 := Lib.hid hm; obtain ⟨d0, d1, d2⟩ := hm.cells; clear hm)
    | (go_at_call 40; refine (HB.out.br HQ1.out).mono ?_; rintro r w3 ⟨rfl, hm⟩; have HF := Lib.hid hm; obtain ⟨e0, e1, e2⟩ := hm.cells; clear hm)
    | (go_at_call 40; refine (HB.out.br HRd.out).mono ?_; rintro r w3 ⟨rfl, hm⟩; have HR1 := Lib.hid hm; obtain ⟨e0, e1, e2⟩ := hm.cells; clear hm))
  all_goals
    go_wp2
    go_ret
    exact ⟨rfl, HF.out.acted HI.out⟩

set_option maxRecDepth 100000 in
set_option maxHeartbeats 2000000 in
theorem act_4 (y z : Int) (ht : TzAt W) (hi : Inv s U M) (h : Pr W w g b page s U M s U M (fun _ => False)) :
    Calls Tryd.prog 25 #[.pointer (some ⟨g, 0, none⟩), .pointer (some ⟨b, 0, none⟩), .agg #[.int .i64 4, .int .i64 y, .int .u64 z]] w fun r w' => r = .returned (.bool true) ∧ Acted W w' g b page := by
  have HM := Lib.hid (box_new h 4 y z)
  have hI := Lib.hid hi
  obtain ⟨xs, e1, s', U', M', hB⟩ := both_sweep (g := g) (b := b) (page := page) hi ht
  have HI := Lib.hid hB.inv
  have HB := Lib.hid hB
  clear hB hI ht
  clear h hi
  obtain ⟨c0, c1, c2⟩ := HM.out.cells
  go_enter Tryd.func25, Tryd.ntmps25
  go_wp2_with (first
    | (go_at_call 15; refine (HB.out.p _ _ _ _ _ HM.out.pr).mono ?_; rintro r w2 ⟨v2, rfl, ho, hP, hK⟩; have HP2 := Lib.hid hP; have HO2 := Lib.hid ho; have d0 := (HM.out.bk.kept hK rfl).cell 0; clear ho hP hK)
    | (go_at_call 41; refine (HB.out.r _ _ _ _ _ HP2.out).mono ?_; rintro r w3 ⟨v3, rfl, hR, hP, hK⟩; have HP3 := Lib.hid hP; have HR3 := Lib.hid hR; have HR2 := Lib.hid (RdI.own (owns_blocks HO2.out fun k hk => hK k (.inr hk))); clear hR hP hK)
    | (go_at_call 42; refine (list_same v2 v3 xs w3 HR2.out HR3.out HB.out.small).mono ?_; rintro r w4 ⟨rfl, hx⟩; have HF := Lib.hid (HP3.out.later hx).1; clear hx))
  go_ret
  exact ⟨rfl, _, _, _, HF.out.fewer fun k hk => hk.elim, HI.out⟩

set_option maxRecDepth 100000 in
set_option maxHeartbeats 2000000 in
theorem act_5 (y z : Int) (hi : Inv s U M) (h : Pr W w g b page s U M s U M (fun _ => False)) :
    Calls Tryd.prog 25 #[.pointer (some ⟨g, 0, none⟩), .pointer (some ⟨b, 0, none⟩), .agg #[.int .i64 5, .int .i64 y, .int .u64 z]] w fun r w' => r = .returned (.bool true) ∧ Acted W w' g b page := by
  have HM := Lib.hid (box_new h 5 y z)
  have hI := Lib.hid hi
  obtain ⟨e1, s', U', M', hB⟩ := both_die (W := W) (g := g) (b := b) (page := page) hi
  have HI := Lib.hid hB.inv
  have HB := Lib.hid hB
  clear hB hI
  clear h hi
  obtain ⟨c0, c1, c2⟩ := HM.out.cells
  go_enter Tryd.func25, Tryd.ntmps25
  go_wp2_with (first
    | (go_at_call 22; refine (HB.out.bp HM.out).mono ?_; rintro r w2 ⟨rfl, hm⟩; have HM2 := Lib.hid hm; obtain ⟨d0, d1, d2⟩ := hm.cells; clear hm)
    | (go_at_call 43; refine (HB.out.br HM2.out).mono ?_; rintro r w3 ⟨rfl, hm⟩; have HF := Lib.hid hm; obtain ⟨e0, e1, e2⟩ := hm.cells; clear hm))
  go_ret
  exact ⟨rfl, HF.out.acted HI.out⟩

set_option maxRecDepth 100000 in
set_option maxHeartbeats 2000000 in
theorem act_6 (y z : Int) (hi : Inv s U M) (h : Pr W w g b page s U M s U M (fun _ => False)) :
    Calls Tryd.prog 25 #[.pointer (some ⟨g, 0, none⟩), .pointer (some ⟨b, 0, none⟩), .agg #[.int .i64 6, .int .i64 y, .int .u64 z]] w fun r w' => r = .returned (.bool true) ∧ Acted W w' g b page := by
  have HM := Lib.hid (box_new h 6 y z)
  have hI := Lib.hid hi
  obtain ⟨x1, e1, hB⟩ := both_slot (W := W) (g := g) (b := b) (page := page) hi y
  have HI := Lib.hid hi
  have HB := Lib.hid hB
  have HU := Lib.hid (there_same (s := s) hi.hu y)
  have HV := Lib.hid (there_same (s := s) hi.hm y)
  clear hB hI
  clear h hi
  obtain ⟨c0, c1, c2⟩ := HM.out.cells
  go_enter Tryd.func25, Tryd.ntmps25
  go_wp2_with (first
    | (go_at_call 19; refine (HB.out.bp HM.out).mono ?_; rintro r w2 ⟨rfl, hm⟩; have HM2 := Lib.hid hm; obtain ⟨d0, d1, d2⟩ := hm.cells; clear hm)
    | (go_at_call 44; refine (HB.out.br HM2.out).mono ?_; rintro r w3 ⟨rfl, hm⟩; have HF := Lib.hid hm; obtain ⟨e0, e1, e2⟩ := hm.cells; clear hm))
  have HA := Lib.hid fun w' (hx : Ext w3 w') => pr_used (HF.out.later hx).pr y
  have HBu := Lib.hid fun w' (hx : Ext w3 w') => pr_rused (HF.out.later hx).pr y
  have HC := Lib.hid fun w' (hx : Ext w3 w') => pr_marked (HF.out.later hx).pr y
  have HD := Lib.hid fun w' (hx : Ext w3 w') => pr_rmarked (HF.out.later hx).pr y
  simp only [HU.out] at HBu
  simp only [HV.out] at HD
  generalize (thereB s y && U y.toNat) = u1 at *
  generalize (thereB s y && M y.toNat) = m1 at *
  clear HM HM2 HU HV HB c0 c1 c2 d0 d1 d2
  go_quiet (first
    | (go_at_call 13; exact Calls.quiet_of_same ((HA.out _ (by first | exact (Ext.refl _).drew | exact (Ext.refl _).drewN' _)).mono fun _ _ ⟨a, b⟩ => ⟨a, b.symm⟩))
    | (go_at_call 45; exact Calls.quiet_of_same ((HBu.out _ (by first | exact (Ext.refl _).drew | exact (Ext.refl _).drewN' _)).mono fun _ _ ⟨a, b⟩ => ⟨a, b.symm⟩))
    | (go_at_call 17; exact Calls.quiet_of_same ((HC.out _ (by first | exact (Ext.refl _).drew | exact (Ext.refl _).drewN' _)).mono fun _ _ ⟨a, b⟩ => ⟨a, b.symm⟩))
    | (go_at_call 46; exact Calls.quiet_of_same ((HD.out _ (by first | exact (Ext.refl _).drew | exact (Ext.refl _).drewN' _)).mono fun _ _ ⟨a, b⟩ => ⟨a, b.symm⟩)))
  go_wp2
  go_ret
  exact ⟨rfl, (HF.out.later ((Ext.refl w3).drewN nq)).acted HI.out⟩

set_option maxRecDepth 100000 in
set_option maxHeartbeats 2000000 in
theorem act_7 (y z : Int) (z0 : 0 ≤ z) (z1 : z ≤ 18446744073709551615) (hi : Inv s U M) (h : Pr W w g b page s U M s U M (fun _ => False)) :
    Calls Tryd.prog 25 #[.pointer (some ⟨g, 0, none⟩), .pointer (some ⟨b, 0, none⟩), .agg #[.int .i64 7, .int .i64 y, .int .u64 z]] w fun r w' => r = .returned (.bool true) ∧ Acted W w' g b page := by
  have HM := Lib.hid (box_new h 7 y z)
  have hI := Lib.hid hi
  obtain ⟨x1, e1, hB⟩ := both_index (W := W) (g := g) (b := b) (page := page) hi z z0 z1
  have HI := Lib.hid hB.inv
  have HB := Lib.hid hB
  clear hB hI
  clear h hi z0 z1
  obtain ⟨c0, c1, c2⟩ := HM.out.cells
  go_enter Tryd.func25, Tryd.ntmps25
  go_wp2_with (first
    | (go_at_call 18; refine (HB.out.bp HM.out).mono ?_; rintro r w2 ⟨rfl, hm⟩; have HM2 := Lib.hid hm; obtain ⟨d0, d1, d2⟩ := hm.cells; clear hm)
    | (go_at_call 47; refine (HB.out.br HM2.out).mono ?_; rintro r w3 ⟨rfl, hm⟩; have HF := Lib.hid hm; obtain ⟨e0, e1, e2⟩ := hm.cells; clear hm))
  go_ret
  exact ⟨rfl, HF.out.acted HI.out⟩

set_option maxRecDepth 100000 in
set_option maxHeartbeats 2000000 in
theorem act_8 (x : Int) (y z : Int) (h1 : x ≠ 1) (h2 : x ≠ 2) (h3 : x ≠ 3) (h4 : x ≠ 4) (h5 : x ≠ 5) (h6 : x ≠ 6) (h7 : x ≠ 7) (hi : Inv s U M) (h : Pr W w g b page s U M s U M (fun _ => False)) :
    Calls Tryd.prog 25 #[.pointer (some ⟨g, 0, none⟩), .pointer (some ⟨b, 0, none⟩), .agg #[.int .i64 x, .int .i64 y, .int .u64 z]] w fun r w' => r = .returned (.bool true) ∧ Acted W w' g b page := by
  have HM := Lib.hid (box_new h x y z)
  have hI := Lib.hid hi
  have k1 : (x == 1) = false := by simpa using h1
  have k2 : (x == 2) = false := by simpa using h2
  have k3 : (x == 3) = false := by simpa using h3
  have k4 : (x == 4) = false := by simpa using h4
  have k5 : (x == 5) = false := by simpa using h5
  have k6 : (x == 6) = false := by simpa using h6
  have k7 : (x == 7) = false := by simpa using h7
  clear h1 h2 h3 h4 h5 h6 h7
  clear h hi
  obtain ⟨c0, c1, c2⟩ := HM.out.cells
  go_enter Tryd.func25, Tryd.ntmps25
  go_wp2
  go_ret
  exact ⟨rfl, HM.out.acted hI.out⟩

theorem act_any (x y z : Int) (ht : TzAt W) (z0 : 0 ≤ z) (z1 : z ≤ 18446744073709551615) (hi : Inv s U M) (h : Pr W w g b page s U M s U M (fun _ => False)) :
    Calls Tryd.prog 25 #[.pointer (some ⟨g, 0, none⟩), .pointer (some ⟨b, 0, none⟩), .agg #[.int .i64 x, .int .i64 y, .int .u64 z]] w fun r w' => r = .returned (.bool true) ∧ Acted W w' g b page := by
  have hx : x = 1 ∨ x = 2 ∨ x = 3 ∨ x = 4 ∨ x = 5 ∨ x = 6 ∨ x = 7 ∨ (x ≠ 1 ∧ x ≠ 2 ∧ x ≠ 3 ∧ x ≠ 4 ∧ x ≠ 5 ∧ x ≠ 6 ∧ x ≠ 7) := by omega
  rcases hx with rfl | rfl | rfl | rfl | rfl | rfl | rfl | ⟨h1, h2, h3, h4, h5, h6, h7⟩
  · exact act_1 y z ht hi h
  · exact act_2 y z hi h
  · exact act_3 y z hi h
  · exact act_4 y z ht hi h
  · exact act_5 y z hi h
  · exact act_6 y z hi h
  · exact act_7 y z z0 z1 hi h
  · exact act_8 x y z h1 h2 h3 h4 h5 h6 h7 hi h

end

end Go.Proofs.YticaamdghjfifaaDoor

namespace Go.Proofs.YticaamdghjfifaaDoor
open Go.RowKit
set_option linter.unusedVariables false

section
variable {W w w' : World} {g b page a : Nat} {s s' t t' : Sp} {U M V N U' M' V' N' : Nat → Bool} {R : Nat → Prop}
set_option maxRecDepth 100000 in
set_option maxHeartbeats 2000000 in
theorem same_any (hi : Inv s U M) (h : Pr W w g b page s U M s U M R) :
    Calls Tryd.prog 26 #[.pointer (some ⟨g, 0, none⟩), .pointer (some ⟨b, 0, none⟩)] w fun r w' => r = .returned (.bool true) ∧ Pr W w' g b page s U M s U M R := by
  have HM := Lib.hid h
  have HU := Lib.hid fun y => there_same (s := s) hi.hu y
  have HV := Lib.hid fun y => there_same (s := s) hi.hm y
  have HA := Lib.hid (pr_info h)
  have HB := Lib.hid fun w' (h' : Pr W w' g b page s U M s U M R) => pr_rinfo h'
  simp only [info_same hi, infoL] at HA HB
  clear h hi
  generalize (s.base : Int) = q0 at HA HB
  generalize (s.pages : Int) = q1 at HA HB
  generalize (s.state : Int) = q2 at HA HB
  generalize (s.cls : Int) = q3 at HA HB
  generalize (s.elem : Int) = q4 at HA HB
  generalize (s.slots : Int) = q5 at HA HB
  generalize (s.used : Int) = q6 at HA HB
  generalize s.noptr = q7 at HA HB
  generalize s.swept = q8 at HA HB
  generalize s.held = q9 at HA HB
  go_enter Tryd.func26, Tryd.ntmps26
  go_wp2_with (first
    | (go_at_call 16; refine HA.out.mono ?_; rintro r w2 ⟨rfl, hm, -⟩; have HM2 := Lib.hid hm; clear hm)
    | (go_at_call 48; refine (HB.out _ HM2.out).mono ?_; rintro r w3 ⟨rfl, hm, -⟩; have HF := Lib.hid hm; clear hm))
  clear HA HB HM HM2
  go_loopw [5] (fun i wr => ∃ z : Int, -1 ≤ z ∧ z ≤ 40 ∧ i = .int .i64 z ∧ wr = w3) (fun i _ => (40 - intOf i).toNat)
  case atStart => exact ⟨-1, by omega, by omega, rfl, rfl⟩
  case round =>
    obtain ⟨z, hz0, hz1, rfl, rfl⟩ := hrel
    by_cases hlt : z < 40
    · have k0 : decide (z < 40) = true := decide_eq_true hlt
      have HA := Lib.hid (pr_used HF.out z)
      have HB := Lib.hid (pr_rused HF.out z)
      have HC := Lib.hid (pr_marked HF.out z)
      have HD := Lib.hid (pr_rmarked HF.out z)
      simp only [HU.out] at HB
      simp only [HV.out] at HD
      generalize (thereB s z && U z.toNat) = u1 at HA HB
      generalize (thereB s z && M z.toNat) = m1 at HC HD
      go_wp2_with (first
        | (go_at_call 13; refine HA.out.mono ?_; rintro r w4 ⟨rfl, rfl⟩)
        | (go_at_call 45; refine HB.out.mono ?_; rintro r w4 ⟨rfl, rfl⟩)
        | (go_at_call 17; refine HC.out.mono ?_; rintro r w4 ⟨rfl, rfl⟩)
        | (go_at_call 46; refine HD.out.mono ?_; rintro r w4 ⟨rfl, rfl⟩))
      go_roundw
      case rel => exact ⟨z + 1, by omega, by omega, by go_num, by first | trivial | rfl⟩
      case measure => simp [intOf]; omega
    · have k0 : decide (z < 40) = false := decide_eq_false hlt
      go_wp2_with fail
      go_ret
      exact ⟨rfl, HF.out⟩
end

end Go.Proofs.YticaamdghjfifaaDoor

namespace Go.Proofs.YticaamdghjfifaaDoor
open Go.RowKit Go.ChangeShapes Go.WideShapes
set_option linter.unusedVariables false

/-- both give a span of the same kind. -/
structure Opened (page : Nat) (f1 f2 : FuncId) (args : Array Value) (s : Sp) : Prop where
  inv : Inv s (fun _ => false) (fun _ => false)
  p : ∀ w, Calls Tryd.prog f1 args w fun r w' => ∃ g, r = .returned (.tuple #[.pointer (some ⟨g, 0, none⟩), .int .i64 0]) ∧ w.heap.size ≤ g ∧ SpanIs w' g (· = g) s (fun _ => false) (fun _ => false) ∧ Ext w w'
  r : ∀ w, Calls Tryd.prog f2 args w fun r w' => ∃ b F, r = .returned (.tuple #[.pointer (some ⟨b, 0, none⟩), .int .i64 0]) ∧ RsIs w' b F page s (fun _ => false) (fun _ => false) ∧ (∀ k, F k → w.heap.size ≤ k) ∧ Ext w w'

theorem inv_zero (page pages : Nat) (np : Bool) (h1 : 0 < pages) (h2 : pages ≤ 134217728) (h3 : page + pages ≤ 34359738368) : Inv (sZero page pages np) (fun _ => false) (fun _ => false) :=
  ⟨fit_zero page pages np h1 h2 h3, .inl rfl, ⟨rfl, rfl⟩, (fun j hj => by cases hj), (fun j hj => by cases hj), (cntB_none _).symm, (show 1 ≤ 65536 by omega)⟩
theorem inv_new (page c : Nat) (np : Bool) (hc0 : 1 ≤ c) (hc : c ≤ 67) (h3 : page + pgN c ≤ 34359738368) : Inv (sNew page c np) (fun _ => false) (fun _ => false) :=
  ⟨fit_new page c np hc0 hc h3, mag_new page c np hc0 hc, ⟨rfl, rfl⟩, (fun j hj => by cases hj), (fun j hj => by cases hj), (cntB_none _).symm, by have := (tabN_fit c (by omega)).2.2.1; show slN c ≤ 65536; omega⟩
theorem inv_man (page pages elem : Nat) (h1 : 0 < pages) (h2 : pages ≤ 134217728) (h3 : page + pages ≤ 34359738368) (h4 : 8 ≤ elem) (h5 : elem ≤ pages * 8192) (h6 : pages * 8192 / elem ≤ 65536) : Inv (sMan page pages elem) (fun _ => false) (fun _ => false) :=
  ⟨fit_man page pages elem h1 h2 h3 h4 h5, mag_man page pages elem, ⟨rfl, rfl⟩, (fun j hj => by cases hj), (fun j hj => by cases hj), (cntB_none _).symm, h6⟩

theorem opened_new (p q c : Int) (np : Bool) (p0 : 0 ≤ p) (q0 : 0 ≤ q) (h : NewOk p q c) : ∃ s, Opened p.toNat 11 23 #[.int .u64 p, .int .u64 q, .int .i64 c, .bool np] s := by
  obtain ⟨⟨h1, h2, h3⟩, h4, h5, h6⟩ := h
  obtain ⟨page, rfl⟩ : ∃ k : Nat, p = k := ⟨p.toNat, by omega⟩
  rw [Int.toNat_natCast]
  obtain ⟨c, rfl⟩ : ∃ k : Nat, c = k := ⟨c.toNat, by omega⟩
  rw [Int.toNat_natCast] at h6
  by_cases hc : c = 0
  · subst hc
    obtain ⟨pages, rfl⟩ : ∃ k : Nat, q = k := ⟨q.toNat, by omega⟩
    exact ⟨sZero page pages np, inv_zero page pages np (by omega) (by omega) (by omega), fun w => new_zero page pages np w (by omega) (by omega) (by omega), fun w => rnew_zero page pages np w (by omega) (by omega) (by omega)⟩
  · have h7 := h6 (by omega)
    subst h7
    exact ⟨sNew page c np, inv_new page c np (by omega) (by omega) (by omega), fun w => new_yes page c np w (by omega) (by omega) (by omega), fun w => rnew_yes page c np w (by omega) (by omega) (by omega)⟩
theorem opened_man (p q e : Int) (p0 : 0 ≤ p) (q0 : 0 ≤ q) (h : ManOk p q e) (hs : q * 8192 / e ≤ 65536) : ∃ s, Opened p.toNat 20 24 #[.int .u64 p, .int .u64 q, .int .i64 e] s := by
  obtain ⟨⟨h1, h2, h3⟩, h4, h5⟩ := h
  obtain ⟨page, rfl⟩ : ∃ k : Nat, p = k := ⟨p.toNat, by omega⟩
  rw [Int.toNat_natCast]
  obtain ⟨pages, rfl⟩ : ∃ k : Nat, q = k := ⟨q.toNat, by omega⟩
  obtain ⟨elem, rfl⟩ : ∃ k : Nat, e = k := ⟨e.toNat, by omega⟩
  have h6 : pages * 8192 / elem ≤ 65536 := by
    have e1 : (pages : Int) * 8192 / (elem : Int) = ((pages * 8192 / elem : Nat) : Int) := by
      rw [show (pages : Int) * 8192 = ((pages * 8192 : Nat) : Int) by omega]; rfl
    rw [e1] at hs
    omega
  refine ⟨sMan page pages elem, inv_man page pages elem (by omega) (by omega) (by omega) (by omega) (by omega) h6, fun w => ?_, fun w => ?_⟩
  · exact (manual_yes page pages elem w (by omega) (by omega) (by omega) (by omega) (by omega)).mono fun r w' ⟨e, h, hx⟩ => ⟨_, e, Nat.le_refl _, h, hx⟩
  · exact (rmanual_yes page pages elem w (by omega) (by omega) (by omega) (by omega) (by omega) h6).mono fun r w' ⟨e, h, hx⟩ => ⟨_, _, e, h, fun k hk => Nat.le_of_eq hk.symm, hx⟩

/-- what New gives is let go by: something, and no older cell turns. -/
theorem new_ext (p q c : Int) (np : Bool) (w : World) (p0 : 0 ≤ p) (p1 : p ≤ 18446744073709551615) (q0 : 0 ≤ q) (q1 : q ≤ 18446744073709551615) :
    Calls Tryd.prog 11 #[.int .u64 p, .int .u64 q, .int .i64 c, .bool np] w fun r w' => (∃ v e, r = .returned (.tuple #[v, e])) ∧ Ext w w' := by
  by_cases h : NewOk p q c
  · obtain ⟨s, hO⟩ := opened_new p q c np p0 q0 h
    exact (hO.p w).mono fun r w' ⟨g, e, _, _, hx⟩ => ⟨⟨_, _, e⟩, hx⟩
  · exact (new_no p q c np w p0 p1 q0 q1 h).mono fun r w' ⟨e, hx⟩ => ⟨⟨_, _, e⟩, hx⟩
theorem rnew_ext (p q c : Int) (np : Bool) (w : World) (p0 : 0 ≤ p) (p1 : p ≤ 18446744073709551615) (q0 : 0 ≤ q) (q1 : q ≤ 18446744073709551615) :
    Calls Tryd.prog 23 #[.int .u64 p, .int .u64 q, .int .i64 c, .bool np] w fun r w' => (∃ v e, r = .returned (.tuple #[v, e])) ∧ Ext w w' := by
  by_cases h : NewOk p q c
  · obtain ⟨s, hO⟩ := opened_new p q c np p0 q0 h
    exact (hO.r w).mono fun r w' ⟨g, F, e, _, _, hx⟩ => ⟨⟨_, _, e⟩, hx⟩
  · exact (rnew_no p q c np w p0 p1 q0 q1 h).mono fun r w' ⟨e, hx⟩ => ⟨⟨_, _, e⟩, hx⟩

theorem acted_new {W w1 w2 : World} {g b page : Nat} {s : Sp} {F : Nat → Prop} (hx1 : Ext W w1) (hg : W.heap.size ≤ g) (hS : SpanIs w1 g (· = g) s (fun _ => false) (fun _ => false)) (hR : RsIs w2 b F page s (fun _ => false) (fun _ => false)) (hF : ∀ k, F k → w1.heap.size ≤ k) (hx2 : Ext w1 w2) (hi : Inv s (fun _ => false) (fun _ => false)) : Acted W w2 g b page := by
  refine ⟨s, _, _, ⟨F, ⟨⟨(· = g), hS.later hx2, fun k hk => by subst hk; exact hg, fun k hk e => ?_⟩, fun k hk => ?_, fun k hk => ?_, hx1.trans hx2⟩, hR, fun k hk => hk.elim⟩, hi⟩
  · rcases hk with hk | hk
    · have := hF k hk
      have := hS.lt g rfl
      have e' : k = g := e
      omega
    · exact hk
  · exact hk.elim (hR.lt k) fun h => h.elim
  · exact hk.elim (fun h => Nat.le_trans hx1.size (hF k h)) fun h => h.elim

/-! ### the acts -/
structure Acts where
  len : Nat
  x : Nat → Int
  y : Nat → Int
  z : Nat → Int
def ActsAt (W : World) (p : Option Addr) (l : Acts) : Prop := ∀ i, i < l.len → ∃ b off, p = some ⟨b, off, none⟩ ∧ b < W.heap.size ∧
  W.cell? ⟨b, off + i * 3, none⟩ = some (.int .i64 (l.x i)) ∧ W.cell? ⟨b, off + i * 3 + 1, none⟩ = some (.int .i64 (l.y i)) ∧ W.cell? ⟨b, off + i * 3 + 2, none⟩ = some (.int .u64 (l.z i)) ∧
  (Lit.int .u64 (l.z i)).wf = true
def ActsIn (W : World) (v : Value) (l : Acts) : Prop := l.len ≤ maxLen ∧ ∃ p cap, v = .slice p l.len cap ∧ ActsAt W p l

theorem open_acts {H : Type} {enc : TypeId × Value → H} {W : World} {base : Nat} {v : Value} {d : DataW H} {p : List MemPlace} (hval : Value.okWide Tryd.prog W .any base 55 v) (h : DataW.Trod enc Tryd.prog W 0 (fun _ => true) true 55 v d p) :
    ∃ l : Acts, ActsIn W v l := by
  rcases open_recs (fs := _) Tryd.underlying55 Tryd.underlying62 (by kernel_rfl) (by kernel_rfl) (by decide) hval h with hv | ⟨b, off, len, cap, hv, hm, hb, hc⟩
  · exact ⟨⟨0, fun _ => 0, fun _ => 0, fun _ => 0⟩, by simp, none, 0, hv, fun i hi => absurd hi (by simp)⟩
  · have each : ∀ i, i < len → ∃ x : Int × Int × Int, W.cell? ⟨b, off + i * 3, none⟩ = some (.int .i64 x.1) ∧ W.cell? ⟨b, off + i * 3 + 1, none⟩ = some (.int .i64 x.2.1) ∧ W.cell? ⟨b, off + i * 3 + 2, none⟩ = some (.int .u64 x.2.2) ∧ (Lit.int .u64 x.2.2).wf = true := by
      intro i hi
      obtain ⟨u0, y0, n0, c0, t0⟩ := hc i hi 0 _ rfl
      obtain ⟨u1, y1, n1, c1, t1⟩ := hc i hi 1 _ rfl
      obtain ⟨u2, y2, n2, c2, t2⟩ := hc i hi 2 _ rfl
      obtain ⟨z0, e0, -, f0⟩ := DataW.trod_int Tryd.underlying3 t0
      obtain ⟨z1, e1, -, f1⟩ := DataW.trod_int Tryd.underlying3 t1
      obtain ⟨z2, e2, -, f2⟩ := DataW.trod_int Tryd.underlying30 t2
      simp only [List.cons.injEq, and_true] at e0 e1 e2
      subst e0 e1 e2
      exact ⟨⟨z0, z1, z2⟩, c0, c1, c2, f2⟩
    let f : Nat → Int × Int × Int := fun i => if h : i < len then Classical.choose (each i h) else ⟨0, 0, 0⟩
    refine ⟨⟨len, fun i => (f i).1, fun i => (f i).2.1, fun i => (f i).2.2⟩, hm, some ⟨b, off, none⟩, cap, hv, fun i hi => ?_⟩
    have hf := Classical.choose_spec (each i hi)
    have he : f i = Classical.choose (each i hi) := by simp only [f]; exact dif_pos hi
    rw [← he] at hf
    exact ⟨b, off, rfl, hb, hf⟩

end Go.Proofs.YticaamdghjfifaaDoor

namespace Go.Proofs.YticaamdghjfifaaDoor
open Go.RowKit
set_option linter.unusedVariables false

set_option maxRecDepth 100000 in
set_option maxHeartbeats 4000000 in
theorem plays_long_true (q1 q2 cl el : Int) (np : Bool) (p : Option Addr) (cap : Nat) (l : Acts) (W : World) (ht : TzAt W) (p0 : 0 ≤ q1) (p1 : q1 ≤ 18446744073709551615) (r0 : 0 ≤ q2) (r1 : q2 ≤ 18446744073709551615) (e0 : -9223372036854775808 ≤ el) (e1 : el ≤ 9223372036854775807) (hm : l.len ≤ 9223372036854775807) (hl : 300 < l.len) :
    Calls Tryd.prog 8 #[.int .u64 q1, .int .u64 q2, .int .i64 cl, .int .i64 el, .bool true, .bool np, .slice p l.len cap] W fun r w' => r = .returned (.bool true) ∧ Ext W w' := by
  have k0 : decide (300 < l.len) = true := decide_eq_true hl
  clear ht
  go_enter Tryd.func8, Tryd.ntmps8
  go_wp2
  go_ret
  exact ⟨rfl, Ext.refl _⟩

set_option maxRecDepth 100000 in
set_option maxHeartbeats 4000000 in
theorem plays_long_false (q1 q2 cl el : Int) (np : Bool) (p : Option Addr) (cap : Nat) (l : Acts) (W : World) (ht : TzAt W) (p0 : 0 ≤ q1) (p1 : q1 ≤ 18446744073709551615) (r0 : 0 ≤ q2) (r1 : q2 ≤ 18446744073709551615) (e0 : -9223372036854775808 ≤ el) (e1 : el ≤ 9223372036854775807) (hm : l.len ≤ 9223372036854775807) (hl : 300 < l.len) :
    Calls Tryd.prog 8 #[.int .u64 q1, .int .u64 q2, .int .i64 cl, .int .i64 el, .bool false, .bool np, .slice p l.len cap] W fun r w' => r = .returned (.bool true) ∧ Ext W w' := by
  have k0 : decide (300 < l.len) = true := decide_eq_true hl
  clear ht
  go_enter Tryd.func8, Tryd.ntmps8
  go_wp2
  go_ret
  exact ⟨rfl, Ext.refl _⟩

set_option maxRecDepth 100000 in
set_option maxHeartbeats 4000000 in
theorem plays_class_no (q1 q2 cl el : Int) (np : Bool) (p : Option Addr) (cap : Nat) (l : Acts) (W : World) (ht : TzAt W) (p0 : 0 ≤ q1) (p1 : q1 ≤ 18446744073709551615) (r0 : 0 ≤ q2) (r1 : q2 ≤ 18446744073709551615) (e0 : -9223372036854775808 ≤ el) (e1 : el ≤ 9223372036854775807) (hl : l.len ≤ 300) (hA : ActsAt W p l) (hno : ¬ NewOk q1 q2 cl) :
    Calls Tryd.prog 8 #[.int .u64 q1, .int .u64 q2, .int .i64 cl, .int .i64 el, .bool false, .bool np, .slice p l.len cap] W fun r w' => r = .returned (.bool true) ∧ Ext W w' := by
  have k0 : decide (300 < l.len) = false := decide_eq_false (by omega)
  have HT := Lib.hid ht
  have HA := Lib.hid hA
  have HN1 := Lib.hid fun w => new_no q1 q2 cl np w p0 p1 r0 r1 hno
  have HN2 := Lib.hid fun w => rnew_no q1 q2 cl np w p0 p1 r0 r1 hno
  clear ht hA hno
  go_enter Tryd.func8, Tryd.ntmps8
  go_wp2_with (first
    | (go_at_call 11; refine (HN1.out _).mono ?_; rintro r w1 ⟨rfl, hx⟩; have HX1 := Lib.hid hx; clear hx)
    | (go_at_call 23; refine (HN2.out _).mono ?_; rintro r w2 ⟨rfl, hx⟩; have HX2 := Lib.hid (HX1.out.trans hx); clear hx)
    | (go_at_call 10; refine (awake_any _ (HT.out.later HX2.out)).mono ?_; rintro r w8 ⟨rfl, hx⟩; have HX := Lib.hid (HX2.out.trans hx); clear hx))
  go_ret
  exact ⟨rfl, HX.out⟩

set_option maxRecDepth 100000 in
set_option maxHeartbeats 4000000 in
theorem plays_class (q1 q2 cl el : Int) (np : Bool) (p : Option Addr) (cap : Nat) (l : Acts) (W : World) (ht : TzAt W) (p0 : 0 ≤ q1) (p1 : q1 ≤ 18446744073709551615) (r0 : 0 ≤ q2) (r1 : q2 ≤ 18446744073709551615) (e0 : -9223372036854775808 ≤ el) (e1 : el ≤ 9223372036854775807) (hl : l.len ≤ 300) (hA : ActsAt W p l) (hok : NewOk q1 q2 cl) :
    Calls Tryd.prog 8 #[.int .u64 q1, .int .u64 q2, .int .i64 cl, .int .i64 el, .bool false, .bool np, .slice p l.len cap] W fun r w' => r = .returned (.bool true) ∧ Ext W w' := by
  have k0 : decide (300 < l.len) = false := decide_eq_false (by omega)
  have HT := Lib.hid ht
  have HA := Lib.hid hA
  obtain ⟨s0, hO⟩ := opened_new q1 q2 cl np p0 r0 hok
  have HO := Lib.hid hO
  clear ht hA hok hO
  go_enter Tryd.func8, Tryd.ntmps8
  go_wp2_with (first
    | (go_at_call 11; refine (HO.out.p _).mono ?_; rintro r w1 ⟨g, rfl, hg, hS, hx⟩; have HX1 := Lib.hid (hx); have HG := Lib.hid (Nat.le_trans (Nat.le_refl _) hg); have HS := Lib.hid hS; clear hx hg hS)
    | (go_at_call 23; refine (HO.out.r _).mono ?_; rintro r w2 ⟨b, F, rfl, hR, hF, hx⟩; have H0 := Lib.hid (acted_new HX1.out HG.out HS.out hR hF hx HO.out.inv); clear hx hR hF))
  clear HO HX1 HG HS
  go_loopw [19] (fun i wr => ∃ k : Nat, k ≤ l.len ∧ i = .int .i64 k ∧ Hid (Acted W wr g b q1.toNat)) (fun i _ => l.len - (intOf i).toNat)
  case atStart => exact ⟨0, by omega, rfl, H0⟩
  case round =>
    obtain ⟨k, hk, rfl, hR⟩ := hrel
    clear H0
    obtain ⟨s, U, M, hp, hi⟩ := hR.out
    have HP := Lib.hid hp
    have HI := Lib.hid hi
    clear hp hi hR
    by_cases hlt : k < l.len
    · obtain ⟨b0, off, rfl, hb0, c0, c1, c2, fz⟩ := HA.out k hlt
      have c0 := (HP.out.ext.cell _ _ hb0).trans c0
      have c1 := (HP.out.ext.cell _ _ hb0).trans c1
      have c2 := (HP.out.ext.cell _ _ hb0).trans c2
      have hz := Lib.hid (u64_of fz)
      clear fz
      generalize l.x k = x at *
      generalize l.y k = y at *
      generalize l.z k = z at *
      go_wp2_with (first
        | (go_at_call 25; refine (act_any x y z HT.out hz.out.1 hz.out.2 HI.out HP.out).mono ?_; rintro r w5 ⟨rfl, s5, U5, M5, hp, hi⟩; have HP5 := Lib.hid hp; have HI5 := Lib.hid hi; clear hp hi)
        | (go_at_call 26; refine (same_any HI5.out HP5.out).mono ?_; rintro r w6 ⟨rfl, hp⟩; have HP6 := Lib.hid hp; clear hp))
      go_roundw
      case rel => exact ⟨k + 1, by omega, by go_num, Lib.hid ⟨_, _, _, HP6.out, HI5.out⟩⟩
      case measure => simp [intOf]; omega
    · go_wp2_with (go_at_call 10; refine (awake_any _ (HT.out.later HP.out.ext)).mono ?_; rintro r w8 ⟨rfl, hx⟩; have HX := Lib.hid (HP.out.ext.trans hx); clear hx)
      go_ret
      exact ⟨rfl, HX.out⟩

set_option maxRecDepth 100000 in
set_option maxHeartbeats 4000000 in
theorem plays_many (q1 q2 cl el : Int) (np : Bool) (p : Option Addr) (cap : Nat) (l : Acts) (W : World) (ht : TzAt W) (p0 : 0 ≤ q1) (p1 : q1 ≤ 18446744073709551615) (r0 : 0 ≤ q2) (r1 : q2 ≤ 18446744073709551615) (e0 : -9223372036854775808 ≤ el) (e1 : el ≤ 9223372036854775807) (hl : l.len ≤ 300) (hA : ActsAt W p l) (h1 : 0 < el) (h2 : q2 < 1073741824) (h3 : 65536 < q2 * 8192 / el) :
    Calls Tryd.prog 8 #[.int .u64 q1, .int .u64 q2, .int .i64 cl, .int .i64 el, .bool true, .bool np, .slice p l.len cap] W fun r w' => r = .returned (.bool true) ∧ Ext W w' := by
  have k0 : decide (300 < l.len) = false := decide_eq_false (by omega)
  have k1 : decide (0 < el) = true := decide_eq_true h1
  have k2 : decide (q2 < 1073741824) = true := decide_eq_true h2
  have k3 : decide (65536 < q2 * 8192 / el) = true := decide_eq_true h3
  have k4 : (el == 0) = false := beq_eq_false_iff_ne.2 (by omega)
  clear ht hA h3
  go_enter Tryd.func8, Tryd.ntmps8
  go_wp2
  go_ret
  exact ⟨rfl, Ext.refl _⟩

set_option maxRecDepth 100000 in
set_option maxHeartbeats 4000000 in
theorem plays_man_no1 (q1 q2 cl el : Int) (np : Bool) (p : Option Addr) (cap : Nat) (l : Acts) (W : World) (ht : TzAt W) (p0 : 0 ≤ q1) (p1 : q1 ≤ 18446744073709551615) (r0 : 0 ≤ q2) (r1 : q2 ≤ 18446744073709551615) (e0 : -9223372036854775808 ≤ el) (e1 : el ≤ 9223372036854775807) (hl : l.len ≤ 300) (hA : ActsAt W p l) (h1 : ¬ 0 < el) (hno : ¬ ManOk q1 q2 el) :
    Calls Tryd.prog 8 #[.int .u64 q1, .int .u64 q2, .int .i64 cl, .int .i64 el, .bool true, .bool np, .slice p l.len cap] W fun r w' => r = .returned (.bool true) ∧ Ext W w' := by
  have k0 : decide (300 < l.len) = false := decide_eq_false (by omega)
  have HT := Lib.hid ht
  have HA := Lib.hid hA
  have k1 : decide (0 < el) = false := decide_eq_false h1
  have HN1 := Lib.hid fun w => new_ext q1 q2 cl np w p0 p1 r0 r1
  have HN2 := Lib.hid fun w => rnew_ext q1 q2 cl np w p0 p1 r0 r1
  have HM1 := Lib.hid fun w => manual_no q1 q2 el w p0 p1 r0 r1 e0 e1 hno
  have HM2 := Lib.hid fun w => rmanual_no q1 q2 el w p0 p1 r0 r1 e0 e1 hno
  clear ht hA hno h1
  go_enter Tryd.func8, Tryd.ntmps8
  go_wp2_with (first
    | (go_at_call 11; refine (HN1.out _).mono ?_; rintro r w1 ⟨⟨nv, ne, rfl⟩, hx⟩; have HX1 := Lib.hid hx; clear hx)
    | (go_at_call 23; refine (HN2.out _).mono ?_; rintro r w2 ⟨⟨mv, me, rfl⟩, hx⟩; have HX2 := Lib.hid (HX1.out.trans hx); clear hx)
    | (go_at_call 20; refine (HM1.out _).mono ?_; rintro r w3 ⟨rfl, rfl⟩)
    | (go_at_call 24; refine (HM2.out _).mono ?_; rintro r w4 ⟨rfl, rfl⟩)
    | (go_at_call 10; refine (awake_any _ (HT.out.later HX2.out)).mono ?_; rintro r w8 ⟨rfl, hx⟩; have HX := Lib.hid (HX2.out.trans hx); clear hx))
  go_ret
  exact ⟨rfl, HX.out⟩

set_option maxRecDepth 100000 in
set_option maxHeartbeats 4000000 in
theorem plays_man_no2 (q1 q2 cl el : Int) (np : Bool) (p : Option Addr) (cap : Nat) (l : Acts) (W : World) (ht : TzAt W) (p0 : 0 ≤ q1) (p1 : q1 ≤ 18446744073709551615) (r0 : 0 ≤ q2) (r1 : q2 ≤ 18446744073709551615) (e0 : -9223372036854775808 ≤ el) (e1 : el ≤ 9223372036854775807) (hl : l.len ≤ 300) (hA : ActsAt W p l) (h1 : 0 < el) (h2 : ¬ q2 < 1073741824) (hno : ¬ ManOk q1 q2 el) :
    Calls Tryd.prog 8 #[.int .u64 q1, .int .u64 q2, .int .i64 cl, .int .i64 el, .bool true, .bool np, .slice p l.len cap] W fun r w' => r = .returned (.bool true) ∧ Ext W w' := by
  have k0 : decide (300 < l.len) = false := decide_eq_false (by omega)
  have HT := Lib.hid ht
  have HA := Lib.hid hA
  have k1 : decide (0 < el) = true := decide_eq_true h1
  have k2 : decide (q2 < 1073741824) = false := decide_eq_false h2
  have HN1 := Lib.hid fun w => new_ext q1 q2 cl np w p0 p1 r0 r1
  have HN2 := Lib.hid fun w => rnew_ext q1 q2 cl np w p0 p1 r0 r1
  have HM1 := Lib.hid fun w => manual_no q1 q2 el w p0 p1 r0 r1 e0 e1 hno
  have HM2 := Lib.hid fun w => rmanual_no q1 q2 el w p0 p1 r0 r1 e0 e1 hno
  clear ht hA hno h2
  go_enter Tryd.func8, Tryd.ntmps8
  go_wp2_with (first
    | (go_at_call 11; refine (HN1.out _).mono ?_; rintro r w1 ⟨⟨nv, ne, rfl⟩, hx⟩; have HX1 := Lib.hid hx; clear hx)
    | (go_at_call 23; refine (HN2.out _).mono ?_; rintro r w2 ⟨⟨mv, me, rfl⟩, hx⟩; have HX2 := Lib.hid (HX1.out.trans hx); clear hx)
    | (go_at_call 20; refine (HM1.out _).mono ?_; rintro r w3 ⟨rfl, rfl⟩)
    | (go_at_call 24; refine (HM2.out _).mono ?_; rintro r w4 ⟨rfl, rfl⟩)
    | (go_at_call 10; refine (awake_any _ (HT.out.later HX2.out)).mono ?_; rintro r w8 ⟨rfl, hx⟩; have HX := Lib.hid (HX2.out.trans hx); clear hx))
  go_ret
  exact ⟨rfl, HX.out⟩

set_option maxRecDepth 100000 in
set_option maxHeartbeats 4000000 in
theorem plays_man_no3 (q1 q2 cl el : Int) (np : Bool) (p : Option Addr) (cap : Nat) (l : Acts) (W : World) (ht : TzAt W) (p0 : 0 ≤ q1) (p1 : q1 ≤ 18446744073709551615) (r0 : 0 ≤ q2) (r1 : q2 ≤ 18446744073709551615) (e0 : -9223372036854775808 ≤ el) (e1 : el ≤ 9223372036854775807) (hl : l.len ≤ 300) (hA : ActsAt W p l) (h1 : 0 < el) (h2 : q2 < 1073741824) (h3 : ¬ 65536 < q2 * 8192 / el) (hno : ¬ ManOk q1 q2 el) :
    Calls Tryd.prog 8 #[.int .u64 q1, .int .u64 q2, .int .i64 cl, .int .i64 el, .bool true, .bool np, .slice p l.len cap] W fun r w' => r = .returned (.bool true) ∧ Ext W w' := by
  have k0 : decide (300 < l.len) = false := decide_eq_false (by omega)
  have HT := Lib.hid ht
  have HA := Lib.hid hA
  have k1 : decide (0 < el) = true := decide_eq_true h1
  have k2 : decide (q2 < 1073741824) = true := decide_eq_true h2
  have k3 : decide (65536 < q2 * 8192 / el) = false := decide_eq_false h3
  have k4 : (el == 0) = false := beq_eq_false_iff_ne.2 (by omega)
  have HN1 := Lib.hid fun w => new_ext q1 q2 cl np w p0 p1 r0 r1
  have HN2 := Lib.hid fun w => rnew_ext q1 q2 cl np w p0 p1 r0 r1
  have HM1 := Lib.hid fun w => manual_no q1 q2 el w p0 p1 r0 r1 e0 e1 hno
  have HM2 := Lib.hid fun w => rmanual_no q1 q2 el w p0 p1 r0 r1 e0 e1 hno
  clear ht hA hno h3
  go_enter Tryd.func8, Tryd.ntmps8
  go_wp2_with (first
    | (go_at_call 11; refine (HN1.out _).mono ?_; rintro r w1 ⟨⟨nv, ne, rfl⟩, hx⟩; have HX1 := Lib.hid hx; clear hx)
    | (go_at_call 23; refine (HN2.out _).mono ?_; rintro r w2 ⟨⟨mv, me, rfl⟩, hx⟩; have HX2 := Lib.hid (HX1.out.trans hx); clear hx)
    | (go_at_call 20; refine (HM1.out _).mono ?_; rintro r w3 ⟨rfl, rfl⟩)
    | (go_at_call 24; refine (HM2.out _).mono ?_; rintro r w4 ⟨rfl, rfl⟩)
    | (go_at_call 10; refine (awake_any _ (HT.out.later HX2.out)).mono ?_; rintro r w8 ⟨rfl, hx⟩; have HX := Lib.hid (HX2.out.trans hx); clear hx))
  go_ret
  exact ⟨rfl, HX.out⟩

set_option maxRecDepth 100000 in
set_option maxHeartbeats 4000000 in
theorem plays_man (q1 q2 cl el : Int) (np : Bool) (p : Option Addr) (cap : Nat) (l : Acts) (W : World) (ht : TzAt W) (p0 : 0 ≤ q1) (p1 : q1 ≤ 18446744073709551615) (r0 : 0 ≤ q2) (r1 : q2 ≤ 18446744073709551615) (e0 : -9223372036854775808 ≤ el) (e1 : el ≤ 9223372036854775807) (hl : l.len ≤ 300) (hA : ActsAt W p l) (h1 : 0 < el) (h2 : q2 < 1073741824) (h3 : ¬ 65536 < q2 * 8192 / el) (hok : ManOk q1 q2 el) :
    Calls Tryd.prog 8 #[.int .u64 q1, .int .u64 q2, .int .i64 cl, .int .i64 el, .bool true, .bool np, .slice p l.len cap] W fun r w' => r = .returned (.bool true) ∧ Ext W w' := by
  have k0 : decide (300 < l.len) = false := decide_eq_false (by omega)
  have HT := Lib.hid ht
  have HA := Lib.hid hA
  have k1 : decide (0 < el) = true := decide_eq_true h1
  have k2 : decide (q2 < 1073741824) = true := decide_eq_true h2
  have k3 : decide (65536 < q2 * 8192 / el) = false := decide_eq_false h3
  have k4 : (el == 0) = false := beq_eq_false_iff_ne.2 (by omega)
  have HN1 := Lib.hid fun w => new_ext q1 q2 cl np w p0 p1 r0 r1
  have HN2 := Lib.hid fun w => rnew_ext q1 q2 cl np w p0 p1 r0 r1
  obtain ⟨s0, hO⟩ := opened_man q1 q2 el p0 r0 hok (by omega)
  have HO := Lib.hid hO
  clear ht hA hok hO h3
  go_enter Tryd.func8, Tryd.ntmps8
  go_wp2_with (first
    | (go_at_call 11; refine (HN1.out _).mono ?_; rintro r w1 ⟨⟨nv, ne, rfl⟩, hx⟩; have HX1 := Lib.hid hx; clear hx)
    | (go_at_call 23; refine (HN2.out _).mono ?_; rintro r w2 ⟨⟨mv, me, rfl⟩, hx⟩; have HX2 := Lib.hid (HX1.out.trans hx); clear hx)
    | (go_at_call 20; refine (HO.out.p _).mono ?_; rintro r w3 ⟨g, rfl, hg, hS, hx⟩; have HX3 := Lib.hid (HX2.out.trans hx); have HG := Lib.hid (Nat.le_trans (HX2.out.size) hg); have HS := Lib.hid hS; clear hx hg hS)
    | (go_at_call 24; refine (HO.out.r _).mono ?_; rintro r w4 ⟨b, F, rfl, hR, hF, hx⟩; have H0 := Lib.hid (acted_new HX3.out HG.out HS.out hR hF hx HO.out.inv); clear hx hR hF))
  clear HO HX1 HX2 HX3 HG HS
  go_loopw [19] (fun i wr => ∃ k : Nat, k ≤ l.len ∧ i = .int .i64 k ∧ Hid (Acted W wr g b q1.toNat)) (fun i _ => l.len - (intOf i).toNat)
  case atStart => exact ⟨0, by omega, rfl, H0⟩
  case round =>
    obtain ⟨k, hk, rfl, hR⟩ := hrel
    clear H0
    obtain ⟨s, U, M, hp, hi⟩ := hR.out
    have HP := Lib.hid hp
    have HI := Lib.hid hi
    clear hp hi hR
    by_cases hlt : k < l.len
    · obtain ⟨b0, off, rfl, hb0, c0, c1, c2, fz⟩ := HA.out k hlt
      have c0 := (HP.out.ext.cell _ _ hb0).trans c0
      have c1 := (HP.out.ext.cell _ _ hb0).trans c1
      have c2 := (HP.out.ext.cell _ _ hb0).trans c2
      have hz := Lib.hid (u64_of fz)
      clear fz
      generalize l.x k = x at *
      generalize l.y k = y at *
      generalize l.z k = z at *
      go_wp2_with (first
        | (go_at_call 25; refine (act_any x y z HT.out hz.out.1 hz.out.2 HI.out HP.out).mono ?_; rintro r w5 ⟨rfl, s5, U5, M5, hp, hi⟩; have HP5 := Lib.hid hp; have HI5 := Lib.hid hi; clear hp hi)
        | (go_at_call 26; refine (same_any HI5.out HP5.out).mono ?_; rintro r w6 ⟨rfl, hp⟩; have HP6 := Lib.hid hp; clear hp))
      go_roundw
      case rel => exact ⟨k + 1, by omega, by go_num, Lib.hid ⟨_, _, _, HP6.out, HI5.out⟩⟩
      case measure => simp [intOf]; omega
    · go_wp2_with (go_at_call 10; refine (awake_any _ (HT.out.later HP.out.ext)).mono ?_; rintro r w8 ⟨rfl, hx⟩; have HX := Lib.hid (HP.out.ext.trans hx); clear hx)
      go_ret
      exact ⟨rfl, HX.out⟩

theorem walk_SpanPlays (q1 : Int) (w0 : (Lit.int .u64 q1).wf = true) (q2 : Int) (w1 : (Lit.int .u64 q2).wf = true) (cl : Int) (w2 : (Lit.int .i64 cl).wf = true) (el : Int) (w3 : (Lit.int .i64 el).wf = true) (mn np : Bool) (v : Value) (l : Acts) {W : World} (hz : ActsIn W v l) (ht : TzAt W) :
    Calls Tryd.prog 8 #[.int .u64 q1, .int .u64 q2, .int .i64 cl, .int .i64 el, .bool mn, .bool np, v] W fun r w' => r = .returned (.bool true) ∧ Ext W w' := by
  obtain ⟨hm, p, cap, rfl, hA⟩ := hz
  unfold maxLen at hm
  obtain ⟨p0, p1⟩ := u64_of w0
  obtain ⟨r0, r1⟩ := u64_of w1
  obtain ⟨e0, e1⟩ := i64_of w3
  by_cases hl : 300 < l.len
  · cases mn
    · exact plays_long_false q1 q2 cl el np p cap l W ht p0 p1 r0 r1 e0 e1 (by omega) hl
    · exact plays_long_true q1 q2 cl el np p cap l W ht p0 p1 r0 r1 e0 e1 (by omega) hl
  have hl' : l.len ≤ 300 := by omega
  cases mn
  · by_cases hok : NewOk q1 q2 cl
    · exact plays_class q1 q2 cl el np p cap l W ht p0 p1 r0 r1 e0 e1 hl' hA hok
    · exact plays_class_no q1 q2 cl el np p cap l W ht p0 p1 r0 r1 e0 e1 hl' hA hok
  · by_cases h1 : 0 < el
    · by_cases h2 : q2 < 1073741824
      · by_cases h3 : 65536 < q2 * 8192 / el
        · exact plays_many q1 q2 cl el np p cap l W ht p0 p1 r0 r1 e0 e1 hl' hA h1 h2 h3
        · by_cases hok : ManOk q1 q2 el
          · exact plays_man q1 q2 cl el np p cap l W ht p0 p1 r0 r1 e0 e1 hl' hA h1 h2 h3 hok
          · exact plays_man_no3 q1 q2 cl el np p cap l W ht p0 p1 r0 r1 e0 e1 hl' hA h1 h2 h3 hok
      · exact plays_man_no2 q1 q2 cl el np p cap l W ht p0 p1 r0 r1 e0 e1 hl' hA h1 h2 (fun h => by obtain ⟨⟨_, h, _⟩, _⟩ := h; omega)
    · exact plays_man_no1 q1 q2 cl el np p cap l W ht p0 p1 r0 r1 e0 e1 hl' hA h1 (fun h => by obtain ⟨_, h, _⟩ := h; omega)

end Go.Proofs.YticaamdghjfifaaDoor
