/- What an act does to a chunk and to the reference's. -/
import Derived.Test.YtahabnepjjcgoaaRefC
import Derived.Test.YtahabnepjjcgoaaRel1
import Derived.Test.YtahabnepjjcgoaaLater
import Derived.Deep.RegionWith
import Derived.Deep.RegionHeld3
namespace Go.Proofs.Ytahabnepjjcgoaa
open Go.RowKit
set_option linter.unusedVariables false

/-- the memory while an act is done. -/
structure Mem (W w : World) (b rb a : Nat) (u g u' g' : Nat → Bool) (x y z : Int) : Prop where
  ch : ChunkAt w b u g
  rc : RChunkAt w rb u' g'
  bk : Blk w a 35 #[.int .i64 x, .int .i64 y, .int .i64 z]
  ne : b ≠ rb
  nb : a ≠ b
  nr : a ≠ rb
  chg : Chg (fun i => i = b ∨ i = rb) W w

section
variable {W w : World} {b rb a : Nat} {u g u' g' : Nat → Bool} {x y z : Int}
theorem Mem.cells (h : Mem W w b rb a u g u' g' x y z) : w.cell? ⟨a, 0, none⟩ = some (.int .i64 x) ∧ w.cell? ⟨a, 1, none⟩ = some (.int .i64 y) ∧ w.cell? ⟨a, 2, none⟩ = some (.int .i64 z) := ⟨h.bk.cell 0, h.bk.cell 1, h.bk.cell 2⟩
theorem Mem.later {w' : World} (h : Mem W w b rb a u g u' g' x y z) (hx : Ext w w') : Mem W w' b rb a u g u' g' x y z :=
  ⟨h.ch.later hx, h.rc.later hx, h.bk.later hx, h.ne, h.nb, h.nr, h.chg.trans (Chg.of_ext hx (fun _ => False)) (fun _ h => h.elim)⟩
theorem Mem.prog {w' : World} {u2 g2 : Nat → Bool} (h : Mem W w b rb a u g u' g' x y z) (hc : ChunkAt w' b u2 g2) (hx : Chg (· = b) w w') : Mem W w' b rb a u2 g2 u' g' x y z :=
  ⟨hc, h.rc.chg hx (fun e => h.ne e.symm), h.bk.chg hx h.nb, h.ne, h.nb, h.nr, h.chg.trans hx (fun i hi => .inl (.inl hi))⟩
theorem Mem.ref {w' : World} {u2 g2 : Nat → Bool} (h : Mem W w b rb a u g u' g' x y z) (hc : RChunkAt w' rb u2 g2) (hx : Chg (· = rb) w w') : Mem W w' b rb a u g u2 g2 x y z :=
  ⟨h.ch.chg hx h.ne, hc, h.bk.chg hx h.nr, h.ne, h.nb, h.nr, h.chg.trans hx (fun i hi => .inl (.inr hi))⟩

theorem mGive (h : Mem W w b rb a u g u' g' x y z) : Calls Try.prog 13 #[.pointer (some ⟨b, 0, none⟩), .int .i64 y, .int .i64 z] w fun r w' =>
    r = .returned (.int .i64 (lookE u y z z 31)) ∧ Mem W w' b rb a (if lookE u y z z 31 = 0 then clrF u y z else u) g u' g' x y z :=
  (give_any b u g y z w h.ch).mono fun _ _ ⟨h1, h2, h3⟩ => ⟨h1, h.prog h2 h3⟩
theorem mBack (h : Mem W w b rb a u g u' g' x y z) : Calls Try.prog 14 #[.pointer (some ⟨b, 0, none⟩), .int .i64 y, .int .i64 z] w fun r w' =>
    r = .returned (.int .i64 (lookE u y z z 31)) ∧ Mem W w' b rb a (if lookE u y z z 31 = 0 then clrF u y z else u) (if lookE u y z z 31 = 0 then setF g y z else g) u' g' x y z :=
  (back_any b u g y z w h.ch).mono fun _ _ ⟨h1, h2, h3⟩ => ⟨h1, h.prog h2 h3⟩
theorem nGive (h : Mem W w b rb a u g u' g' x y z) (hP : Apart u' g') : Calls Try.prog 37 #[.pointer (some ⟨rb, 0, none⟩), .int .i64 y, .int .i64 z, .bool false] w fun r w' =>
    r = .returned (.int .i64 (lookE u' y z z 31)) ∧ Mem W w' b rb a u g (if lookE u' y z z 31 = 0 then clrF u' y z else u') g' x y z := by
  refine (rgive_any rb u' g' y z false w h.rc).mono fun _ _ ⟨h1, h2, h3⟩ => ⟨h1, ?_⟩
  rw [putF_false] at h2
  refine h.ref ⟨h2.used, h2.gone.congr fun j hj => ?_⟩ h3
  split
  · rename_i he
    unfold clrF
    split
    · rename_i hr
      have hp := right_parts hr
      have hfull : ∀ k, y.toNat ≤ k → k < y.toNat + z.toNat → u' k = true := by
        refine cnt_full u' _ _ ?_
        have : cntF u' y z = z := by
          unfold lookE at he
          split at he
          · split at he
            · assumption
            · cases he
          · cases he
        unfold cntF at this
        rw [if_pos hr] at this
        omega
      unfold clrB
      cases hi : inB y.toNat z.toNat j
      · simp
      · unfold inB at hi
        simp at hi
        rw [hP j hj (hfull j (by omega) (by omega))]
        rfl
    · rfl
  · rfl
theorem nBack (h : Mem W w b rb a u g u' g' x y z) : Calls Try.prog 37 #[.pointer (some ⟨rb, 0, none⟩), .int .i64 y, .int .i64 z, .bool true] w fun r w' =>
    r = .returned (.int .i64 (lookE u' y z z 31)) ∧ Mem W w' b rb a u g (if lookE u' y z z 31 = 0 then clrF u' y z else u') (if lookE u' y z z 31 = 0 then setF g' y z else g') x y z := by
  refine (rgive_any rb u' g' y z true w h.rc).mono fun _ _ ⟨h1, h2, h3⟩ => ⟨h1, ?_⟩
  rw [putF_true] at h2
  exact h.ref h2 h3
end

theorem Apart.scav {u g : Nat → Bool} (h : Apart u g) (m : Int) : Apart u (setF g (scavI u g m) (scavN u g m)) := by
  unfold setF
  split
  · intro j hj hu
    have h5 := h j hj hu
    unfold setB
    rw [h5, Bool.false_or]
    cases hi : inB (scavI u g m).toNat (scavN u g m).toNat j
    · rfl
    · exfalso
      unfold inB scavI scavN at hi
      simp only [decide_eq_true_eq, Int.toNat_natCast] at hi
      unfold lastI at hi
      by_cases h0 : lastN (orB u g) m 512 = 0
      · rw [h0, if_pos rfl] at hi; omega
      · rw [if_neg h0] at hi
        have hN : lastN (orB u g) m 512 = runz (orB u g) (topz (orB u g) (lastT 512)) m.toNat := by
          unfold lastN at h0 ⊢
          split
          · rename_i h1
            rw [if_pos h1] at h0
            exact absurd rfl h0
          · rfl
        have hle := runz_le (orB u g) (topz (orB u g) (lastT 512)) m.toNat
        have hc := runz_clear (orB u g) (topz (orB u g) (lastT 512)) m.toNat j (by omega) (by omega)
        unfold orB at hc
        rw [hu] at hc
        cases hc
  · exact h

/-- what an act leaves. -/
def Acted (W : World) (b rb : Nat) (w' : World) : Prop := ∃ u2 g2, ChunkAt w' b u2 g2 ∧ RChunkAt w' rb u2 g2 ∧ Apart u2 g2 ∧ Chg (fun i => i = b ∨ i = rb) W w'

theorem mem_box {W : World} {b rb : Nat} {u g : Nat → Bool} (hc : ChunkAt W b u g) (hr : RChunkAt W rb u g) (hne : b ≠ rb) (x y z : Int) :
    Mem W (W.alloc (.cells #[.int .i64 x, .int .i64 y, .int .i64 z] 35)) b rb W.heap.size u g u g x y z :=
  ⟨hc.later ((Ext.refl W).alloc _ _), hr.later ((Ext.refl W).alloc _ _), Blk.new _ _ _, hne, fun e => by have := hc.used.lt; omega, fun e => by have := hr.used.lt; omega, (Chg.refl _ W).alloc _ _⟩

/-! ### the walks -/
set_option maxRecDepth 100000 in
set_option maxHeartbeats 1000000 in
theorem act_1 (b rb : Nat) (u g : Nat → Bool) (y z : Int) (W : World) (hc : ChunkAt W b u g) (hr : RChunkAt W rb u g) (hne : b ≠ rb) (hP : Apart u g) :
    Calls Try.prog 22 #[.pointer (some ⟨b, 0, none⟩), .pointer (some ⟨rb, 0, none⟩), .agg #[.int .i64 1, .int .i64 y, .int .i64 z]] W fun r w' => r = .returned (.bool true) ∧ Acted W b rb w' := by
  have HM := Lib.hid (mem_box hc hr hne 1 y z)
  have hP := Lib.hid hP
  clear hc hr hne
  have HA := Lib.hid (apart_take hP.out y z)
  have HT := Lib.hid (fun w (h : Mem W w b rb W.heap.size u g u g 1 y z) => (take_any b u g y z w h.ch).mono (R' := fun r w' => r = .returned (.tuple #[.int .i64 (if lookE u y z 0 32 = 0 then cntF g y z else 0), .int .i64 (lookE u y z 0 32)]) ∧ Mem W w' b rb W.heap.size (if lookE u y z 0 32 = 0 then setF u y z else u) (if lookE u y z 0 32 = 0 then clrF g y z else g) u g 1 y z) fun _ _ ⟨h1, h2, h3⟩ => ⟨h1, h.prog h2 h3⟩)
  have HS := Lib.hid (fun w (h : Mem W w b rb W.heap.size (if lookE u y z 0 32 = 0 then setF u y z else u) (if lookE u y z 0 32 = 0 then clrF g y z else g) u g 1 y z) => (rtake_any rb u g y z w h.rc).mono (R' := fun r w' => r = .returned (.tuple #[.int .i64 (if lookE u y z 0 32 = 0 then cntF g y z else 0), .int .i64 (lookE u y z 0 32)]) ∧ Mem W w' b rb W.heap.size (if lookE u y z 0 32 = 0 then setF u y z else u) (if lookE u y z 0 32 = 0 then clrF g y z else g) (if lookE u y z 0 32 = 0 then setF u y z else u) (if lookE u y z 0 32 = 0 then clrF g y z else g) 1 y z) fun _ _ ⟨h1, h2, h3⟩ => ⟨h1, h.ref h2 h3⟩)
  generalize (if lookE u y z 0 32 = 0 then setF u y z else u) = u2 at *
  generalize (if lookE u y z 0 32 = 0 then clrF g y z else g) = g2 at *
  generalize (if lookE u y z 0 32 = 0 then cntF g y z else 0) = v1 at *
  generalize lookE u y z 0 32 = v2 at *
  clear hP
  obtain ⟨c0, c1, c2⟩ := HM.out.cells
  go_enter Try.func22, Try.ntmps22
  go_wp2_with fail
  refine (HT.out _ HM.out).mono ?_
  rintro r w2 ⟨rfl, hm⟩
  have HM2 := Lib.hid hm
  obtain ⟨d0, d1, d2⟩ := hm.cells
  clear hm HM HT c0 c1 c2
  go_wp2_with fail
  refine (HS.out _ HM2.out).mono ?_
  rintro r w3 ⟨rfl, hm⟩
  have HF := Lib.hid hm
  clear hm HM2 HS d0 d1 d2
  go_wp2
  go_ret
  exact ⟨rfl, _, _, HF.out.ch, HF.out.rc, HA.out, HF.out.chg⟩

set_option maxRecDepth 100000 in
set_option maxHeartbeats 1000000 in
theorem act_2 (b rb : Nat) (u g : Nat → Bool) (y z : Int) (W : World) (hc : ChunkAt W b u g) (hr : RChunkAt W rb u g) (hne : b ≠ rb) (hP : Apart u g) :
    Calls Try.prog 22 #[.pointer (some ⟨b, 0, none⟩), .pointer (some ⟨rb, 0, none⟩), .agg #[.int .i64 2, .int .i64 y, .int .i64 z]] W fun r w' => r = .returned (.bool true) ∧ Acted W b rb w' := by
  have HM := Lib.hid (mem_box hc hr hne 2 y z)
  have hP := Lib.hid hP
  clear hc hr hne
  have HA := Lib.hid (apart_give hP.out y z)
  have HP1 := Lib.hid (fun w (h : Mem W w b rb W.heap.size u g u g 2 y z) => mGive h)
  have HP2 := Lib.hid (fun w (h : Mem W w b rb W.heap.size u g (if lookE u y z z 31 = 0 then clrF u y z else u) g 2 y z) => mGive h)
  have HN1 := Lib.hid (fun w (h : Mem W w b rb W.heap.size u g u g 2 y z) => nGive h hP.out)
  have HN2 := Lib.hid (fun w (h : Mem W w b rb W.heap.size (if lookE u y z z 31 = 0 then clrF u y z else u) g u g 2 y z) => nGive h hP.out)
  generalize (if lookE u y z z 31 = 0 then clrF u y z else u) = u2 at *
  generalize lookE u y z z 31 = e at *
  clear hP
  obtain ⟨c0, c1, c2⟩ := HM.out.cells
  go_enter Try.func22, Try.ntmps22
  go_wp2_with fail
  have HRd := Lib.hid (HM.out.later (Ext.refl _).drew)
  clear HM
  go_region_held3 (fun w' => w'.cell? ⟨W.heap.size, 1, none⟩ = some (.int .i64 y) ∧ w'.cell? ⟨W.heap.size, 2, none⟩ = some (.int .i64 z)) (go_keep) (first
    | (go_at_call 13; refine (HP2.out _ HR1.out).mono ?_; rintro r w6 ⟨rfl, hm⟩; have HF := Lib.hid hm; obtain ⟨b3, b4, b5⟩ := hm.cells; clear hm)
    | (go_at_call 13; refine (HP1.out _ HRd.out).mono ?_; rintro r w5 ⟨rfl, hm⟩; have HQ1 := Lib.hid hm; obtain ⟨a3, a4, a5⟩ := hm.cells; clear hm)
    | (go_at_call 37; refine (HN2.out _ HQ1.out).mono ?_; rintro r w6 ⟨rfl, hm⟩; have HF := Lib.hid hm; obtain ⟨b3, b4, b5⟩ := hm.cells; clear hm)
    | (go_at_call 37; refine (HN1.out _ HRd.out).mono ?_; rintro r w5 ⟨rfl, hm⟩; have HR1 := Lib.hid hm; obtain ⟨a3, a4, a5⟩ := hm.cells; clear hm))
  all_goals
    go_wp2
    go_ret
    exact ⟨rfl, _, _, HF.out.ch, HF.out.rc, HA.out, HF.out.chg⟩

set_option maxRecDepth 100000 in
set_option maxHeartbeats 1000000 in
theorem act_3 (b rb : Nat) (u g : Nat → Bool) (y z : Int) (W : World) (hc : ChunkAt W b u g) (hr : RChunkAt W rb u g) (hne : b ≠ rb) (hP : Apart u g) :
    Calls Try.prog 22 #[.pointer (some ⟨b, 0, none⟩), .pointer (some ⟨rb, 0, none⟩), .agg #[.int .i64 3, .int .i64 y, .int .i64 z]] W fun r w' => r = .returned (.bool true) ∧ Acted W b rb w' := by
  have HM := Lib.hid (mem_box hc hr hne 3 y z)
  have hP := Lib.hid hP
  clear hc hr hne
  have HA := Lib.hid (apart_back hP.out y z)
  have HP1 := Lib.hid (fun w (h : Mem W w b rb W.heap.size u g u g 3 y z) => mBack h)
  have HP2 := Lib.hid (fun w (h : Mem W w b rb W.heap.size u g (if lookE u y z z 31 = 0 then clrF u y z else u) (if lookE u y z z 31 = 0 then setF g y z else g) 3 y z) => mBack h)
  have HN1 := Lib.hid (fun w (h : Mem W w b rb W.heap.size u g u g 3 y z) => nBack h)
  have HN2 := Lib.hid (fun w (h : Mem W w b rb W.heap.size (if lookE u y z z 31 = 0 then clrF u y z else u) (if lookE u y z z 31 = 0 then setF g y z else g) u g 3 y z) => nBack h)
  generalize (if lookE u y z z 31 = 0 then clrF u y z else u) = u2 at *
  generalize (if lookE u y z z 31 = 0 then setF g y z else g) = g2 at *
  generalize lookE u y z z 31 = e at *
  clear hP
  obtain ⟨c0, c1, c2⟩ := HM.out.cells
  go_enter Try.func22, Try.ntmps22
  go_wp2_with fail
  have HRd := Lib.hid (HM.out.later (Ext.refl _).drew)
  clear HM
  go_region_held3 (fun w' => w'.cell? ⟨W.heap.size, 1, none⟩ = some (.int .i64 y) ∧ w'.cell? ⟨W.heap.size, 2, none⟩ = some (.int .i64 z)) (go_keep) (first
    | (go_at_call 14; refine (HP2.out _ HR1.out).mono ?_; rintro r w6 ⟨rfl, hm⟩; have HF := Lib.hid hm; obtain ⟨b3, b4, b5⟩ := hm.cells; clear hm)
    | (go_at_call 14; refine (HP1.out _ HRd.out).mono ?_; rintro r w5 ⟨rfl, hm⟩; have HQ1 := Lib.hid hm; obtain ⟨a3, a4, a5⟩ := hm.cells; clear hm)
    | (go_at_call 37; refine (HN2.out _ HQ1.out).mono ?_; rintro r w6 ⟨rfl, hm⟩; have HF := Lib.hid hm; obtain ⟨b3, b4, b5⟩ := hm.cells; clear hm)
    | (go_at_call 37; refine (HN1.out _ HRd.out).mono ?_; rintro r w5 ⟨rfl, hm⟩; have HR1 := Lib.hid hm; obtain ⟨a3, a4, a5⟩ := hm.cells; clear hm))
  all_goals
    go_wp2
    go_ret
    exact ⟨rfl, _, _, HF.out.ch, HF.out.rc, HA.out, HF.out.chg⟩

set_option maxRecDepth 100000 in
set_option maxHeartbeats 1000000 in
theorem act_4 (b rb : Nat) (u g : Nat → Bool) (y z : Int) (hy : y ≤ 9223372036854775807) (W : World) (hc : ChunkAt W b u g) (hr : RChunkAt W rb u g) (hne : b ≠ rb) (hP : Apart u g) :
    Calls Try.prog 22 #[.pointer (some ⟨b, 0, none⟩), .pointer (some ⟨rb, 0, none⟩), .agg #[.int .i64 4, .int .i64 y, .int .i64 z]] W fun r w' => r = .returned (.bool true) ∧ Acted W b rb w' := by
  have HM := Lib.hid (mem_box hc hr hne 4 y z)
  have hP := Lib.hid hP
  clear hc hr hne
  have HC := Lib.hid (cfind_any b u g z y _ HM.out.ch hy)
  have HR := Lib.hid (fun w (h : Mem W w b rb W.heap.size u g u g 4 y z) => rfind_any rb 0 z y u w h.rc.used hy)
  generalize findI u z y = fi at *
  generalize findB u z y = fb at *
  clear hy
  obtain ⟨c0, c1, c2⟩ := HM.out.cells
  go_enter Try.func22, Try.ntmps22
  go_wp2_with fail
  refine HC.out.mono ?_
  rintro r w2 ⟨rfl, rfl⟩
  clear HC
  go_wp2_with fail
  have HRd := Lib.hid (HM.out.later (Ext.refl _).drew)
  go_region_held3 (fun w' => w'.cell? ⟨W.heap.size, 1, none⟩ = some (.int .i64 y) ∧ w'.cell? ⟨W.heap.size, 2, none⟩ = some (.int .i64 z)) (go_keep) (first | (go_at_call 38; refine (HR.out _ HRd.out).mono ?_; rintro r w6 ⟨rfl, rfl⟩))
  all_goals
    go_wp2
    go_ret
    exact ⟨rfl, _, _, HRd.out.ch, HRd.out.rc, hP.out, HRd.out.chg⟩

set_option maxRecDepth 100000 in
set_option maxHeartbeats 1000000 in
theorem act_5 (b rb : Nat) (u g : Nat → Bool) (y z : Int) (hz : z ≤ 9223372036854775807) (W : World) (hc : ChunkAt W b u g) (hr : RChunkAt W rb u g) (hne : b ≠ rb) (hP : Apart u g) :
    Calls Try.prog 22 #[.pointer (some ⟨b, 0, none⟩), .pointer (some ⟨rb, 0, none⟩), .agg #[.int .i64 5, .int .i64 y, .int .i64 z]] W fun r w' => r = .returned (.bool true) ∧ Acted W b rb w' := by
  have HM := Lib.hid (mem_box hc hr hne 5 y z)
  have hP := Lib.hid hP
  clear hc hr hne
  have HA := Lib.hid (hP.out.scav z)
  have HT := Lib.hid (fun w (h : Mem W w b rb W.heap.size u g u g 5 y z) => (scav_any b u g z w h.ch hz).mono (R' := fun r w' => r = .returned (.tuple #[.int .i64 (scavI u g z), .int .i64 (scavN u g z)]) ∧ Mem W w' b rb W.heap.size u (setF g (scavI u g z) (scavN u g z)) u g 5 y z) fun _ _ ⟨h1, h2, h3⟩ => ⟨h1, h.prog h2 h3⟩)
  have HS := Lib.hid (fun w (h : Mem W w b rb W.heap.size u (setF g (scavI u g z) (scavN u g z)) u g 5 y z) => (rscav_any rb u g z w h.rc hz).mono (R' := fun r w' => r = .returned (.tuple #[.int .i64 (scavI u g z), .int .i64 (scavN u g z)]) ∧ Mem W w' b rb W.heap.size u (setF g (scavI u g z) (scavN u g z)) u (setF g (scavI u g z) (scavN u g z)) 5 y z) fun _ _ ⟨h1, h2, h3⟩ => ⟨h1, h.ref h2 h3⟩)
  generalize setF g (scavI u g z) (scavN u g z) = g2 at *
  generalize scavI u g z = v1 at *
  generalize scavN u g z = v2 at *
  clear hP hz
  obtain ⟨c0, c1, c2⟩ := HM.out.cells
  go_enter Try.func22, Try.ntmps22
  go_wp2_with fail
  refine (HT.out _ HM.out).mono ?_
  rintro r w2 ⟨rfl, hm⟩
  have HM2 := Lib.hid hm
  obtain ⟨d0, d1, d2⟩ := hm.cells
  clear hm HM HT c0 c1 c2
  go_wp2_with fail
  refine (HS.out _ HM2.out).mono ?_
  rintro r w3 ⟨rfl, hm⟩
  have HF := Lib.hid hm
  clear hm HM2 HS d0 d1 d2
  go_wp2
  go_ret
  exact ⟨rfl, _, _, HF.out.ch, HF.out.rc, HA.out, HF.out.chg⟩

set_option maxRecDepth 100000 in
set_option maxHeartbeats 1000000 in
theorem act_6 (b rb : Nat) (u g : Nat → Bool) (x : Int) (y z : Int) (h1 : x ≠ 1) (h2 : x ≠ 2) (h3 : x ≠ 3) (h4 : x ≠ 4) (h5 : x ≠ 5) (W : World) (hc : ChunkAt W b u g) (hr : RChunkAt W rb u g) (hne : b ≠ rb) (hP : Apart u g) :
    Calls Try.prog 22 #[.pointer (some ⟨b, 0, none⟩), .pointer (some ⟨rb, 0, none⟩), .agg #[.int .i64 x, .int .i64 y, .int .i64 z]] W fun r w' => r = .returned (.bool true) ∧ Acted W b rb w' := by
  have HM := Lib.hid (mem_box hc hr hne x y z)
  have hP := Lib.hid hP
  clear hc hr hne
  have k1 : (x == 1) = false := by simpa using h1
  have k2 : (x == 2) = false := by simpa using h2
  have k3 : (x == 3) = false := by simpa using h3
  have k4 : (x == 4) = false := by simpa using h4
  have k5 : (x == 5) = false := by simpa using h5
  clear h1 h2 h3 h4 h5
  obtain ⟨c0, c1, c2⟩ := HM.out.cells
  go_enter Try.func22, Try.ntmps22
  go_wp2_with fail
  go_ret
  exact ⟨rfl, _, _, HM.out.ch, HM.out.rc, hP.out, HM.out.chg⟩

theorem act_any (b rb : Nat) (u g : Nat → Bool) (x y z : Int) (hy : y ≤ 9223372036854775807) (hz : z ≤ 9223372036854775807) (W : World) (hc : ChunkAt W b u g) (hr : RChunkAt W rb u g) (hne : b ≠ rb) (hP : Apart u g) :
    Calls Try.prog 22 #[.pointer (some ⟨b, 0, none⟩), .pointer (some ⟨rb, 0, none⟩), .agg #[.int .i64 x, .int .i64 y, .int .i64 z]] W fun r w' => r = .returned (.bool true) ∧ Acted W b rb w' := by
  have hx : x = 1 ∨ x = 2 ∨ x = 3 ∨ x = 4 ∨ x = 5 ∨ (x ≠ 1 ∧ x ≠ 2 ∧ x ≠ 3 ∧ x ≠ 4 ∧ x ≠ 5) := by omega
  rcases hx with rfl | rfl | rfl | rfl | rfl | ⟨h1, h2, h3, h4, h5⟩
  · exact act_1 b rb u g y z W hc hr hne hP
  · exact act_2 b rb u g y z W hc hr hne hP
  · exact act_3 b rb u g y z W hc hr hne hP
  · exact act_4 b rb u g y z hy W hc hr hne hP
  · exact act_5 b rb u g y z hz W hc hr hne hP
  · exact act_6 b rb u g x y z h1 h2 h3 h4 h5 W hc hr hne hP

end Go.Proofs.Ytahabnepjjcgoaa
