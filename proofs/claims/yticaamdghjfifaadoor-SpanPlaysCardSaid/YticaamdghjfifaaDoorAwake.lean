/- The contract of awake. -/
import Derived.Test.YticaamdghjfifaaDoorAwS
namespace Go.Proofs.YticaamdghjfifaaDoor
open Go.RowKit
set_option linter.unusedVariables false

theorem aw_made (w : World) : Calls Tryd.prog 11 #[.int .u64 512, .int .u64 1, .int .i64 5, .bool false] w fun r w' => ∃ g, r = .returned (.tuple #[.pointer (some ⟨g, 0, none⟩), .int .i64 0]) ∧ AwS w w' g (sNew 512 5 false) (fun _ => false) (fun _ => false) := by
  have e : pgN 5 = 1 := by decide +kernel
  have h := aw_new 512 5 false w (by omega) (by omega) (by rw [e]; omega)
  rw [e] at h
  exact h
theorem aw_next0 {W w : World} {g : Nat} (h : AwS W w g (sNew 512 5 false) (fun _ => false) (fun _ => false)) (ht : TzAt W) :
    Calls Tryd.prog 12 #[.pointer (some ⟨g, 0, none⟩)] w fun e w' => e = .returned (.tuple #[.int .i64 0, .int .i64 0]) ∧ AwS W w' g (sNext (sNew 512 5 false) 0) (setB (fun _ => false) 0 1) (fun _ => false) :=
  aw_next h ht 0 (by decide) aw_free0 (by decide +kernel) (by decide +kernel)
theorem aw_next1 {W w : World} {g : Nat} (h : AwS W w g (sNext (sNew 512 5 false) 0) (setB (fun _ => false) 0 1) (fun _ => false)) (ht : TzAt W) :
    Calls Tryd.prog 12 #[.pointer (some ⟨g, 0, none⟩)] w fun e w' => e = .returned (.tuple #[.int .i64 1, .int .i64 0]) ∧ AwS W w' g aS aU (fun _ => false) :=
  aw_next h ht 1 (by decide) aw_free1 (by decide +kernel) (by decide +kernel)
theorem aw_mark1 {W w : World} {g : Nat} (h : AwS W w g aS aU (fun _ => false)) :
    Calls Tryd.prog 14 #[.pointer (some ⟨g, 0, none⟩), .int .i64 1] w fun e w' => e = .returned (.int .i64 0) ∧ AwS W w' g aS aU aM :=
  aw_mark h 1 (by decide) (by decide +kernel)
theorem aw_swept {W w : World} {g : Nat} (h : AwS W w g aS aU aM) (ht : TzAt W) :
    Calls Tryd.prog 15 #[.pointer (some ⟨g, 0, none⟩)] w fun r w' => ∃ v, r = .returned (.tuple #[v, .int .i64 0]) ∧ w'.ownsRow W.heap.size 3 1 v 1 [.int .i64 0] ∧ AwS W w' g (sSweep aS 1) aM (fun _ => false) :=
  aw_sweep h ht (by decide) aw_zomb aw_low [0] aw_swl (by decide)
theorem aw_told {W w : World} {g : Nat} (h : AwS W w g (sSweep aS 1) aM (fun _ => false)) :
    Calls Tryd.prog 16 #[.pointer (some ⟨g, 0, none⟩)] w fun r w' => r = .returned (.agg #[.int .u64 4194304, .int .i64 1, .int .i64 1, .int .i64 5, .bool false, .int .i64 48, .int .i64 170, .int .i64 1, .bool false, .bool false]) ∧ Ext w w' := by
  have e : (infoL (sSweep aS 1)).toArray = #[.int .u64 4194304, .int .i64 1, .int .i64 1, .int .i64 5, .bool false, .int .i64 48, .int .i64 170, .int .i64 1, .bool false, .bool false] := by kernel_rfl
  have h := aw_info h
  rw [e] at h
  exact h

set_option maxRecDepth 20000 in
set_option maxHeartbeats 2000000 in
theorem awake_any (W : World) (ht : TzAt W) : Calls Tryd.prog 10 #[] W fun r w' => r = .returned (.bool true) ∧ Ext W w' := by
  have HT := Lib.hid ht
  clear ht
  go_enter Tryd.func10, Tryd.ntmps10
  go_wp2_with (first
    | (go_at_call 11; refine (aw_made _).mono ?_; rintro r w1 ⟨g, rfl, h⟩; have H1 := Lib.hid h; clear h)
    | (go_at_call 12; refine (aw_next0 H1.out HT.out).mono ?_; rintro r w2 ⟨rfl, h⟩; have H2 := Lib.hid h; clear h H1)
    | (go_at_call 12; refine (aw_next1 H2.out HT.out).mono ?_; rintro r w3 ⟨rfl, h⟩; have H3 := Lib.hid h; clear h H2)
    | (go_at_call 14; refine (aw_mark1 H3.out).mono ?_; rintro r w4 ⟨rfl, h⟩; have H4 := Lib.hid h; clear h H3)
    | (go_at_call 15; refine (aw_swept H4.out HT.out).mono ?_; rintro r w5 ⟨v, rfl, ho, h⟩; obtain ⟨p, cap, rfl, hc1, hc2, hp⟩ := owns_form ho; have H5 := Lib.hid h; have HO := Lib.hid ho; clear h ho H4)
    | (go_at_call 16; refine (aw_told H5.out).mono ?_; rintro r w6 ⟨rfl, hx⟩; have HX := Lib.hid (H5.out.ext.trans hx); have HO6 := Lib.hid (owns_later HO.out hx.below); clear hx HO; obtain ⟨gr, rfl, hg1, hg2⟩ := hp.resolve_left (by omega); have hg3 := (owns_lt HO6.out gr rfl).2; have c0 : w6.cell? ⟨gr, 0, none⟩ = some (.int .i64 0) := World.ownsRow.cellAt HO6.out 0 (by omega); have hne : gr ≠ w6.heap.size := by omega))
  go_ret
  exact ⟨rfl, HX.out.alloc _ _⟩

end Go.Proofs.YticaamdghjfifaaDoor
