/- The contract of awake. -/
import Derived.Test.YtmiogoecjoldoaaBitsE
namespace Go.Proofs.Ytmiogoecjoldoaa
open Go.RowKit
set_option linter.unusedVariables false

set_option maxRecDepth 20000 in
set_option maxHeartbeats 1000000 in
theorem awake_any (w : World) : Calls Try.prog 19 #[] w fun r w' => r = .returned (.bool true) ∧ Ext w w' := by
  have B0 : Blk (w.alloc (.cells #[.int .u64 0, .int .u64 0, .int .u64 0, .int .u64 0, .int .u64 0, .int .u64 0, .int .u64 0, .int .u64 0] 24)) w.heap.size 24 (arr noB) := by rw [arr_no]; exact Blk.new _ _ _
  have HR := Lib.hid (row_of_blk B0)
  clear B0
  go_enter Try.func19, Try.ntmps19
  go_wp2_with fail
  refine (set_any w.heap.size 0 0 3 noB _ HR.out).mono ?_
  rintro r w1 ⟨rfl, hr, hc⟩
  have t1 : putE 0 3 = 0 := by decide
  rw [t1]
  have HR1 := Lib.hid hr
  have HX1 := Lib.hid (hc.chg.ext ((Ext.refl w).alloc _ _) (fun i hi => by rw [hi]; exact Nat.le_refl _))
  clear hr hc t1
  go_wp2_with fail
  refine (set_any w.heap.size 0 10 1 _ _ HR1.out).mono ?_
  rintro r w2 ⟨rfl, hr, hc⟩
  have t1 : putE 10 1 = 0 := by decide
  rw [t1]
  have HR2 := Lib.hid hr
  have HX2 := Lib.hid (hc.chg.ext HX1.out (fun i hi => by rw [hi]; exact Nat.le_refl _))
  have k1 : findI (setF (setF noB 0 3) 10 1) 8 0 = 11 := by decide +kernel
  have k2 : findB (setF (setF noB 0 3) 10 1) 8 0 = true := by decide +kernel
  have k3 : lastI (setF (setF noB 0 3) 10 1) 4 10 = 6 := by decide +kernel
  have k4 : lastN (setF (setF noB 0 3) 10 1) 4 10 = 4 := by decide +kernel
  have k5 : getB (setF (setF noB 0 3) 10 1) 2 = true := by decide +kernel
  have k6 : getB (setF (setF noB 0 3) 10 1) 3 = false := by decide +kernel
  have k7 : cntF (setF (setF noB 0 3) 10 1) 0 512 = 4 := by decide +kernel
  have k8 : sumV (setF (setF noB 0 3) 10 1) = .agg #[.int .i64 0, .int .i64 501, .int .i64 501] := by
    unfold sumV
    rw [show startS (setF (setF noB 0 3) 10 1) 512 = 0 by decide +kernel, show maxS (setF (setF noB 0 3) 10 1) 512 = 501 by decide +kernel, show endS (setF (setF noB 0 3) 10 1) 512 = 501 by decide +kernel]
    rfl
  clear hr hc t1 HR1 HX1 HR
  have HL := Lib.hid (fun (b : Nat) w h => last_any b 0 4 10 (setF (setF noB 0 3) 10 1) w h (by omega))
  have HF := Lib.hid (fun (b : Nat) w h => find_any b 0 8 0 (setF (setF noB 0 3) 10 1) w h (by omega))
  have HG := Lib.hid (fun (b : Nat) w h => get_any b 0 2 (setF (setF noB 0 3) 10 1) w h)
  have HG3 := Lib.hid (fun (b : Nat) w h => get_any b 0 3 (setF (setF noB 0 3) 10 1) w h)
  have HC := Lib.hid (fun (b : Nat) w h => count_any b 0 0 512 (setF (setF noB 0 3) 10 1) w h)
  have HS := Lib.hid (fun (b : Nat) w h => sum_any b 0 (setF (setF noB 0 3) 10 1) w h)
  rw [k1, k2] at HF
  rw [k3, k4] at HL
  rw [k5] at HG
  rw [k6] at HG3
  rw [k7] at HC
  rw [k8] at HS
  clear k1 k2 k3 k4 k5 k6 k7 k8
  generalize setF (setF noB 0 3) 10 1 = f at *
  go_wp2_with fail
  refine (HF.out _ _ HR2.out).mono ?_
  rintro r w3 ⟨rfl, rfl⟩
  go_wp2_with fail
  refine (HL.out _ _ HR2.out).mono ?_
  rintro r w3 ⟨rfl, rfl⟩
  go_wp2_with fail
  refine (HG.out _ _ HR2.out).mono ?_
  rintro r w3 ⟨rfl, rfl⟩
  go_wp2_with fail
  refine (HG3.out _ _ HR2.out).mono ?_
  rintro r w3 ⟨rfl, rfl⟩
  go_wp2_with fail
  refine (HC.out _ _ HR2.out).mono ?_
  rintro r w4 ⟨rfl, hx⟩
  have HR4 := Lib.hid (HR2.out.later hx)
  have HX4 := Lib.hid (HX2.out.trans hx)
  clear hx
  go_wp2_with fail
  refine (HS.out _ _ HR4.out).mono ?_
  rintro r w5 ⟨rfl, hx⟩
  have HX5 := Lib.hid (HX4.out.trans hx)
  clear hx
  go_wp2_with fail
  go_ret
  exact ⟨rfl, HX5.out⟩

end Go.Proofs.Ytmiogoecjoldoaa
