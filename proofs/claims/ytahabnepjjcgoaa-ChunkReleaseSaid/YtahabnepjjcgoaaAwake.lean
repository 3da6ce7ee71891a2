/- The contract of awake. -/
import Derived.Test.YtahabnepjjcgoaaChunk2
namespace Go.Proofs.Ytahabnepjjcgoaa
open Go.RowKit
set_option linter.unusedVariables false

set_option maxRecDepth 20000 in
set_option maxHeartbeats 1000000 in
theorem awake_any (w : World) : Calls Try.prog 12 #[] w fun r w' => r = .returned (.bool true) ∧ Ext w w' := by
  have E1 := Lib.hid (show lookE noB 0 4 0 32 = 0 by decide +kernel)
  have E2 := Lib.hid (show cntF allB 0 4 = 4 by decide +kernel)
  have E3 := Lib.hid (show lookE (setF noB 0 4) 1 2 2 31 = 0 by decide +kernel)
  have E4 := Lib.hid (show findI (clrF (setF noB 0 4) 1 2) 1 0 = 1 by decide +kernel)
  have E5 := Lib.hid (show findB (clrF (setF noB 0 4) 1 2) 1 0 = true by decide +kernel)
  have E6 := Lib.hid (show scavI (clrF (setF noB 0 4) 1 2) (clrF allB 0 4) 512 = 1 by decide +kernel)
  have E7 := Lib.hid (show scavN (clrF (setF noB 0 4) 1 2) (clrF allB 0 4) 512 = 2 by decide +kernel)
  have E8 := Lib.hid (show cnt5 (clrF (setF noB 0 4) 1 2) = 2 by decide +kernel)
  have E9 := Lib.hid (show cnt5 (setF (clrF allB 0 4) 1 2) = 510 by decide +kernel)
  go_enter Try.func12, Try.ntmps12
  go_wp2_with fail
  refine (chunk_new w).mono ?_
  rintro r w1 ⟨rfl, hc, hx⟩
  have HC := Lib.hid hc
  have HX := Lib.hid hx
  clear hc hx
  go_wp2_with fail
  refine (take_any w.heap.size noB allB 0 4 _ HC.out).mono ?_
  rw [E1.out, E2.out]
  simp only [if_true]
  rintro r w2 ⟨rfl, hc, hx⟩
  have HC2 := Lib.hid hc
  have HX2 := Lib.hid (hx.ext HX.out (fun i hi => by rw [hi]; exact Nat.le_refl _))
  clear hc hx
  go_wp2_with fail
  refine (give_any w.heap.size _ _ 1 2 _ HC2.out).mono ?_
  rw [E3.out]
  simp only [if_true]
  rintro r w3 ⟨rfl, hc, hx⟩
  have HC3 := Lib.hid hc
  have HX3 := Lib.hid (hx.ext HX2.out (fun i hi => by rw [hi]; exact Nat.le_refl _))
  clear hc hx
  go_wp2_with fail
  refine (cfind_any w.heap.size _ _ 1 0 _ HC3.out (by omega)).mono ?_
  rw [E4.out, E5.out]
  rintro r w4 ⟨rfl, rfl⟩
  go_wp2_with fail
  refine (scav_any w.heap.size _ _ 512 _ HC3.out (by omega)).mono ?_
  rw [E6.out, E7.out]
  rintro r w4 ⟨rfl, hc, hx⟩
  have HC4 := Lib.hid hc
  have HX4 := Lib.hid (hx.ext HX3.out (fun i hi => by rw [hi]; exact Nat.le_refl _))
  clear hc hx
  go_wp2_with fail
  refine (free_any w.heap.size _ _ _ HC4.out).mono ?_
  rw [E8.out]
  rintro r w5 ⟨rfl, hx⟩
  have HC5 := Lib.hid (HC4.out.later hx)
  have HX5 := Lib.hid (HX4.out.trans hx)
  clear hx
  go_wp2_with fail
  refine (released_any w.heap.size _ _ _ HC5.out).mono ?_
  rw [E9.out]
  rintro r w6 ⟨rfl, hx⟩
  have HX6 := Lib.hid (HX5.out.trans hx)
  clear hx
  go_wp2_with fail
  go_ret
  exact ⟨rfl, HX6.out⟩

end Go.Proofs.Ytahabnepjjcgoaa
