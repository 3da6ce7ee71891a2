/- The contract of awake. -/
import Derived.Test.YtoofokbdohdmjaaFix2
namespace Go.Proofs.Ytoofokbdohdmjaa
open Go.RowKit
set_option linter.unusedVariables false

theorem bump_chg {w w' : World} {F : Nat → Prop} {g : Nat} {b n e : Int} (h : BumpAt w g b n e) (hc : Chg F w w') (hg : ¬ F g) : BumpAt w' g b n e := Blk.chg h hc hg
theorem bump_not {w : World} {B g : Nat} {F : Nat → Prop} {size : Int} {O : List Bool} {S : List Nat} (h : FixM w B g F size O S) {gb : Nat} {b n e : Int} (hb : BumpAt w gb b n e) : ¬ F gb :=
  h.not hb (by decide) (by decide) (by decide)

set_option maxHeartbeats 2000000 in
theorem awake_any (w : World) : Calls Try.prog 13 #[] w fun r w' => r = .returned (.bool true) ∧ Ext w w' := by
  go_enter Try.func13, Try.ntmps13
  go_wp2_with fail
  refine (fixNew 6000 w (by omega) (by omega)).mono ?_
  rintro r w1 ⟨rfl, ⟨F, hF⟩, hx⟩
  have HF1 := Lib.hid hF
  have HX1 := Lib.hid hx
  clear hF hx
  go_wp2_with fail
  refine (newBump_yes 64 _ (by decide +kernel)).mono ?_
  rintro r w2 ⟨rfl, hb, hx⟩
  have HF2 := Lib.hid (HF1.out.later hx)
  have HB2 := Lib.hid hb
  have HX2 := Lib.hid (HX1.out.trans hx)
  have HG := Lib.hid HX1.out.size
  clear hb hx
  go_wp2_with fail
  refine (fixTake HF2.out HX2.out.size (by decide)).mono ?_
  rintro r w3 ⟨rfl, ⟨F3, hF, hsub⟩, hc⟩
  have HX3 := Lib.hid (hc.ext HX2.out HF2.out.over)
  have HB3 := Lib.hid (bump_chg HB2.out hc (bump_not HF2.out HB2.out))
  have HF3 := Lib.hid hF
  clear hF hsub hc
  have t1 : takeId [] [] = 1 := rfl
  rw [t1]
  clear t1
  go_wp2_with fail
  refine (fixTake HF3.out HX3.out.size (by decide)).mono ?_
  rintro r w4 ⟨rfl, ⟨F4, hF, hsub⟩, hc⟩
  have HX4 := Lib.hid (hc.ext HX3.out HF3.out.over)
  have HB4 := Lib.hid (bump_chg HB3.out hc (bump_not HF3.out HB3.out))
  have HF4 := Lib.hid hF
  clear hF hsub hc
  have t1 : takeId (takeO [] []) [].tail = 2 := rfl
  rw [t1]
  clear t1
  go_wp2_with fail
  refine (fixTake HF4.out HX4.out.size (by decide)).mono ?_
  rintro r w5 ⟨rfl, ⟨F5, hF, hsub⟩, hc⟩
  have HX5 := Lib.hid (hc.ext HX4.out HF4.out.over)
  have HB5 := Lib.hid (bump_chg HB4.out hc (bump_not HF4.out HB4.out))
  have HF5 := Lib.hid (show FixM w5 w.heap.size w.heap.size F5 6000 [true, true, true] [] from hF)
  clear hF hsub hc
  have t1 : takeId (takeO (takeO [] []) [].tail) [].tail.tail = 3 := rfl
  rw [t1]
  clear t1
  go_wp2_with fail
  refine (fixBytes HF5.out (by omega) (by omega)).mono ?_
  rintro r w6 ⟨rfl, n6, rfl⟩
  have t1 : bytesV [true, true, true].length 6000 = 32768 := by decide +kernel
  rw [t1]
  clear t1
  have HX6 := Lib.hid (HX5.out.drewN' n6)
  have HF6 := Lib.hid (HF5.out.later ((Ext.refl _).drewN' n6))
  have HB6 := Lib.hid (show BumpAt (w5.drewN n6) _ _ _ _ from HB5.out.drewN n6)
  generalize w5.drewN n6 = w6 at *
  go_wp2_with fail
  refine (fixGive 2 (by decide) HF6.out).mono ?_
  rintro r w7 ⟨rfl, hF, hc⟩
  have HX7 := Lib.hid (hc.ext HX6.out HF6.out.over)
  have HB7 := Lib.hid (bump_chg HB6.out hc (bump_not HF6.out HB6.out))
  have HF7 := Lib.hid (show FixM w7 w.heap.size w.heap.size F5 6000 [true, false, true] [1] from hF)
  clear hF hc
  have t1 : giveE [true, true, true] 2 = 0 := by decide +kernel
  rw [t1]
  clear t1
  go_wp2_with fail
  refine (fixTake HF7.out HX7.out.size (by decide)).mono ?_
  rintro r w8 ⟨rfl, ⟨F8, hF, hsub⟩, hc⟩
  have HX8 := Lib.hid (hc.ext HX7.out HF7.out.over)
  have HB8 := Lib.hid (bump_chg HB7.out hc (bump_not HF7.out HB7.out))
  have HF8 := Lib.hid (show FixM w8 w.heap.size w.heap.size F8 6000 [true, true, true] [] from hF)
  clear hF hsub hc
  have t1 : takeId [true, false, true] [1] = 2 := rfl
  rw [t1]
  clear t1
  go_wp2_with fail
  refine (take_new _ 64 0 0 10 1 _ HB8.out (by omega) (by omega) (by omega) (by omega) (by omega) (by decide +kernel) (by omega) (by decide +kernel) (by decide +kernel) (by decide +kernel)).mono ?_
  rintro r w9 ⟨rfl, hb, hc⟩
  have HX9 := Lib.hid (hc.ext HX8.out (fun i hi => by rw [hi]; exact HG.out))
  have HF9 := Lib.hid (HF8.out.keep hc (fun b hb hg => bump_not HF8.out HB8.out (hg ▸ hb)))
  have HB9 := Lib.hid hb
  clear hb hc
  go_wp2_with fail
  refine (take_old _ 64 1 10 8 8 _ HB9.out (by omega) (by omega) (by omega) (by omega) (by omega) (by decide +kernel) (by omega) (by decide +kernel) (by decide +kernel) (by decide +kernel)).mono ?_
  rintro r w10 ⟨rfl, hb, hc⟩
  have HX10 := Lib.hid (hc.ext HX9.out (fun i hi => by rw [hi]; exact HG.out))
  have HF10 := Lib.hid (HF9.out.keep hc (fun b hb hg => bump_not HF9.out HB9.out (hg ▸ hb)))
  clear hb hc
  have t1 : upV 10 8 = 16 := by decide +kernel
  rw [t1]
  clear t1
  go_wp2_with fail
  refine (fixCount HF10.out).mono ?_
  rintro r w11 ⟨rfl, rfl⟩
  have t1 : (([true, true, true].length : Int) - ([] : List Nat).length) = 3 := rfl
  rw [t1]
  clear t1
  go_wp2_with fail
  go_ret
  exact ⟨rfl, HX10.out⟩

end Go.Proofs.Ytoofokbdohdmjaa
