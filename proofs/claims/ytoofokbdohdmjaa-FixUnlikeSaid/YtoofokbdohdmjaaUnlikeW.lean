/- The walk of FixUnlike. -/
import Derived.Test.YtoofokbdohdmjaaUnlike
namespace Go.Proofs.Ytoofokbdohdmjaa
open Go.RowKit Go.Maps
set_option linter.unusedVariables false

theorem bytes_law (n : Nat) : bytesV n 100 = (((n : Int) + 162) / 163) * 16384 := by
  unfold bytesV ceilV
  rw [show (16384 : Int) / 100 = 163 from rfl, if_neg (by omega)]
  by_cases h : (n : Int) % 163 = 0
  · rw [if_pos h]; omega
  · rw [if_neg h]; omega

set_option maxRecDepth 20000 in
set_option maxHeartbeats 8000000 in
theorem walk_FixUnlike {W : World} (v : Value) (zs : List Int) (hz : ZsIn W .i64 v zs) :
    Calls Try.prog 3 #[v] W fun e W' => e = .returned (.bool true) ∧ Ext W W' := by
  have HWF := Lib.hid hz.wf
  obtain ⟨p, cap, rfl, hz, hl⟩ := hz.open_
  have hmk : ∀ w : World, (Instr.makeMap 27 none).run Try.prog w = .ok (.map (some w.heap.size)) (w.alloc (.map #[] 0)) := fun _ => by kernel_rfl
  by_cases h400 : 400 < zs.length
  · clear hz
    go_enter Try.func3, Try.ntmps3
    go_wp2
    go_ret
    exact ⟨rfl, Ext.refl _⟩
  have h400 : zs.length ≤ 400 := by omega
  have HZ := Lib.hid hz
  clear hz hl
  go_enter Try.func3, Try.ntmps3
  go_wp2_with fail
  refine (fixNew 100 W (by omega) (by omega)).mono ?_
  rintro r w1 ⟨rfl, ⟨F, hF⟩, hx⟩
  have HR := Lib.hid (show URel W (w1.alloc (.map #[] 0)) W.heap.size w1.heap.size F [] [] 0 0 from
    ⟨hF.keep ((Chg.refl (fun _ => False) w1).allocM) (fun _ _ h => h), (bmap_made w1).congr fun k => by unfold liveB; simp, hx.allocM, rfl, hx.size, fun hf => by have := hF.inside _ hf; omega⟩)
  clear hF hx
  go_wp2_with fail
  generalize w1.heap.size = gm at *
  go_loopw [6, 7] (fun tp i wr => ∃ (k n c : Nat) (F : Nat → Prop) (O : List Bool) (S : List Nat), k ≤ zs.length ∧ i = .int .i64 k ∧ tp = .int .i64 O.length ∧ O.length ≤ k ∧ n ≤ k ∧ Hid (URel W wr W.heap.size gm F O S n c)) (fun _ i _ => zs.length - (intOf i).toNat)
  case atStart => exact ⟨0, 0, 0, F, [], [], by omega, rfl, rfl, by simp, by omega, HR⟩
  case round =>
    obtain ⟨k, n, c, F1, O, S, hk, rfl, rfl, hO, hn, hR⟩ := hrel
    clear HR
    by_cases hlt : k < zs.length
    · obtain ⟨b, off, rfl, hb, hcell⟩ := HZ.out.get hlt hR.out.ext
      have hwf := HWF.out k hlt
      have hcnt := hR.out.cnt
      generalize zs.getD k 0 = id at *
      by_cases hid : 0 < id
      · go_wp2_with fail
        refine (fixGive id hwf hR.out.fix).mono ?_
        rintro r w3 ⟨rfl, hF, hc⟩
        have hG := hR.out.gave hF (fun b h => .inl h) hc
        unfold giveE
        unfold giveO giveS at hG
        have hlook := hG.map.look hwf 27 Try.underlying27
        clear hF hc hR
        cases hlv : liveB O id
        · rw [hlv] at hG hlook
          simp only [Bool.false_eq_true, if_false] at hG ⊢
          obtain ⟨w4, hdel, hN⟩ := hG.del_no hwf hlv hcnt 27 Try.underlying27 0
          have hlen := hN.map.len_ 27 Try.underlying27 3
          have HN := Lib.hid hN
          have HC := Lib.hid hN.cnt
          clear hN hG hlv
          go_wp2_with fail
          refine (fixCount HN.out.fix).mono ?_
          rintro r w5 ⟨rfl, rfl⟩
          rw [show ((O.length : Int) - S.length) = c by have := HC.out; omega]
          go_wp2_with fail
          go_roundw
          case rel => exact ⟨k + 1, n, c, F1, O, S, by omega, by go_num, rfl, by omega, by omega, HN⟩
          case measure => simp [intOf]; omega
        · rw [hlv] at hG hlook
          simp only [if_true] at hG ⊢
          obtain ⟨w4, c4, hdel, hN⟩ := hG.del_yes hwf hlv hcnt 27 Try.underlying27 0
          have hlen := hN.map.len_ 27 Try.underlying27 3
          have HN := Lib.hid hN
          have HC := Lib.hid hN.cnt
          clear hN hG hlv
          go_wp2_with fail
          refine (fixCount HN.out.fix).mono ?_
          rintro r w5 ⟨rfl, rfl⟩
          rw [show (((O.set (id.toNat - 1) false).length : Int) - ((id.toNat - 1) :: S).length) = c4 by have := HC.out; omega]
          go_wp2_with fail
          go_roundw
          case rel => exact ⟨k + 1, n, c4, F1, _, _, by omega, by go_num, by rw [List.length_set], by rw [List.length_set]; omega, by omega, HN⟩
          case measure => simp [intOf]; omega
      · cases S with
        | nil =>
          go_wp2_with fail
          refine (fixTake hR.out.fix hR.out.ext.size (by omega)).mono ?_
          rintro r w3 ⟨rfl, ⟨F2, hF, hs⟩, hc⟩
          have hG := hR.out.gave hF hs hc
          have hlook := hG.map.look (k := (O.length : Int) + 1) (by simp [Lit.wf, IntKind.min, IntKind.max, IntKind.signed, IntKind.bits]; omega) 27 Try.underlying27
          rw [show liveB O ((O.length : Int) + 1) = false by unfold liveB; rw [decide_eq_false (by omega), Bool.false_and]] at hlook
          have hcl : c = O.length := by simpa using hcnt
          obtain ⟨w4, hput, hN⟩ := hG.put_new (by omega) (by omega) hcl 27 Try.underlying27
          have hlen := hN.map.len_ 27 Try.underlying27 3
          rw [show ((c + 1 : Nat) : Int) = (O.length : Int) + 1 by omega] at hlen
          have HN := Lib.hid hN
          rw [show takeId O [] = (O.length : Int) + 1 from rfl]
          clear hN hG hF hs hc hcnt hR
          go_wp2_with fail
          refine (fixCount HN.out.fix).mono ?_
          rintro r w5 ⟨rfl, rfl⟩
          rw [show (((O ++ [true]).length : Int) - (([] : List Nat)).length) = (O.length : Int) + 1 by rw [List.length_append]; show ((O.length + 1 : Nat) : Int) - 0 = _; omega]
          go_wp2_with fail
          go_roundw
          case rel => exact ⟨k + 1, n + 1, c + 1, F2, _, _, by omega, by go_num, by rw [List.length_append]; show _ = Value.int .i64 ((O.length + 1 : Nat) : Int); go_num, by rw [List.length_append]; show O.length + 1 ≤ _; omega, by omega, HN⟩
          case measure => simp [intOf]; omega
        | cons i r =>
          have hmem := (hR.out.fix.mem i).1 (by simp)
          obtain ⟨hiO, hif⟩ := hmem
          go_wp2_with fail
          refine (fixTake hR.out.fix hR.out.ext.size (by omega)).mono ?_
          rintro rr w3 ⟨rfl, ⟨F2, hF, hs⟩, hc⟩
          have hG := hR.out.gave hF hs hc
          have hlook := hG.map.look (k := (i : Int) + 1) (by simp [Lit.wf, IntKind.min, IntKind.max, IntKind.signed, IntKind.bits]; omega) 27 Try.underlying27
          rw [show liveB O ((i : Int) + 1) = false by unfold liveB; rw [show ((i : Int) + 1).toNat - 1 = i by omega, hif, Bool.and_false]] at hlook
          rw [List.length_cons] at hcnt
          obtain ⟨w4, hput, hN⟩ := hG.put_old (by omega) (by omega) hiO hif hcnt 27 Try.underlying27
          have hlen := hN.map.len_ 27 Try.underlying27 3
          have hcO : c + 1 ≤ O.length := by omega
          have hcr : (((O.set i true).length : Int) - r.length) = ((c + 1 : Nat) : Int) := by rw [List.length_set]; omega
          have HCR := Lib.hid hcr
          have HN := Lib.hid hN
          rw [show takeId O (i :: r) = (i : Int) + 1 from rfl]
          clear hN hG hF hs hc hcnt hR hcr hif
          go_wp2_with fail
          refine (fixCount HN.out.fix).mono ?_
          rintro r5 w5 ⟨rfl, rfl⟩
          rw [List.tail_cons, HCR.out]
          go_wp2_with fail
          go_roundw
          case rel => exact ⟨k + 1, n + 1, c + 1, F2, _, _, by omega, by go_num, by rw [List.length_set], by rw [List.length_set]; omega, by omega, HN⟩
          case measure => simp [intOf]; omega
    · obtain rfl : k = zs.length := by omega
      obtain ⟨D, hD, hopen⟩ := hR.out.opened
      have HO := Lib.hid hopen
      go_wp2_with (first
        | (at_range; refine wpList_range_own _ rfl _ 27 rfl 3 4 im_key Try.underlying27 _ gm n D rfl hD ?_; intro w0 hrg0 hg0 hs0)
        | fail)
      go_frame
      have H0 := Lib.hid (HO.out w0 hrg0 hg0 hs0)
      clear hrg0 hg0 hs0 hD hR HO hopen
      generalize wr.heap.size = r at *
      go_loopw [10] (fun _ wr => ∃ (left : Lit → Bool) (cnt : Nat), Hid (URange W wr W.heap.size gm r n F1 O S D left cnt)) (fun _ wr => wr.rangeLeft gm r)
      case atStart => exact ⟨_, _, H0⟩
      case round =>
        obtain ⟨left, cnt, hI⟩ := hrel
        clear H0
        go_wp2_with (first
          | (at_next; refine next_ib _ rfl _ rfl gm r n D _ _ rfl hI.out.rg hI.out.at_ ?_ ?_)
          | fail)
        · have HX := Lib.hid hI.out.fix
          have HE := Lib.hid hI.out.ext
          clear hI
          go_wp2_with (first
            | (go_at_call 12; refine (fixBytes HX.out (by omega) (by omega)).mono ?_; rintro r5 w5 ⟨rfl, ⟨q, rfl⟩⟩; have H5 := Lib.hid (HE.out.drewN' q); rw [show bytesV O.length 100 = (((O.length : Int) + 162) / 163) * 16384 from bytes_law O.length]; clear HX HE)
            | (go_at_call 13; refine (awake_any _).mono ?_; rintro r w9 ⟨rfl, hx⟩; have H9 := Lib.hid (H5.out.trans hx); clear hx H5))
          go_ret
          exact ⟨rfl, H9.out⟩
        · intro x w1 left1 cnt1 hwx hhas hrg1 hlt1 hg1 hs1 hen
          have HN := Lib.hid (hI.out.next hrg1 hg1 hs1)
          have hl := (hI.out.hold x).symm.trans hhas
          have hml : wr.rangeLeft gm r = cnt := hI.out.rg.left_eq
          have hmn : w1.rangeLeft gm r = cnt1 := hrg1.left_eq
          have HM := Lib.hid (show w1.rangeLeft gm r < wr.rangeLeft gm r by rw [hml, hmn]; exact hlt1)
          clear hhas hrg1 hg1 hs1 hml hmn
          go_wp2_with fail
          refine (fixLive x hwx HN.out.fix).mono ?_
          rintro r5 w5 ⟨rfl, rfl⟩
          rw [hl]
          go_wp2_with fail
          go_roundw
          case rel => exact ⟨_, _, HN⟩
          case measure => exact HM.out

end Go.Proofs.Ytoofokbdohdmjaa
