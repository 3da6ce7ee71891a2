/- The walk of the law BumpApart. -/
import Derived.Test.YtoofokbdohdmjaaAwake
import Derived.Test.YtoofokbdohdmjaaZs
import Derived.Test.YtoofokbdohdmjaaHead
import Derived.Deep.RegionWith
import Derived.IntWalk
import Derived.Deep.RegionHeld3
namespace Go.Proofs.Ytoofokbdohdmjaa
open Go.RowKit
set_option linter.unusedVariables false

theorem up_facts {e a : Int} (he : 0 ≤ e) (he2 : e ≤ 4194304) (ha : 1 ≤ a) (ha2 : a ≤ 4194304) : e ≤ upV e a ∧ upV e a < e + a ∧ upV e a % a = 0 ∧ upV e a = (e + a - 1) / a * a := by
  have h := Int.mul_ediv_add_emod e a
  have m0 : 0 ≤ e % a := Int.emod_nonneg _ (by omega)
  have m1 : e % a < a := Int.emod_lt_of_pos _ (by omega)
  unfold upV
  rw [if_neg (by omega)]
  by_cases hm : e % a = 0
  · rw [if_pos hm]
    refine ⟨by omega, by omega, hm, ?_⟩
    have h2 : (e + a - 1) / a = e / a := by
      rw [show e + a - 1 = (a - 1) + a * (e / a) by omega, Int.add_mul_ediv_left _ _ (by omega), Int.ediv_eq_zero_of_lt (by omega) (by omega)]
      omega
    rw [h2, Int.mul_comm]
    omega
  · rw [if_neg hm, if_neg (by omega)]
    have e1 : e - e % a + a = a * (e / a + 1) := by rw [Int.mul_add]; omega
    refine ⟨by omega, by omega, ?_, ?_⟩
    · rw [e1]; exact Int.mul_emod_right _ _
    · have h2 : (e + a - 1) / a = e / a + 1 := by
        rw [show e + a - 1 = (e % a - 1) + a * (e / a + 1) by rw [Int.mul_add]; omega, Int.add_mul_ediv_left _ _ (by omega), Int.ediv_eq_zero_of_lt (by omega) (by omega)]
        omega
      rw [h2, e1, Int.mul_comm]

/-- the memory of the law. -/
structure ARel (W w : World) (g : Nat) (b n e : Int) : Prop where
  bump : BumpAt w g b n e
  ext : Ext W w

theorem bump_le {b : Int} (h : bumpOk b = true) : 64 ≤ b ∧ b ≤ 1048576 := by
  unfold bumpOk at h
  simp only [Bool.and_eq_true, decide_eq_true_eq] at h
  exact ⟨h.1.1, h.1.2⟩

set_option maxRecDepth 100000 in
set_option maxHeartbeats 4000000 in
theorem apart_any (b : Int) (hb : bumpOk b = true) (p q : Option Addr) (xs ys : List Int) (cap cap' : Nat) (W : World) (hx : ZsAt W .i64 p xs) (hy : ZsAt W .i64 q ys) (lx : xs.length ≤ 200) (ly : ys.length ≤ 200)
    (wx : ∀ i, i < xs.length → (Lit.int .i64 (xs.getD i 0)).wf = true) (wy : ∀ i, i < ys.length → (Lit.int .i64 (ys.getD i 0)).wf = true) :
    Calls Try.prog 6 #[.int .i64 b, .slice p xs.length cap, .slice q ys.length cap'] W fun r w' => r = .returned (.bool true) ∧ Ext W w' := by
  obtain ⟨hb1, hb2⟩ := bump_le hb
  have HX := Lib.hid hx
  have HY := Lib.hid hy
  have WX := Lib.hid wx
  have WY := Lib.hid wy
  have HB := Lib.hid hb
  clear hx hy hb wx wy
  go_enter Try.func6, Try.ntmps6
  go_wp2_with fail
  refine (newBump_yes b W HB.out).mono ?_
  rintro r w1 ⟨rfl, hbm, hx⟩
  have HR := Lib.hid (ARel.mk hbm hx)
  clear hbm hx
  go_wp2_with fail
  go_loopw [9, 10, 11] (fun vn ve vi wr => ∃ (k : Nat) (n e : Int), k ≤ xs.length ∧ k ≤ ys.length ∧ vi = .int .i64 k ∧ vn = .int .i64 n ∧ ve = .int .i64 e ∧ 0 ≤ n ∧ n ≤ k ∧ 0 ≤ e ∧ e ≤ b ∧ Hid (ARel W wr W.heap.size b n e)) (fun _ _ vi _ => xs.length - (intOf vi).toNat)
  case atStart => exact ⟨0, 0, 0, Nat.zero_le _, Nat.zero_le _, rfl, rfl, rfl, by omega, by omega, by omega, by omega, HR⟩
  case round =>
    obtain ⟨k, n, e, hk, hk', rfl, rfl, rfl, hn, hnk, he, heb, hR⟩ := hrel
    clear HR
    by_cases hlt : k < xs.length
    · by_cases hlt' : k < ys.length
      · obtain ⟨b1, o1, rfl, hl1, e1⟩ := HX.out.get hlt hR.out.ext
        obtain ⟨b2, o2, rfl, hl2, e2⟩ := HY.out.get hlt' hR.out.ext
        have ws := i64_of (WX.out k hlt)
        have wa := i64_of (WY.out k hlt')
        have HX' := Lib.hid (fun w (h : Ext W w) => (HX.out.at_ hlt h).2)
        have HY' := Lib.hid (fun w (h : Ext W w) => (HY.out.at_ hlt' h).2)
        generalize xs.getD k 0 = s at *
        generalize ys.getD k 0 = a at *
        have HR1 := Lib.hid (show ARel W wr.drew W.heap.size b n e from ⟨hR.out.bump.drew, hR.out.ext.drew⟩)
        clear hR
        have hnn : (n != n) = false := by simp
        cases hao : askOk b s a
        · have HAO := Lib.hid hao
          clear hao
          go_wp2_with fail
          go_region_held3 (fun w' => w'.cell? ⟨b1, o1 + k, none⟩ = some (.int .i64 s) ∧ w'.cell? ⟨b2, o2 + k, none⟩ = some (.int .i64 a)) (go_keep) (first | (go_at_call 17; refine (take_arg W.heap.size b n e s a _ HR1.out.bump hb2 HAO.out).mono ?_; rintro r w2 ⟨rfl, rfl⟩))
          go_wp2_with (go_at_call 19; refine (blocks_any _ b n e _ HR1.out.bump).mono ?_; rintro r w3 ⟨rfl, rfl⟩)
          go_roundw
          case rel => exact ⟨k + 1, n, e, hlt, hlt', by go_num, rfl, rfl, by omega, by omega, by omega, by omega, HR1⟩
          case measure => simp [intOf]; omega
        · obtain ⟨hs1, ha1, hab, -⟩ := ask_parts hao
          have HAO := Lib.hid hao
          clear hao
          by_cases hsb : b < s
          · go_wp2_with fail
            go_region_held3 (fun w' => w'.cell? ⟨b1, o1 + k, none⟩ = some (.int .i64 s) ∧ w'.cell? ⟨b2, o2 + k, none⟩ = some (.int .i64 a)) (go_keep) (first | (go_at_call 17; refine (take_long W.heap.size b n e s a _ HR1.out.bump hb2 HAO.out hsb).mono ?_; rintro r w2 ⟨rfl, rfl⟩))
            go_wp2_with (go_at_call 19; refine (blocks_any _ b n e _ HR1.out.bump).mono ?_; rintro r w3 ⟨rfl, rfl⟩)
            go_roundw
            case rel => exact ⟨k + 1, n, e, hlt, hlt', by go_num, rfl, rfl, by omega, by omega, by omega, by omega, HR1⟩
            case measure => simp [intOf]; omega
          · obtain ⟨u1, u2, u3, u4⟩ := up_facts he (by omega) ha1 (by omega)
            cases hfr : freshB b n e s a
            · have HT := Lib.hid (fun w h => take_old W.heap.size b n e s a w h hb2 he heb hn (by omega) HAO.out (by omega) (by omega) (by omega) hfr)
              have hfr' : (n == 0) = false ∧ upV e a ≤ b - s := by
                unfold freshB at hfr
                simp only [Bool.or_eq_false_iff, decide_eq_false_iff_not] at hfr
                exact ⟨hfr.1, by omega⟩
              obtain ⟨hn0, hub⟩ := hfr'
              have hn1 : n ≠ 0 := by simpa using hn0
              have hmod : (upV e a % a != 0) = false := by simp [u3]
              have hnm : (n - 1 == n) = false := by simp; omega
              have hnm2 : (n - 1 != n - 1) = false := by simp
              clear hfr u3 u4 hn0
              generalize upV e a = u at *
              go_wp2_with fail
              go_region_held3 (fun w' => w'.cell? ⟨b1, o1 + k, none⟩ = some (.int .i64 s) ∧ w'.cell? ⟨b2, o2 + k, none⟩ = some (.int .i64 a)) (go_keep) (first | (go_at_call 17; refine (HT.out _ HR1.out.bump).mono ?_; rintro r w2 ⟨rfl, hbm, hc⟩; have HN := Lib.hid (ARel.mk hbm (hc.ext HR1.out.ext (fun i hi => by rw [hi]; exact Nat.le_refl _))); have e1 := HX'.out _ HN.out.ext; have e2 := HY'.out _ HN.out.ext; clear hbm hc))
              go_wp2_with (go_at_call 19; refine (blocks_any _ b n (u + s) _ HN.out.bump).mono ?_; rintro r w3 ⟨rfl, rfl⟩)
              go_roundw
              case rel => exact ⟨k + 1, n, u + s, hlt, hlt', by go_num, rfl, rfl, by omega, by omega, by omega, by omega, HN⟩
              case measure => simp [intOf]; omega
            · have HT := Lib.hid (fun w h => take_new W.heap.size b n e s a w h hb2 he heb hn (by omega) HAO.out (by omega) (by omega) (by omega) hfr)
              have hfr' : n = 0 ∨ (n ≠ 0 ∧ b - s < upV e a) := by
                unfold freshB at hfr
                simp only [Bool.or_eq_true, beq_iff_eq, decide_eq_true_eq] at hfr
                rcases hfr with h | h
                · exact .inl h
                · by_cases h0 : n = 0
                  · exact .inl h0
                  · exact .inr ⟨h0, h⟩
              have hnm : (n == n) = true := by simp
              have hnm2 : (n + 1 != n + 1) = false := by simp
              have hz0 : ((0 : Int) % a != 0) = false := by simp
              have hq0 : 0 ≤ (e + a - 1) / a := Int.ediv_nonneg (by omega) (by omega)
              rw [u4] at u1 u2 hfr'
              clear hfr u3 u4
              have HFR := Lib.hid hfr'
              clear hfr'
              by_cases hn0 : n = 0
              · subst hn0
                clear u1 u2 hq0
                go_wp2_with fail
                go_region_held3 (fun w' => w'.cell? ⟨b1, o1 + k, none⟩ = some (.int .i64 s) ∧ w'.cell? ⟨b2, o2 + k, none⟩ = some (.int .i64 a)) (go_keep) (first | (go_at_call 17; refine (HT.out _ HR1.out.bump).mono ?_; rintro r w2 ⟨rfl, hbm, hc⟩; have HN := Lib.hid (ARel.mk hbm (hc.ext HR1.out.ext (fun i hi => by rw [hi]; exact Nat.le_refl _))); have e1 := HX'.out _ HN.out.ext; have e2 := HY'.out _ HN.out.ext; clear hbm hc))
                go_wp2_with fail
                go_quiet (fail)
                go_wp2_with (go_at_call 19; refine (blocks_any _ b _ s _ (HN.out.bump.drewN _)).mono ?_; rintro r w3 ⟨rfl, rfl⟩)
                go_roundw
                case rel => exact ⟨k + 1, 1, s, hlt, hlt', by go_num, by go_num, by go_num, by omega, by omega, by omega, by omega, Lib.hid ⟨HN.out.bump.drewN _, HN.out.ext.drewN' _⟩⟩
                case measure => simp [intOf]; omega
              · have hfr2 := HFR.out.resolve_left hn0
                have hub := hfr2.2
                have q1 : IntKind.i64.wrap (e + a) = e + a := IntWalk.i64_in _ (by omega)
                have q2 : IntKind.i64.wrap (e + a - 1) = e + a - 1 := IntWalk.i64_in _ (by omega)
                have q3 : (e + a - 1).tdiv a = (e + a - 1) / a := Int.tdiv_eq_ediv_of_nonneg (by omega)
                have q0 : (e + a - 1) / a ≤ e + a - 1 := Int.ediv_le_self _ (by omega)
                clear hfr2
                generalize hdg : (e + a - 1) / a = d at *
                clear hdg
                have q4 : IntKind.i64.wrap d = d := IntWalk.i64_in _ (by omega)
                have q5 : IntKind.i64.wrap (d * a) = d * a := IntWalk.i64_in _ (by omega)
                have q6 : IntKind.i64.wrap (d * a + s) = d * a + s := IntWalk.i64_in _ (by omega)
                have q7 : decide (d * a + s ≤ b) = false := decide_eq_false (by omega)
                have q8 : decide (0 < n) = true := decide_eq_true (by omega)
                have QQ := Lib.hid (And.intro q1 (And.intro q2 (And.intro q3 (And.intro q4 (And.intro q5 (And.intro q6 (And.intro q7 q8)))))))
                clear q1 q2 q3 q4 q5 q6 q7 q8 u1 u2 hq0 hub q0
                go_wp2_with fail
                go_region_held3 (fun w' => w'.cell? ⟨b1, o1 + k, none⟩ = some (.int .i64 s) ∧ w'.cell? ⟨b2, o2 + k, none⟩ = some (.int .i64 a)) (go_keep) (first | (go_at_call 17; refine (HT.out _ HR1.out.bump).mono ?_; rintro r w2 ⟨rfl, hbm, hc⟩; have HN := Lib.hid (ARel.mk hbm (hc.ext HR1.out.ext (fun i hi => by rw [hi]; exact Nat.le_refl _))); have e1 := HX'.out _ HN.out.ext; have e2 := HY'.out _ HN.out.ext; clear hbm hc))
                go_wp2_with fail
                obtain ⟨q1, q2, q3, q4, q5, q6, q7, q8⟩ := QQ.out
                go_quiet (fail)
                clear q1 q2 q3 q4 q5 q6 q7 q8
                go_wp2_with (go_at_call 19; refine (blocks_any _ b _ s _ (HN.out.bump.drewN _)).mono ?_; rintro r w3 ⟨rfl, rfl⟩)
                go_roundw
                case rel => exact ⟨k + 1, n + 1, s, hlt, hlt', by go_num, by go_num, by go_num, by omega, by omega, by omega, by omega, Lib.hid ⟨HN.out.bump.drewN _, HN.out.ext.drewN' _⟩⟩
                case measure => simp [intOf]; omega
      · obtain rfl : k = ys.length := by omega
        go_wp2_with fail
        refine (awake_any _).mono ?_
        rintro r w2 ⟨rfl, hx⟩
        have HX2 := Lib.hid (hR.out.ext.trans hx)
        clear hx
        go_wp2_with fail
        go_ret
        exact ⟨rfl, HX2.out⟩
    · obtain rfl : k = xs.length := by omega
      go_wp2_with fail
      refine (awake_any _).mono ?_
      rintro r w2 ⟨rfl, hx⟩
      have HX2 := Lib.hid (hR.out.ext.trans hx)
      clear hx
      go_wp2_with fail
      go_ret
      exact ⟨rfl, HX2.out⟩

set_option maxRecDepth 100000 in
theorem apart_out (b : Int) (p q : Option Addr) (len cap len' cap' : Nat) (W : World) (h1 : len ≤ 9223372036854775807) (h2 : len' ≤ 9223372036854775807) (h : 200 < len ∨ 200 < len') :
    Calls Try.prog 6 #[.int .i64 b, .slice p len cap, .slice q len' cap'] W fun r w' => r = .returned (.bool true) ∧ Ext W w' := by
  by_cases h3 : 200 < len
  · have k1 : decide (200 < (len : Int)) = true := decide_eq_true (by omega)
    clear h
    go_enter Try.func6, Try.ntmps6
    go_wp2
    go_ret
    exact ⟨rfl, Ext.refl _⟩
  · have k1 : decide (200 < (len : Int)) = false := decide_eq_false (by omega)
    have k2 : decide (200 < (len' : Int)) = true := decide_eq_true (by omega)
    clear h
    go_enter Try.func6, Try.ntmps6
    go_wp2
    go_ret
    exact ⟨rfl, Ext.refl _⟩

set_option maxRecDepth 100000 in
theorem apart_bad (b : Int) (hb : bumpOk b = false) (wb : (Lit.int .i64 b).wf = true) (p q : Option Addr) (len cap len' cap' : Nat) (W : World) (h1 : len ≤ 200) (h2 : len' ≤ 200) :
    Calls Try.prog 6 #[.int .i64 b, .slice p len cap, .slice q len' cap'] W fun r w' => r = .returned (.bool true) ∧ Ext W w' := by
  have HN := Lib.hid (fun w => newBump_no b w hb wb)
  clear hb
  go_enter Try.func6, Try.ntmps6
  go_wp2_with fail
  refine (HN.out _).mono ?_
  rintro r w1 ⟨rfl, rfl⟩
  go_wp2_with fail
  refine (awake_any _).mono ?_
  rintro r w2 ⟨rfl, hx⟩
  have HX2 := Lib.hid hx
  clear hx
  go_wp2_with fail
  go_ret
  exact ⟨rfl, HX2.out⟩

theorem walk_BumpApart {W : World} (b : Int) (wb : (Lit.int .i64 b).wf = true) (v : Value) (xs : List Int) (hx : ZsIn W .i64 v xs) (u : Value) (ys : List Int) (hy : ZsIn W .i64 u ys) :
    Calls Try.prog 6 #[.int .i64 b, v, u] W fun r w' => r = .returned (.bool true) ∧ Ext W w' := by
  obtain ⟨p, cap, rfl, hz, hm⟩ := hx.open_
  obtain ⟨q, cap', rfl, hz', hm'⟩ := hy.open_
  by_cases h : 200 < xs.length ∨ 200 < ys.length
  · exact apart_out b p q _ cap _ cap' W hm hm' h
  · cases hb : bumpOk b
    · exact apart_bad b hb wb p q _ cap _ cap' W (by omega) (by omega)
    · exact apart_any b hb p q xs ys cap cap' W hz hz' (by omega) (by omega) hx.wf hy.wf

end Go.Proofs.Ytoofokbdohdmjaa
