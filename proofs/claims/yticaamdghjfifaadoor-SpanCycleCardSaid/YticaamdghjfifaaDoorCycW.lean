/- The walk of SpanCycle, in range. -/
import Derived.Test.YticaamdghjfifaaDoorCyc
import Derived.Test.YticaamdghjfifaaDoorManW
import Derived.Test.YticaamdghjfifaaDoorRwIn
namespace Go.Proofs.YticaamdghjfifaaDoor
open Go.RowKit
set_option linter.unusedVariables false

/-- how many slots below j were not kept. -/
def dN (M : Nat → Bool) (j : Nat) : Nat := (swl (fun x => !M x) j).length
theorem dN_zero (M : Nat → Bool) : dN M 0 = 0 := rfl
theorem dN_le (M : Nat → Bool) (j : Nat) : dN M j ≤ j := swl_len _ _
theorem dN_keep {M : Nat → Bool} {j : Nat} (h : M j = true) : dN M (j + 1) = dN M j := by
  unfold dN; rw [swl_succ]; simp [h]
theorem dN_drop {M : Nat → Bool} {j : Nat} (h : M j = false) : dN M (j + 1) = dN M j + 1 := by
  unfold dN; rw [swl_succ]; simp [h]
theorem dN_rest (M : Nat → Bool) (n : Nat) : dN M n + cntB M n = n := cntB_rest M n
theorem cyw_form {W w : World} {g c gu gk B i : Nat} {K : Nat → Bool} {R : Nat → Prop} {v : Value} (h : CyW W w g c K gu gk R B v i) : ∃ p cap, v = .slice p (dN K (slN c)) cap := h.form
theorem cyw_at {W w : World} {g c gu gk B i m cap : Nat} {K : Nat → Bool} {R : Nat → Prop} {p : Option Addr} (h : CyW W w g c K gu gk R B (.slice p m cap) i) (hi : i < slN c) (hK : K i = false) : ∃ gf, p = some ⟨gf, 0, none⟩ ∧ dN K i < dN K (slN c) ∧ w.cell? ⟨gf, dN K i, none⟩ = some (.int .i64 i) := by
  obtain ⟨gf, h1, h2, h3, h4⟩ := h.at_ hi hK
  exact ⟨gf, h1, h3, h4⟩

set_option maxRecDepth 20000 in
set_option maxHeartbeats 8000000 in
theorem cycle_in (c : Nat) (v : Value) (l : Rw) (W : World) (ht : TzAt W) (hc0 : 10 ≤ c) (hc : c ≤ 67) (hl : l.len ≤ 20) (hz : RwIn W v l) :
    Calls Tryd.prog 3 #[.int .i64 c, v] W fun r w' => r = .returned (.bool true) ∧ Ext W w' := by
  obtain ⟨-, p, cap, rfl, hrows⟩ := hz
  have HZ := Lib.hid hrows
  have HT := Lib.hid ht
  have hsl := (tabN_fit c (by omega)).2.2.1
  have hpg := (tabN_fit c (by omega)).2.1
  have HN := Lib.hid (fun w => cy_new c w (by omega) hc)
  have HR := Lib.hid (tabN_all c (by omega))
  have hmk := make_bools (slN c) (by omega)
  have hf7 : ∀ (q1 q2 q3 q4 q5 : Int) (w : World), (Instr.field 43 (.agg #[.int .u64 57344, .int .i64 q1, .int .i64 1, .int .i64 q2, .bool false, .int .i64 q3, .int .i64 q4, .int .i64 q5, .bool false, .bool false]) 7).run Tryd.prog w = .ok (.int .i64 q5) w := fun _ _ _ _ _ _ => by kernel_rfl
  clear hrows ht
  go_enter Tryd.func3, Tryd.ntmps3
  go_wp2_with (first
    | (go_at_call 9; refine (table_any _).mono ?_; rintro r w1 ⟨v, rfl, ho, hx⟩; obtain ⟨gt, gcap, rfl, hBg, hcap, hcm, hT⟩ := tab_open ho; have HTT := Lib.hid hT; obtain ⟨t0, t1, t2, t3⟩ := hT.row c (by omega); rw [HR.out.2.1] at t1; rw [HR.out.2.2.1] at t2; clear t0 t3 ho hT; have HX1 := Lib.hid hx; clear hx)
    | (go_at_call 11; refine (HN.out _).mono ?_; rintro r w2 ⟨g, rfl, h, hx⟩; have H0 := Lib.hid h; have s2 := ((HTT.out.ext hx).row c (by omega)).2.2.1; rw [HR.out.2.2.1] at s2; clear h hx t1 t2 HTT))
  generalize w2.heap.size = gu at *
  clear hmk HN HR
  have hmk := make_bools (slN c) (by omega)
  go_loopw [10] (fun i wr => ∃ (k : Nat) (U : Nat → Bool), k ≤ l.len ∧ i = .int .i64 k ∧ Hid (CyS w1 wr g c U noB 0 gu U (fun k => k = gu))) (fun i _ => l.len - (intOf i).toNat)
  case atStart => exact ⟨0, noB, by omega, rfl, H0⟩
  case round =>
    obtain ⟨k, U, hk, rfl, hR⟩ := hrel
    clear H0 s2
    have HT1 := Lib.hid (HT.out.later HX1.out)
    by_cases hlt : k < l.len
    · go_wp2_with fail
      go_loopg [11] (slN c - 0) (fun gm lastv wq => ∃ (q : Nat) (z : Int) (U : Nat → Bool), q ≤ slN c ∧ gm = slN c - q ∧ lastv = .int .i64 z ∧ z + 1 = q ∧ Hid (CyS w1 wq g c U noB q gu U (fun k => k = gu)) ∧ Hid (∀ j, j < q → U j = true))
      case atStart => exact ⟨0, -1, U, Nat.zero_le _, rfl, rfl, by omega, hR, Lib.hid fun j hj => by omega⟩
      case round =>
        obtain ⟨q, z, U, hq, rfl, rfl, hz1, hQ, hA⟩ := hrel
        clear hR
        rcases first_free U q (slN c - q) with ⟨r, hr, hf⟩ | hall
        · have hrn : r < slN c := by omega
          have hqr := hf.1
          have k1 : decide ((r : Int) ≤ z) = false := decide_eq_false (by omega)
          have k2 : decide (slN c ≤ r) = false := decide_eq_false (by omega)
          have HF := Lib.hid hf
          have HA := Lib.hid (show ∀ j, j < r + 1 → setB U r 1 j = true from fun j hj => by
            rw [setB_at]
            by_cases e : j = r
            · simp [e]
            · by_cases e2 : j < q
              · rw [hA.out j e2]; rfl
              · rw [hf.2.2 j (by omega) (by omega)]; rfl)
          clear hf
          go_wp2_with (first | (go_at_call 12; refine (cy_next hQ.out HT1.out r hrn HF.out).mono ?_; rintro r' w3 ⟨rfl, cu, fu, h⟩; have H1 := Lib.hid h; clear h))
          go_roundg (slN c - (r + 1))
          case measure => omega
          case rel => exact ⟨r + 1, r, _, by omega, rfl, rfl, by omega, H1, HA⟩
        · have HALL := Lib.hid (show ∀ j, j < slN c → U j = true from fun j hj => by
            by_cases e2 : j < q
            · exact hA.out j e2
            · exact hall j (by omega) (by omega))
          have HAL := Lib.hid (show ∀ j, q ≤ j → j < slN c → U j = true from fun j h1 h2 => hall j h1 (by omega))
          clear hall hA
          go_wp2_with (first | (go_at_call 12; refine (cy_full hQ.out HT1.out hc hq HAL.out).mono ?_; rintro r' w3 ⟨rfl, h⟩; have H1 := Lib.hid h; clear h hQ))
          go_loop [14] (fun i => ∃ j : Nat, j ≤ slN c ∧ i = .int .i64 j) (fun i => slN c - (intOf i).toNat)
          case atStart => exact ⟨0, by omega, rfl⟩
          case round =>
            obtain ⟨j, hj, rfl⟩ := hrel
            by_cases hjn : j < slN c
            · have cj : w3.cell? ⟨gu, j, none⟩ = some (.bool true) := by rw [bl_cell H1.out.row j hjn, HALL.out j hjn]
              go_wp2_with (first | (go_at_call 13; refine (cy_used H1.out j hjn (HALL.out j hjn)).mono ?_; rintro r' w4 ⟨rfl, rfl⟩))
              go_round
              case rel => exact ⟨j + 1, by omega, by go_num⟩
              case measure => simp [intOf]; omega
            · have hjk : decide (j < slN c) = false := decide_eq_false hjn
              have HK := Lib.hid (CyK.start H1.out HALL.out)
              have hne := H1.out.sp.lt gu rfl
              obtain ⟨b, off, A, C, rfl, hb, hrow, hlen, hwf, hzs⟩ := HZ.out k hlt
              have HZS := Lib.hid hzs
              have hrow' : ∀ w' : World, Ext w1 w' → w'.cell? ⟨b, off + k, none⟩ = some (.slice A (l.z k).length C) := fun w' hx => ((HX1.out.trans hx).cell _ _ hb).trans hrow
              have HRW := Lib.hid hrow'
              unfold maxLen at hlen
              clear hzs hwf hrow hrow'
              generalize l.z k = zs at *
              go_wp2_with fail
              clear H1
              go_loopw [16] (fun i wr => ∃ (x : Nat) (M : Nat → Bool), x ≤ 500 ∧ i = .int .i64 x ∧ Hid (CyK w1 wr g c U M q gu w3.heap.size (fun k => k = gu ∨ k = w3.heap.size))) (fun i _ => 500 - (intOf i).toNat)
              case atStart => exact ⟨0, noB, by omega, rfl, HK⟩
              case round =>
                obtain ⟨x, M, hx5, rfl, hM⟩ := hrel
                clear HK
                generalize w3.heap.size = gk at *
                have hrw := HRW.out _ hM.out.sp.sp.ext
                have hne2 : gu ≠ gk := by omega
                by_cases hin : x < zs.length ∧ x < 500
                · obtain ⟨hx1, hx2⟩ := hin
                  obtain ⟨b2, off2, rfl, hb2, hcell⟩ := HZS.out.get hx1 (HX1.out.trans hM.out.sp.sp.ext)
                  generalize zs.getD x 0 = m at *
                  by_cases hm : 0 ≤ m ∧ m < slN c
                  · obtain ⟨m, rfl⟩ : ∃ y : Nat, m = y := ⟨m.toNat, by omega⟩
                    have hmn : m < slN c := by omega
                    have k1 : decide (m < slN c) = true := decide_eq_true hmn
                    clear hm
                    go_wp2_with (first | (go_at_call 14; refine (cy_mark hM.out (by omega) m hmn).mono ?_; rintro r' w5 ⟨rfl, ⟨y, ck⟩, fk, hx, h⟩; have H1 := Lib.hid h; clear h hx hM))
                    go_roundw
                    case rel => exact ⟨x + 1, _, by omega, by go_num, H1⟩
                    case measure => simp [intOf]; omega
                  · have HM := Lib.hid hm
                    have hbb : (decide (0 ≤ m) && decide (m < (slN c : Int))) = false := by
                      by_cases h0 : 0 ≤ m
                      · rw [decide_eq_false (show ¬ m < (slN c : Int) by omega), Bool.and_false]
                      · rw [decide_eq_false h0, Bool.false_and]
                    clear hm
                    by_cases h0 : 0 ≤ m
                    · have k0 : decide (0 ≤ m) = true := decide_eq_true h0
                      have k1 : decide (m < (slN c : Int)) = false := by rw [k0, Bool.true_and] at hbb; exact hbb
                      clear hbb
                      go_wp2_with (first | (go_at_call 14; refine (cy_mark_arg hM.out.sp m HM.out).mono ?_; rintro r' w5 ⟨rfl, rfl⟩))
                      go_roundw
                      case rel => exact ⟨x + 1, _, by omega, by go_num, hM⟩
                      case measure => simp [intOf]; omega
                    · have k0 : decide (0 ≤ m) = false := decide_eq_false h0
                      clear hbb
                      go_wp2_with (first | (go_at_call 14; refine (cy_mark_arg hM.out.sp m HM.out).mono ?_; rintro r' w5 ⟨rfl, rfl⟩))
                      go_roundw
                      case rel => exact ⟨x + 1, _, by omega, by go_num, hM⟩
                      case measure => simp [intOf]; omega
                · have HIN : Hid (¬ (x < zs.length ∧ x < 500)) := Lib.hid hin
                  clear hin
                  by_cases hx1 : x < zs.length
                  · have k1 : decide (x < zs.length) = true := decide_eq_true hx1
                    have k2 : decide ((x : Int) < 500) = false := decide_eq_false (fun h => HIN.out ⟨hx1, by omega⟩)
                    clear HIN
                    go_wp2_with (first | (go_at_call 15; refine (cy_sweep hM.out HT1.out).mono ?_; rintro r' w5 ⟨v, rfl, h⟩; obtain ⟨pf, fcap, rfl⟩ := cyw_form h; obtain ⟨BB, h⟩ : ∃ B, CyW w1 w5 g c M gu gk (fun k => k = gu ∨ k = gk) B (.slice pf (dN M (slN c)) fcap) 0 := ⟨_, h⟩; have H1 := Lib.hid h; clear h hM hrw))
                    go_loopw [21, 22] (fun a i wr => ∃ j : Nat, j ≤ slN c ∧ i = .int .i64 j ∧ a = .int .i64 (dN M j) ∧ Hid (CyW w1 wr g c M gu gk (fun k => k = gu ∨ k = gk) BB (.slice pf (dN M (slN c)) fcap) j)) (fun _ i _ => slN c - (intOf i).toNat)
                    case atStart => exact ⟨0, by omega, rfl, rfl, H1⟩
                    case round =>
                      obtain ⟨j, hj, rfl, rfl, hJ⟩ := hrel
                      clear H1
                      have hd1 := dN_le M j
                      have hd2 := dN_le M (slN c)
                      by_cases hjn : j < slN c
                      · have cj := hJ.out.keepAt hjn
                        cases hMj : M j
                        · rw [hMj] at cj
                          obtain ⟨gf, rfl, hlt2, cf⟩ := cyw_at hJ.out hjn hMj
                          have k5 : decide (dN M (slN c) ≤ dN M j) = false := decide_eq_false (by omega)
                          have cu := bl_cell hJ.out.sp.row j hjn
                          have fu := hJ.out.sp.row.frozen j
                          have H2 := Lib.hid (hJ.out.drop hne2 hjn hMj)
                          have E2 := Lib.hid (dN_drop hMj)
                          clear hMj
                          go_wp2_with fail
                          go_roundw
                          case rel => exact ⟨j + 1, by omega, by go_num, by rw [E2.out]; go_num, H2⟩
                          case measure => simp [intOf]; omega
                        · rw [hMj] at cj
                          have H2 := Lib.hid (hJ.out.skip hMj)
                          have E2 := Lib.hid (dN_keep hMj)
                          clear hMj
                          go_wp2_with fail
                          go_roundw
                          case rel => exact ⟨j + 1, by omega, by go_num, by rw [E2.out], H2⟩
                          case measure => simp [intOf]; omega
                      · obtain rfl : j = slN c := by omega
                        have hrest := dN_rest M (slN c)
                        have hcnt : (slN c : Int) - (dN M (slN c) : Int) = (cntB M (slN c) : Int) := by omega
                        clear hrest
                        go_wp2_with (first | (go_at_call 16; refine (cy_info hJ.out).mono ?_; rintro r' w6 ⟨rfl, h⟩; have H3 := Lib.hid h.next_cycle; clear h))
                        go_roundw
                        case rel => exact ⟨k + 1, M, by omega, by go_num, H3⟩
                        case measure => simp [intOf]; omega
                  · have k1 : decide (x < zs.length) = false := decide_eq_false hx1
                    clear HIN
                    go_wp2_with (first | (go_at_call 15; refine (cy_sweep hM.out HT1.out).mono ?_; rintro r' w5 ⟨v, rfl, h⟩; obtain ⟨pf, fcap, rfl⟩ := cyw_form h; obtain ⟨BB, h⟩ : ∃ B, CyW w1 w5 g c M gu gk (fun k => k = gu ∨ k = gk) B (.slice pf (dN M (slN c)) fcap) 0 := ⟨_, h⟩; have H1 := Lib.hid h; clear h hM hrw))
                    go_loopw [21, 22] (fun a i wr => ∃ j : Nat, j ≤ slN c ∧ i = .int .i64 j ∧ a = .int .i64 (dN M j) ∧ Hid (CyW w1 wr g c M gu gk (fun k => k = gu ∨ k = gk) BB (.slice pf (dN M (slN c)) fcap) j)) (fun _ i _ => slN c - (intOf i).toNat)
                    case atStart => exact ⟨0, by omega, rfl, rfl, H1⟩
                    case round =>
                      obtain ⟨j, hj, rfl, rfl, hJ⟩ := hrel
                      clear H1
                      have hd1 := dN_le M j
                      have hd2 := dN_le M (slN c)
                      by_cases hjn : j < slN c
                      · have cj := hJ.out.keepAt hjn
                        cases hMj : M j
                        · rw [hMj] at cj
                          obtain ⟨gf, rfl, hlt2, cf⟩ := cyw_at hJ.out hjn hMj
                          have k5 : decide (dN M (slN c) ≤ dN M j) = false := decide_eq_false (by omega)
                          have cu := bl_cell hJ.out.sp.row j hjn
                          have fu := hJ.out.sp.row.frozen j
                          have H2 := Lib.hid (hJ.out.drop hne2 hjn hMj)
                          have E2 := Lib.hid (dN_drop hMj)
                          clear hMj
                          go_wp2_with fail
                          go_roundw
                          case rel => exact ⟨j + 1, by omega, by go_num, by rw [E2.out]; go_num, H2⟩
                          case measure => simp [intOf]; omega
                        · rw [hMj] at cj
                          have H2 := Lib.hid (hJ.out.skip hMj)
                          have E2 := Lib.hid (dN_keep hMj)
                          clear hMj
                          go_wp2_with fail
                          go_roundw
                          case rel => exact ⟨j + 1, by omega, by go_num, by rw [E2.out], H2⟩
                          case measure => simp [intOf]; omega
                      · obtain rfl : j = slN c := by omega
                        have hrest := dN_rest M (slN c)
                        have hcnt : (slN c : Int) - (dN M (slN c) : Int) = (cntB M (slN c) : Int) := by omega
                        clear hrest
                        go_wp2_with (first | (go_at_call 16; refine (cy_info hJ.out).mono ?_; rintro r' w6 ⟨rfl, h⟩; have H3 := Lib.hid h.next_cycle; clear h))
                        go_roundw
                        case rel => exact ⟨k + 1, M, by omega, by go_num, H3⟩
                        case measure => simp [intOf]; omega
    · obtain rfl : k = l.len := by omega
      have HXk := Lib.hid (HX1.out.trans hR.out.sp.ext)
      go_wp2_with (go_at_call 10; refine (awake_any _ (HT.out.later HXk.out)).mono ?_; rintro r w4 ⟨rfl, hx⟩; have HX := Lib.hid (HXk.out.trans hx); clear hx)
      go_ret
      exact ⟨rfl, HX.out⟩

end Go.Proofs.YticaamdghjfifaaDoor
