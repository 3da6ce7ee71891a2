/- The walk of SpanManual, in range. -/
import Derived.Test.YticaamdghjfifaaDoorMan
import Derived.Test.YticaamdghjfifaaDoorZs
namespace Go.Proofs.YticaamdghjfifaaDoor
open Go.RowKit
set_option linter.unusedVariables false

theorem bool_info : (Tryd.prog.info? 4).map (fun i => (i.zero, i.size, i.bytes)) = some (some (.bool false), 1, 1) := by kernel_rfl

theorem make_bools (n : Nat) (hn : n ≤ 1099511627776) (w : World) : (Instr.makeSlice 34 (.int .i64 n) (.int .i64 n)).run Tryd.prog w = .ok (.slice (some ⟨w.heap.size, 0, none⟩) n n) (w.alloc (.cells (bl (fun _ => false) n) 4)) := by
  obtain ⟨i0, hi, hz0, hz1, hz2⟩ := info_parts bool_info
  have := run_make (P := Tryd.prog) w 34 4 i0 _ Tryd.underlying34 hi hz0 .i64 .i64 n n (by omega) (by omega) (by rw [hz2]; omega) (by omega)
  rw [hz1] at this
  simp only [Int.toNat_natCast] at this
  rwa [bl_made] at this

set_option maxRecDepth 20000 in
set_option maxHeartbeats 4000000 in
theorem manual_in (e n : Nat) (p : Option Addr) (cap : Nat) (zs : List Int) (W : World) (ht : TzAt W) (h1 : 512 ≤ e) (h2 : e ≤ 32768) (hn : 32768 / e = n) (hl : zs.length ≤ 200) (hz : ZsAt W .i64 p zs) :
    Calls Tryd.prog 6 #[.int .i64 e, .slice p zs.length cap] W fun r w' => r = .returned (.bool true) ∧ Ext W w' := by
  have HT := Lib.hid ht
  have HZ := Lib.hid hz
  have HN := Lib.hid (ma_new e n W h1 h2 hn)
  have hn64 : n ≤ 64 := by rw [← hn]; exact Nat.le_trans (Nat.div_le_div_left h1 (by omega)) (by decide)
  have hN : (32768 : Int) / (e : Int) = (n : Int) := by rw [← hn]; rfl
  have hmk := make_bools n (by omega)
  have hf2 : ∀ (q0 q1 q2 : Int) (w : World), (Instr.field 43 (.agg #[.int .u64 327680, .int .i64 4, .int .i64 2, .int .i64 0, .bool false, .int .i64 q0, .int .i64 q1, .int .i64 q2, .bool false, .bool false]) 2).run Tryd.prog w = .ok (.int .i64 2) w := fun _ _ _ _ => by kernel_rfl
  have hf6 : ∀ (q0 q1 q2 : Int) (w : World), (Instr.field 43 (.agg #[.int .u64 327680, .int .i64 4, .int .i64 2, .int .i64 0, .bool false, .int .i64 q0, .int .i64 q1, .int .i64 q2, .bool false, .bool false]) 6).run Tryd.prog w = .ok (.int .i64 q1) w := fun _ _ _ _ => by kernel_rfl
  clear ht hz hn
  go_enter Tryd.func6, Tryd.ntmps6
  go_wp2_with (first | (go_at_call 20; refine HN.out.mono ?_; rintro r w1 ⟨g, rfl, h, hx⟩; have H0 := Lib.hid h; clear h; have hxs := hx.size; clear hx))
  generalize w1.heap.size = gu at *
  rw [hN]
  go_loopw [9] (fun i wr => ∃ (k : Nat) (U : Nat → Bool), k ≤ zs.length ∧ i = .int .i64 k ∧ Hid (MaS W wr g gu e n U)) (fun i _ => zs.length - (intOf i).toNat)
  case atStart => exact ⟨0, fun _ => false, by omega, rfl, H0⟩
  case round =>
    obtain ⟨k, U, hk, rfl, hR⟩ := hrel
    clear H0 HN hN hmk
    by_cases hlt : k < zs.length
    · obtain ⟨b, off, rfl, hb, hc⟩ := HZ.out.get hlt hR.out.ext
      have HC := Lib.hid (fun (w' : World) (hx : Ext W w') => (HZ.out.at_ hlt hx).2)
      generalize zs.getD k 0 = z at *
      by_cases hz0 : 0 ≤ z
      · obtain ⟨m, rfl⟩ : ∃ m : Nat, z = m := ⟨z.toNat, by omega⟩
        by_cases hm : n ≤ m
        · have k1 : decide (n ≤ m) = true := decide_eq_true hm
          have k2 : decide (m < n) = false := decide_eq_false (by omega)
          go_wp2_with (first | (go_at_call 21; refine (ma_arg hR.out m (by omega)).mono ?_; rintro r w2 ⟨rfl, rfl⟩))
          go_roundw
          case rel => exact ⟨k + 1, U, by omega, by go_num, hR⟩
          case measure => simp [intOf]; omega
        · have k1 : decide (n ≤ m) = false := decide_eq_false hm
          have k2 : decide (m < n) = true := decide_eq_true (by omega)
          have hmn : m < n := by omega
          cases hu : U m
          · have cu := hR.out.cell m hmn
            have fu := hR.out.row.frozen m
            rw [hu] at cu
            have HU := Lib.hid hu
            have HS := Lib.hid (hR.out.nothing m hmn hu)
            clear hu
            go_wp2_with (first | (go_at_call 21; refine (ma_free hR.out m hmn HU.out).mono ?_; rintro r w2 ⟨rfl, rfl⟩))
            go_roundw
            case rel => exact ⟨k + 1, U, by omega, by go_num, HS⟩
            case measure => simp [intOf]; omega
          · have HU := Lib.hid hu
            clear hu
            go_wp2_with (first | (go_at_call 21; refine (ma_give hR.out m hmn HU.out).mono ?_; rintro r w2 ⟨rfl, hx, cu, fu, hS⟩; have HS := Lib.hid hS; clear hS; have hc := HC.out _ hx; clear hx))
            go_roundw
            case rel => exact ⟨k + 1, clrB U m 1, by omega, by go_num, HS⟩
            case measure => simp [intOf]; omega
      · have k0 : decide (0 ≤ z) = false := decide_eq_false hz0
        go_wp2_with fail
        obtain ⟨wo, rfl⟩ : ∃ wo : World, wo = wr := ⟨_, rfl⟩
        go_loop [11] (fun v => ∃ q : Nat, q ≤ n ∧ v = .int .i64 q ∧ Hid (∀ j, j < q → U j = true)) (fun v => n - (intOf v).toNat)
        case atStart => exact ⟨0, by omega, rfl, Lib.hid fun j hj => by omega⟩
        case round =>
          obtain ⟨q, hq, rfl, HA⟩ := hrel
          by_cases hqn : q < n
          · have k1 : decide (q < n) = true := decide_eq_true hqn
            have cq := hR.out.cell q hqn
            cases hu : U q
            · rw [hu] at cq
              have HU := Lib.hid hu
              clear hu
              have k2 : ((q : Int) == n) = false := beq_eq_false_iff_ne.2 (by omega)
              go_wp2_with (first | (go_at_call 12; refine (ma_next hR.out HT.out q hqn HU.out HA.out).mono ?_; rintro r w2 ⟨rfl, hx, fu, ⟨x, cu⟩, hS⟩; have HS := Lib.hid hS; clear hS hx))
              go_roundw
              case rel => exact ⟨k + 1, setB U q 1, by omega, by go_num, HS⟩
              case measure => simp [intOf]; omega
            · rw [hu] at cq
              have HA2 := Lib.hid (show ∀ j, j < q + 1 → U j = true from fun j hj => by
                by_cases e : j = q
                · rw [e, hu]
                · exact HA.out j (by omega))
              clear hu
              go_wp2_with fail
              go_round
              case rel => exact ⟨q + 1, by omega, by go_num, HA2⟩
              case measure => simp [intOf]; omega
          · obtain rfl : q = n := by omega
            have k1 : decide (q < q) = false := decide_eq_false hqn
            go_wp2_with (first | (go_at_call 12; refine (ma_full hR.out HT.out hn64 HA.out).mono ?_; rintro r w2 ⟨rfl, hS⟩; have HS := Lib.hid hS; clear hS))
            go_roundw
            case rel => exact ⟨k + 1, U, by omega, by go_num, HS⟩
            case measure => simp [intOf]; omega
    · obtain rfl : k = zs.length := by omega
      go_wp2_with (first
        | (go_at_call 15; refine (ma_sweep hR.out).mono ?_; rintro r w2 ⟨rfl, rfl⟩)
        | (go_at_call 14; refine (ma_mark hR.out 0).mono ?_; rintro r w2 ⟨rfl, rfl⟩)
        | (go_at_call 16; refine (ma_info hR.out).mono ?_; rintro r w2 ⟨rfl, hS⟩; have H1 := Lib.hid hS; clear hS)
        | (go_at_call 16; refine (ma_info H1.out).mono ?_; rintro r w3 ⟨rfl, hS⟩; have H2 := Lib.hid hS; clear hS)
        | (go_at_call 10; refine (awake_any _ (HT.out.later H2.out.ext)).mono ?_; rintro r w4 ⟨rfl, hx⟩; have HX := Lib.hid (H2.out.ext.trans hx); clear hx))
      go_ret
      exact ⟨rfl, HX.out⟩

set_option maxRecDepth 20000 in
set_option maxHeartbeats 2000000 in
theorem manual_out (e : Int) (p : Option Addr) (n cap : Nat) (W : World) (hn : n ≤ 9223372036854775807) (h : ¬ (512 ≤ e ∧ e ≤ 32768 ∧ n ≤ 200)) :
    Calls Tryd.prog 6 #[.int .i64 e, .slice p n cap] W fun r w' => r = .returned (.bool true) ∧ Ext W w' := by
  by_cases h1 : e < 512
  · have k1 : decide (e < 512) = true := decide_eq_true h1
    clear h
    go_enter Tryd.func6, Tryd.ntmps6
    go_wp2
    go_ret
    exact ⟨rfl, Ext.refl _⟩
  have k1 : decide (e < 512) = false := decide_eq_false h1
  by_cases h2 : 32768 < e
  · have k2 : decide (32768 < e) = true := decide_eq_true h2
    clear h
    go_enter Tryd.func6, Tryd.ntmps6
    go_wp2
    go_ret
    exact ⟨rfl, Ext.refl _⟩
  have k2 : decide (32768 < e) = false := decide_eq_false h2
  have k3 : 200 < n := by omega
  clear h
  go_enter Tryd.func6, Tryd.ntmps6
  go_wp2
  go_ret
  exact ⟨rfl, Ext.refl _⟩

theorem walk_SpanManual (e : Int) (w0 : (Lit.int .i64 e).wf = true) (v : Value) (zs : List Int) (W : World) (hz : ZsIn W .i64 v zs) (ht : TzAt W) : Calls Tryd.prog 6 #[.int .i64 e, v] W fun r w' => r = .returned (.bool true) ∧ Ext W w' := by
  obtain ⟨p, cap, rfl, hzs, hl⟩ := hz.open_
  by_cases h : 512 ≤ e ∧ e ≤ 32768 ∧ zs.length ≤ 200
  · obtain ⟨k, rfl⟩ : ∃ k : Nat, e = k := ⟨e.toNat, by omega⟩
    exact manual_in k _ p cap zs W ht (by omega) (by omega) rfl h.2.2 hzs
  · exact manual_out e p zs.length cap W hl h

end Go.Proofs.YticaamdghjfifaaDoor
