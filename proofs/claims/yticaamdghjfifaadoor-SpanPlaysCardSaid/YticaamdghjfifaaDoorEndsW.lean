/- The walk of SpanEnds. -/
import Derived.Test.YticaamdghjfifaaDoorEnds
namespace Go.Proofs.YticaamdghjfifaaDoor
open Go.RowKit
set_option linter.unusedVariables false

set_option maxRecDepth 20000 in
set_option maxHeartbeats 4000000 in
theorem ends_in (m e : Nat) (W : World) (ht : TzAt W) (hm : m ≤ 8) (h1 : 8 ≤ e) (h2 : e ≤ 8192) : Calls Tryd.prog 7 #[.int .i64 m, .int .i64 e] W fun r w' => r = .returned (.bool true) ∧ Ext W w' := by
  have HT := Lib.hid ht
  clear ht
  have k1 : decide (8 < m) = false := decide_eq_false (by omega)
  have k2 : decide (e < 8) = false := decide_eq_false (by omega)
  have k3 : decide (8192 < e) = false := decide_eq_false (by omega)
  have hf2 : ∀ (q : Int) (w : World), (Instr.field 43 (.agg #[.int .u64 24576, .int .i64 8, .int .i64 0, .int .i64 0, .bool false, .int .i64 e, .int .i64 q, .int .i64 0, .bool false, .bool false]) 2).run Tryd.prog w = .ok (.int .i64 0) w := fun _ _ => by kernel_rfl
  have hf7 : ∀ (q : Int) (w : World), (Instr.field 43 (.agg #[.int .u64 24576, .int .i64 8, .int .i64 0, .int .i64 0, .bool false, .int .i64 e, .int .i64 q, .int .i64 0, .bool false, .bool false]) 7).run Tryd.prog w = .ok (.int .i64 0) w := fun _ _ => by kernel_rfl
  go_enter Tryd.func7, Tryd.ntmps7
  go_wp2_with (first | (go_at_call 20; refine (en_new e _ h1 h2).mono ?_; rintro r w1 ⟨g, rfl, h⟩; have H0 := Lib.hid h; clear h))
  go_loopw [7] (fun i wr => ∃ k : Nat, k ≤ m ∧ i = .int .i64 k ∧ Hid (EnS W wr g e k)) (fun i _ => m - (intOf i).toNat)
  case atStart => exact ⟨0, by omega, rfl, H0⟩
  case round =>
    obtain ⟨k, hk, rfl, hR⟩ := hrel
    clear H0
    by_cases hkm : k < m
    · go_wp2_with (first | (go_at_call 12; refine (en_next hR.out HT.out (by omega) h1 h2).mono ?_; rintro r w2 ⟨rfl, h⟩; have H1 := Lib.hid h; clear h))
      go_roundw
      case rel => exact ⟨k + 1, by omega, by go_num, H1⟩
      case measure => simp [intOf]; omega
    · obtain rfl : k = m := by omega
      by_cases h0 : k = 0
      · subst h0
        go_wp2_with (first | (go_at_call 22; refine (en_die hR.out).mono ?_; rintro r w2 ⟨rfl, h⟩; have HD := Lib.hid h; clear h hR))
        go_loopw [10] (fun i wr => i = .int .i64 (-1) ∧ Hid (DeS W wr g e)) (fun _ _ => 0)
        case atStart => exact ⟨rfl, HD⟩
        case round =>
          obtain ⟨rfl, HD⟩ := hrel
          go_wp2_with (first
          | (go_at_call 12; refine (aw_next_dead HD.out rfl).mono ?_; rintro r w1 ⟨rfl, rfl⟩)
          | (go_at_call 15; refine (aw_sweep_state HD.out (by show (0 : Nat) ≠ 1; decide)).mono ?_; rintro r w1 ⟨rfl, rfl⟩)
          | (go_at_call 21; refine (aw_give_state HD.out (by show (0 : Nat) ≠ 2; decide) 0).mono ?_; rintro r w1 ⟨rfl, rfl⟩)
          | (go_at_call 14; refine (aw_mark_state HD.out (by show (0 : Nat) ≠ 1; decide) 0).mono ?_; rintro r w1 ⟨rfl, rfl⟩)
          | (go_at_call 22; refine (aw_die_no HD.out (.inl rfl)).mono ?_; rintro r w1 ⟨rfl, rfl⟩)
          | (go_at_call 16; refine (de_info HD.out).mono ?_; rintro r w9 ⟨rfl, hx⟩; have HD2 := Lib.hid (AwS.later HD.out hx); clear hx)
          | (go_at_call 16; refine (de_info HD2.out).mono ?_; rintro r w10 ⟨rfl, hx⟩; have HD3 := Lib.hid (AwS.later HD2.out hx); clear hx)
          | (go_at_call 10; refine (awake_any _ (HT.out.later HD3.out.ext)).mono ?_; rintro r w11 ⟨rfl, hx⟩; have HX := Lib.hid (HD3.out.ext.trans hx); clear hx))
          go_ret
          exact ⟨rfl, HX.out⟩
      · have k5 : ((k : Int) == 0) = false := beq_eq_false_iff_ne.2 (by omega)
        have k6 : decide (0 < k) = true := decide_eq_true (by omega)
        go_wp2_with (first | (go_at_call 22; refine (en_die_no hR.out (by omega)).mono ?_; rintro r w2 ⟨rfl, rfl⟩))
        go_loopw [10] (fun i wr => ∃ d : Nat, d ≤ k ∧ i = .int .i64 ((d : Int) - 1) ∧ Hid (EnS W wr g e d)) (fun i _ => (intOf i + 1).toNat)
        case atStart => exact ⟨k, Nat.le_refl _, rfl, hR⟩
        case round =>
          obtain ⟨d, hd, rfl, hS⟩ := hrel
          clear hR
          cases d with
          | zero =>
            go_wp2_with (first | (go_at_call 22; refine (en_die hS.out).mono ?_; rintro r w2 ⟨rfl, h⟩; have HD := Lib.hid h; clear h hS))
            go_wp2_with (first
            | (go_at_call 12; refine (aw_next_dead HD.out rfl).mono ?_; rintro r w1 ⟨rfl, rfl⟩)
            | (go_at_call 15; refine (aw_sweep_state HD.out (by show (0 : Nat) ≠ 1; decide)).mono ?_; rintro r w1 ⟨rfl, rfl⟩)
            | (go_at_call 21; refine (aw_give_state HD.out (by show (0 : Nat) ≠ 2; decide) 0).mono ?_; rintro r w1 ⟨rfl, rfl⟩)
            | (go_at_call 14; refine (aw_mark_state HD.out (by show (0 : Nat) ≠ 1; decide) 0).mono ?_; rintro r w1 ⟨rfl, rfl⟩)
            | (go_at_call 22; refine (aw_die_no HD.out (.inl rfl)).mono ?_; rintro r w1 ⟨rfl, rfl⟩)
            | (go_at_call 16; refine (de_info HD.out).mono ?_; rintro r w9 ⟨rfl, hx⟩; have HD2 := Lib.hid (AwS.later HD.out hx); clear hx)
            | (go_at_call 16; refine (de_info HD2.out).mono ?_; rintro r w10 ⟨rfl, hx⟩; have HD3 := Lib.hid (AwS.later HD2.out hx); clear hx)
            | (go_at_call 10; refine (awake_any _ (HT.out.later HD3.out.ext)).mono ?_; rintro r w11 ⟨rfl, hx⟩; have HX := Lib.hid (HD3.out.ext.trans hx); clear hx))
            go_ret
            exact ⟨rfl, HX.out⟩
          | succ d =>
            have ed : ((d + 1 : Nat) : Int) - 1 = (d : Int) := by omega
            rw [ed]
            clear ed
            go_wp2_with (first | (go_at_call 21; refine (en_give hS.out (by omega) h1 h2).mono ?_; rintro r w2 ⟨rfl, h⟩; have H1 := Lib.hid h; clear h hS) | (go_at_call 21; refine (en_free H1.out (by omega) h1 h2).mono ?_; rintro r w3 ⟨rfl, rfl⟩))
            go_roundw
            case rel => exact ⟨d, by omega, rfl, H1⟩
            case measure => simp [intOf]

end Go.Proofs.YticaamdghjfifaaDoor
