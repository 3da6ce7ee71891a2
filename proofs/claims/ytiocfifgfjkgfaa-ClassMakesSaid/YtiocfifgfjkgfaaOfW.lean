/- The contracts of sort.Search over the closure of Of, of class.Of, class.Round and awake. -/
import Derived.Test.YtiocfifgfjkgfaaTabW
namespace Go.Proofs.Ytiocfifgfjkgfaa
open Go.RowKit
set_option linter.unusedVariables false

theorem not_yes {s z : Int} (h : ¬ s ≤ z) : decide (s ≤ z) = false := decide_eq_false h

set_option maxHeartbeats 1000000 in
theorem search_any (g cap L S : Nat) (s : Int) (w : World) (ht : TabAt w g) (hL : w.cell? ⟨L, 0, none⟩ = some (.slice (some ⟨g, 0, none⟩) 68 cap)) (hS : w.cell? ⟨S, 0, none⟩ = some (.int .i64 s)) (hs : s ≤ 32768) :
    Calls Try.prog 24 #[.int .i64 67, .func (Fn.func 25) #[] #[.pointer (some ⟨L, 0, none⟩), .pointer (some ⟨S, 0, none⟩)]] w fun r w' => r = .returned (.int .i64 (ofV s)) ∧ ∃ n, w' = w.drewN n := by
  have HC := Lib.hid (fun (h : Nat) (n : Nat) (hh : h < 67) => closure_any g cap L S s h (w.drewN n) ⟨ht.lt, ht.all⟩ hL hS hh)
  clear ht hL hS
  go_enter Try.func24, Try.ntmps24
  go_wp2
  go_loopw [5, 6] (fun a b wr => ∃ (i j n : Nat), i ≤ j ∧ j ≤ 67 ∧ a = .int .i64 i ∧ b = .int .i64 j ∧ wr = w.drewN n ∧ Hid (∀ h, h < i → sz (h + 1) < s) ∧ Hid (s ≤ sz (j + 1) ∨ j = 67)) (fun a b _ => ((intOf b) - (intOf a)).toNat)
  case atStart => exact ⟨0, 67, 0, by omega, by omega, rfl, rfl, rfl, Lib.hid (by intro h hh; omega), Lib.hid (.inr rfl)⟩
  case round =>
    obtain ⟨i, j, n, hij, hj, rfl, rfl, rfl, hlo, hhi⟩ := hrel
    by_cases hlt : i < j
    · have hq : ((i : Int) + (j : Int)) / 2 = (((i + j) / 2 : Nat) : Int) := by omega
      have HQ := Lib.hid hq
      have m1 : i ≤ (i + j) / 2 := by omega
      have m2 : (i + j) / 2 < j := by omega
      clear hq
      go_wp2_with fail
      rw [HQ.out]
      generalize (i + j) / 2 = h at *
      by_cases hc : s ≤ sz (h + 1)
      · refine (HC.out h n (by omega)).mono ?_
        rintro e w1 ⟨rfl, nq, rfl⟩
        rw [decide_eq_true hc]
        have HH : Hid (s ≤ sz (h + 1) ∨ h = 67) := Lib.hid (.inl hc)
        clear hc HQ hhi
        go_wp2
        go_roundw
        case rel => exact ⟨i, h, n + nq, by omega, by omega, rfl, rfl, by first | rfl | rw [World.drewN_drewN], hlo, HH⟩
        case measure => simp [intOf]; omega
      · refine (HC.out h n (by omega)).mono ?_
        rintro e w1 ⟨rfl, nq, rfl⟩
        rw [decide_eq_false hc]
        have HH : Hid (∀ k, k < h + 1 → sz (k + 1) < s) := Lib.hid (fun k hk => by
          by_cases e : k = h
          · subst e; omega
          · have := sz_mono (i := k + 1) (j := h + 1) (by omega) (by omega)
            omega)
        clear hc HQ hlo
        go_wp2
        go_roundw
        case rel => exact ⟨h + 1, j, n + nq, by omega, by omega, by go_num, rfl, by first | rfl | rw [World.drewN_drewN], HH, hhi⟩
        case measure => simp [intOf]; omega
    · obtain rfl : i = j := by omega
      have HE : Hid (ofV s = i) := Lib.hid (by
        by_cases e : i = 67
        · exfalso
          have := hlo.out 66 (by omega)
          rw [sz_last] at this
          omega
        · exact of_is hs (by omega) (by rcases hhi.out with h | h; exact h; omega) hlo.out)
      go_wp2
      go_ret
      exact ⟨by rw [HE.out]; rfl, n, rfl⟩

theorem of_no (s : Int) (w : World) (h : s < 0 ∨ 32768 < s) : Calls Try.prog 14 #[.int .i64 s] w fun r w' => r = .returned (.tuple #[.int .i64 0, .int .i64 1]) ∧ Ext w w' := by
  rcases h with h | h
  · go_enter Try.func14, Try.ntmps14
    go_wp2
    go_ret2
    exact ⟨rfl, (Ext.refl _).alloc _ _⟩
  · go_enter Try.func14, Try.ntmps14
    go_wp2
    go_ret2
    exact ⟨rfl, (Ext.refl _).alloc _ _⟩

set_option maxHeartbeats 1000000 in
theorem of_yes (s : Int) (w : World) (h0 : 0 ≤ s) (h1 : s ≤ 32768) : Calls Try.prog 14 #[.int .i64 s] w fun r w' => r = .returned (.tuple #[.int .i64 ((ofV s : Int) + 1), .int .i64 0]) ∧ Ext w w' := by
  have hof := (of_spec h1).1
  go_enter Try.func14, Try.ntmps14
  go_wp2_with fail
  refine (table_any _).mono ?_
  rintro r w1 hp
  obtain ⟨v, rfl, ho, hx⟩ := hp
  obtain ⟨g, cap, rfl, hb, hc, hm, ht⟩ := tab_open ho
  have hS := (hx.cell w.heap.size 0 (by simp)).trans (show (w.alloc (.cells #[.int .i64 s] 3)).cell? ⟨w.heap.size, 0, none⟩ = some (.int .i64 s) by simp)
  have hsz := hx.size
  have HX := Lib.hid (((Ext.refl w).alloc _ _).trans hx)
  have HT := Lib.hid ht
  have hz : w.heap.size < w1.heap.size := by simp at hsz; omega
  have hne : w.heap.size ≠ w1.heap.size := by omega
  clear ho hx ht hsz
  go_wp2_with fail
  refine (search_any g cap w1.heap.size w.heap.size s _ (HT.out.ext ((Ext.refl _).alloc _ _)) (by simp) ((((Ext.refl w1).alloc _ _).cell _ _ hz).trans hS) h1).mono ?_
  rintro r w2 ⟨rfl, n, rfl⟩
  go_wp2
  go_ret2
  exact ⟨by simp [Int.add_comm], (HX.out.alloc _ _).drewN _⟩

theorem round_long (n : Int) (w : World) (h : 1099511627776 < n) (h2 : n ≤ 18446744073709551615) : Calls Try.prog 16 #[.int .u64 n] w fun r w' => r = .returned (.tuple #[.int .u64 0, .int .i64 2]) ∧ w = w' := by
  go_enter Try.func16, Try.ntmps16
  go_wp2
  go_ret2
  exact ⟨rfl, rfl⟩

theorem round_big (n : Int) (w : World) (h : 32768 < n) (h2 : n ≤ 1099511627776) : Calls Try.prog 16 #[.int .u64 n] w fun r w' => r = .returned (.tuple #[.int .u64 (upV n 8192), .int .i64 0]) ∧ w = w' := by
  go_enter Try.func16, Try.ntmps16
  go_wp2_with (go_at_call 26; refine (up_any n 8192 _ (by omega) (by omega) (by omega) (by omega)).mono ?_; rintro e w' ⟨rfl, rfl⟩)
  go_ret2
  exact ⟨rfl, rfl⟩

theorem round_small (n : Int) (w : World) (h0 : 0 ≤ n) (h : n ≤ 32768) : Calls Try.prog 16 #[.int .u64 n] w fun r w' => r = .returned (.tuple #[.int .u64 (sz (ofV n + 1)), .int .i64 0]) ∧ Ext w w' := by
  obtain ⟨hof, -, -⟩ := of_spec h
  have hp := sz_pos (i := ofV n + 1) (by omega) (by omega)
  have hl := sz_le (i := ofV n + 1) (by omega)
  have hi : (ofV n : Int) + 1 < 68 := by omega
  go_enter Try.func16, Try.ntmps16
  go_wp2_with fail
  refine (of_yes n _ h0 h).mono ?_
  rintro r w1 ⟨rfl, hx⟩
  have HX := Lib.hid hx
  clear hx
  go_wp2_with fail
  refine (table_any _).mono ?_
  rintro r w2 hp2
  obtain ⟨v, rfl, ho, hx⟩ := hp2
  obtain ⟨g, cap, rfl, hb, hc, hm, ht⟩ := tab_open ho
  have hcell := ht.a (ofV n + 1) (by omega)
  have HX2 := Lib.hid (HX.out.trans hx)
  clear ho hx ht
  generalize hz : sz (ofV n + 1) = z at *
  have HZ := Lib.hid hz
  clear hz
  go_wp2
  go_ret2
  exact ⟨by rw [HZ.out]; rfl, HX2.out⟩

set_option maxHeartbeats 1000000 in
theorem awake_any (w : World) : Calls Try.prog 13 #[] w fun r w' => r = .returned (.bool true) ∧ Ext w w' := by
  have e1 : ofV 33 = 4 := by decide +kernel
  have e2 : upV 32769 8192 = 40960 := by decide +kernel
  have E1 := Lib.hid e1
  have E2 := Lib.hid e2
  clear e1 e2
  go_enter Try.func13, Try.ntmps13
  go_wp2_with fail
  refine (of_yes 33 _ (by omega) (by omega)).mono ?_
  rintro r w1 ⟨rfl, hx⟩
  rw [E1.out]
  have HX := Lib.hid hx
  clear hx
  go_wp2_with fail
  refine (table_any _).mono ?_
  rintro r w2 hp2
  obtain ⟨v, rfl, ho, hx⟩ := hp2
  obtain ⟨g, cap, rfl, hb, hc, hm, ht⟩ := tab_open ho
  have c0 : w2.cell? ⟨g, 20, none⟩ = some (.int .i64 48) := (ht.all 20 (by omega)).trans (by kernel_rfl)
  have c1 : w2.cell? ⟨g, 21, none⟩ = some (.int .i64 1) := (ht.all 21 (by omega)).trans (by kernel_rfl)
  have c2 : w2.cell? ⟨g, 22, none⟩ = some (.int .i64 170) := (ht.all 22 (by omega)).trans (by kernel_rfl)
  have c3 : w2.cell? ⟨g, 23, none⟩ = some (.int .u32 89478486) := (ht.all 23 (by omega)).trans (by kernel_rfl)
  have HX2 := Lib.hid (HX.out.trans hx)
  clear ho hx ht
  go_wp2_with fail
  refine (round_big 32769 _ (by omega) (by omega)).mono ?_
  rintro r w3 ⟨rfl, rfl⟩
  rw [E2.out]
  go_wp2
  go_ret
  exact ⟨rfl, HX2.out⟩

end Go.Proofs.Ytiocfifgfjkgfaa
