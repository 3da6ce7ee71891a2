/- The contracts of the reference's Make elsewhere, of its Of and Round, and of same. -/
import Derived.Test.YtiocfifgfjkgfaaRMake
import Derived.Test.YtiocfifgfjkgfaaOfW
import Derived.Test.YtiocfifgfjkgfaaNumRUp
namespace Go.Proofs.Ytiocfifgfjkgfaa
open Go.RowKit
set_option linter.unusedVariables false

set_option maxRecDepth 100000 in
set_option maxHeartbeats 1000000 in
theorem rmake_no1 (p m : Int) (w : World) (h : p < 1024 ∨ 65536 < p) : Calls Try.prog 9 #[.int .i64 p, .int .i64 m] w fun r w' => r = .returned (.tuple #[.slice none 0 0, .int .i64 1]) ∧ w = w' := by
  rcases h with h | h
  · go_enter Try.func9, Try.ntmps9
    go_wp2_with fail
    go_ret2
    exact ⟨rfl, rfl⟩
  · go_enter Try.func9, Try.ntmps9
    go_wp2_with fail
    go_ret2
    exact ⟨rfl, rfl⟩

set_option maxRecDepth 100000 in
set_option maxHeartbeats 1000000 in
theorem rmake_no2 (p m : Int) (w : World) (h1 : 1024 ≤ p) (h2 : p ≤ 65536) (hp : Hid (powB p = false)) : Calls Try.prog 9 #[.int .i64 p, .int .i64 m] w fun r w' => r = .returned (.tuple #[.slice none 0 0, .int .i64 1]) ∧ w = w' := by
  go_enter Try.func9, Try.ntmps9
  go_wp2_with fail
  refine (rpow_any p _ (by omega) (by omega)).mono ?_
  rintro e w1 ⟨rfl, rfl⟩
  rw [hp.out]
  go_wp2_with fail
  go_ret2
  exact ⟨rfl, rfl⟩

set_option maxRecDepth 100000 in
set_option maxHeartbeats 1000000 in
theorem rmake_no3 (p m : Int) (w : World) (h1 : 1024 ≤ p) (h2 : p ≤ 65536) (hp : Hid (powB p = true)) (h : m < 64 ∨ 4 * p < m) : Calls Try.prog 9 #[.int .i64 p, .int .i64 m] w fun r w' => r = .returned (.tuple #[.slice none 0 0, .int .i64 1]) ∧ w = w' := by
  rcases h with h | h
  · go_enter Try.func9, Try.ntmps9
    go_wp2_with fail
    refine (rpow_any p _ (by omega) (by omega)).mono ?_
    rintro e w1 ⟨rfl, rfl⟩
    rw [hp.out]
    go_wp2_with fail
    go_ret2
    exact ⟨rfl, rfl⟩
  · go_enter Try.func9, Try.ntmps9
    go_wp2_with fail
    refine (rpow_any p _ (by omega) (by omega)).mono ?_
    rintro e w1 ⟨rfl, rfl⟩
    rw [hp.out]
    go_wp2_with fail
    go_ret2
    exact ⟨rfl, rfl⟩

set_option maxRecDepth 100000 in
set_option maxHeartbeats 1000000 in
theorem rmake_no4 (p m : Int) (w : World) (h1 : 1024 ≤ p) (h2 : p ≤ 65536) (hp : Hid (powB p = true)) (h3 : 64 ≤ m) (h4 : m ≤ 4 * p) (hm : Hid (powB m = false)) : Calls Try.prog 9 #[.int .i64 p, .int .i64 m] w fun r w' => r = .returned (.tuple #[.slice none 0 0, .int .i64 1]) ∧ w = w' := by
  go_enter Try.func9, Try.ntmps9
  go_wp2_with fail
  refine (rpow_any p _ (by omega) (by omega)).mono ?_
  rintro e w1 ⟨rfl, rfl⟩
  rw [hp.out]
  go_wp2_with fail
  refine (rpow_any m _ (by omega) (by omega)).mono ?_
  rintro e w1 ⟨rfl, rfl⟩
  rw [hm.out]
  go_wp2_with fail
  go_ret2
  exact ⟨rfl, rfl⟩

theorem rmake_no (p m : Int) (w : World) (h : makeOk p m = false) : Calls Try.prog 9 #[.int .i64 p, .int .i64 m] w fun r w' => r = .returned (.tuple #[.slice none 0 0, .int .i64 1]) ∧ w = w' := by
  by_cases c1 : p < 1024 ∨ 65536 < p
  · exact rmake_no1 p m w c1
  · cases hp : powB p
    · exact rmake_no2 p m w (by omega) (by omega) (Lib.hid hp)
    · by_cases c2 : m < 64 ∨ 4 * p < m
      · exact rmake_no3 p m w (by omega) (by omega) (Lib.hid hp) c2
      · cases hm : powB m
        · exact rmake_no4 p m w (by omega) (by omega) (Lib.hid hp) (by omega) (by omega) (Lib.hid hm)
        · exfalso
          unfold makeOk at h
          rw [hp, hm, decide_eq_true ⟨by omega, by omega⟩, decide_eq_true ⟨by omega, by omega⟩] at h
          cases h

/-- the table as the reference makes it. -/
theorem rtable_any (w : World) : Calls Try.prog 9 #[.int .i64 8192, .int .i64 32768] w fun r w' => ∃ v, r = .returned (.tuple #[v, .int .i64 0]) ∧ w'.ownsRow w.heap.size 30 4 v 68 (cls tabC) ∧ Ext w w' := by
  have hok : makeOk 8192 32768 = true := by decide +kernel
  have hp : Hid (powB 8192 = true) := Lib.hid (by decide +kernel)
  have hm : Hid (powB 32768 = true) := Lib.hid (by decide +kernel)
  refine (rmake_yes 8192 32768 w hok (by omega) (by omega) (by omega) (by omega) hp hm).mono ?_
  rintro r w1 ⟨v, rfl, ho, hx⟩
  rw [table_is, tab_len] at ho
  exact ⟨v, rfl, ho, hx⟩

theorem rof_no (s : Int) (w : World) (h : s < 0 ∨ 32768 < s) : Calls Try.prog 15 #[.int .i64 s] w fun r w' => r = .returned (.tuple #[.int .i64 0, .int .i64 1]) ∧ Ext w w' := by
  rcases h with h | h
  · go_enter Try.func15, Try.ntmps15
    go_wp2
    go_ret2
    exact ⟨rfl, Ext.refl _⟩
  · go_enter Try.func15, Try.ntmps15
    go_wp2
    go_ret2
    exact ⟨rfl, Ext.refl _⟩

set_option maxHeartbeats 1000000 in
theorem rof_yes (s : Int) (w : World) (h0 : 0 ≤ s) (h1 : s ≤ 32768) : Calls Try.prog 15 #[.int .i64 s] w fun r w' => r = .returned (.tuple #[.int .i64 ((ofV s : Int) + 1), .int .i64 0]) ∧ Ext w w' := by
  obtain ⟨hof, hs, hlo⟩ := of_spec h1
  have HLO := Lib.hid hlo
  have HS := Lib.hid hs
  have HK := Lib.hid (show ofV s = ofV s from rfl)
  clear hlo hs
  generalize hq : ofV s = q at *
  have HQ := Lib.hid hq
  clear hq HK
  go_enter Try.func15, Try.ntmps15
  go_wp2_with fail
  refine (rtable_any _).mono ?_
  rintro r w1 ⟨v, rfl, ho, hx⟩
  obtain ⟨g, cap, rfl, hb, hc, hm, ht⟩ := tab_open ho
  have HT := Lib.hid ht
  have HX := Lib.hid hx
  clear ho hx ht
  go_wp2_with fail
  go_loop [6] (fun i => ∃ k : Nat, k ≤ q ∧ i = .int .i64 ((k : Int) + 1)) (fun i => 70 - (intOf i).toNat)
  case atStart => exact ⟨0, Nat.zero_le _, by simp⟩
  case round =>
    obtain ⟨k, hk, rfl⟩ := hrel
    have hc := HT.out.a (k + 1) (by omega)
    have k1 : (k : Int) + 1 < 68 := by omega
    by_cases hlt : k < q
    · have hz := HLO.out k hlt
      generalize sz (k + 1) = z at *
      go_wp2
      go_round
      case rel => exact ⟨k + 1, hlt, by go_num⟩
      case measure => simp [intOf]; omega
    · obtain rfl : k = q := by omega
      have hz := HS.out
      generalize sz (k + 1) = z at *
      go_wp2
      go_ret2
      exact ⟨rfl, HX.out⟩

theorem rround_long (n : Int) (w : World) (h : 1099511627776 < n) (h2 : n ≤ 18446744073709551615) : Calls Try.prog 17 #[.int .u64 n] w fun r w' => r = .returned (.tuple #[.int .u64 0, .int .i64 2]) ∧ Ext w w' := by
  go_enter Try.func17, Try.ntmps17
  go_wp2
  go_ret2
  exact ⟨rfl, Ext.refl _⟩

theorem rround_big (n : Int) (w : World) (h : 32768 < n) (h2 : n ≤ 1099511627776) : Calls Try.prog 17 #[.int .u64 n] w fun r w' => r = .returned (.tuple #[.int .u64 (upV n 8192), .int .i64 0]) ∧ Ext w w' := by
  go_enter Try.func17, Try.ntmps17
  go_wp2_with (go_at_call 27; refine (rup_any n 8192 _ (by omega) (by omega) (by omega) (by omega)).mono ?_; rintro e w' ⟨rfl, rfl⟩)
  go_ret2
  exact ⟨rfl, Ext.refl _⟩

theorem rround_small (n : Int) (w : World) (h0 : 0 ≤ n) (h : n ≤ 32768) : Calls Try.prog 17 #[.int .u64 n] w fun r w' => r = .returned (.tuple #[.int .u64 (sz (ofV n + 1)), .int .i64 0]) ∧ Ext w w' := by
  obtain ⟨hof, -, -⟩ := of_spec h
  have hp := sz_pos (i := ofV n + 1) (by omega) (by omega)
  have hl := sz_le (i := ofV n + 1) (by omega)
  have hi : (ofV n : Int) + 1 < 68 := by omega
  go_enter Try.func17, Try.ntmps17
  go_wp2_with fail
  refine (rtable_any _).mono ?_
  rintro r w1 ⟨v, rfl, ho, hx⟩
  obtain ⟨g, cap, rfl, hb, hc, hm, ht⟩ := tab_open ho
  have HT := Lib.hid ht
  have HX := Lib.hid hx
  clear ho hx ht
  go_wp2_with fail
  refine (rof_yes n _ h0 h).mono ?_
  rintro r w2 ⟨rfl, hx2⟩
  have hcell := (HT.out.ext hx2).a (ofV n + 1) (by omega)
  have HX2 := Lib.hid (HX.out.trans hx2)
  clear hx2
  generalize hz : sz (ofV n + 1) = z at *
  have HZ := Lib.hid hz
  clear hz
  go_wp2
  go_ret2
  exact ⟨by rw [HZ.out]; rfl, HX2.out⟩

end Go.Proofs.Ytiocfifgfjkgfaa
