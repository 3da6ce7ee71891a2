/- A span of class 0; what the reference's New and Manual answer. -/
import Derived.Test.YticaamdghjfifaaDoorSNew
import Derived.Test.YticaamdghjfifaaDoorRf
import Derived.Test.YticaamdghjfifaaDoorRMake
import Derived.Test.YticaamdghjfifaaDoorTable
namespace Go.Proofs.YticaamdghjfifaaDoor
open Go.RowKit
set_option linter.unusedVariables false

theorem rtable_any (w : World) : Calls Tryd.prog 37 #[.int .i64 8192, .int .i64 32768] w fun r w' => ∃ v, r = .returned (.tuple #[v, .int .i64 0]) ∧ w'.ownsRow w.heap.size 33 4 v 68 (cls tabC) ∧ Ext w w' := by
  have hok : makeOk 8192 32768 = true := by decide +kernel
  have hp : Hid (powB 8192 = true) := Lib.hid (by decide +kernel)
  have hm : Hid (powB 32768 = true) := Lib.hid (by decide +kernel)
  refine (rmake_yes 8192 32768 w hok (by omega) (by omega) (by omega) (by omega) hp hm).mono ?_
  rintro r w1 ⟨v, rfl, ho, hx⟩
  rw [table_is, tab_len] at ho
  exact ⟨v, rfl, ho, hx⟩

theorem tab_zero : szN 0 = 0 ∧ pgN 0 = 0 ∧ slN 0 = 0 ∧ mgN 0 = 0 := by decide +kernel

set_option maxRecDepth 20000 in
set_option maxHeartbeats 2000000 in
theorem new_zero (page pages : Nat) (noptr : Bool) (w : World) (h1 : 0 < pages) (h2 : pages ≤ 134217728) (h3 : page + pages ≤ 34359738368) :
    Calls Tryd.prog 11 #[.int .u64 page, .int .u64 pages, .int .i64 0, .bool noptr] w fun r w' => ∃ g, r = .returned (.tuple #[.pointer (some ⟨g, 0, none⟩), .int .i64 0]) ∧ w.heap.size ≤ g ∧ SpanIs w' g (· = g) (sZero page pages noptr) (fun _ => false) (fun _ => false) ∧ Ext w w' := by
  obtain ⟨z1, z2, z3, z4⟩ := tab_zero
  have HF := Lib.hid (fit_zero page pages noptr h1 h2 h3)
  have HN := Lib.hid (show ∀ w' : World, SpanIs (w'.alloc (.cells #[.int .u64 ((page * 8192 : Nat) : Int), .int .i64 pages, .int .i64 1, .int .i64 0, .bool noptr, .int .i64 ((pages * 8192 : Nat) : Int), .int .i64 1, .int .i64 0, .bool false, .bool false, .int .u32 0, .slice none 0 0, .slice none 0 0, .int .i64 0] 70)) w'.heap.size (· = w'.heap.size) (sZero page pages noptr) (fun _ => false) (fun _ => false) from fun w' => span_new w' 70 (sZero page pages noptr) HF.out)
  have e0 : ((page * 8192 : Nat) : Int) = (page : Int) * 8192 := by omega
  have e1 : ((pages * 8192 : Nat) : Int) = (pages : Int) * 8192 := by omega
  rw [e0, e1] at HN
  have HR := Lib.hid (tabN_all 0 (by omega))
  rw [z1, z2, z3, z4] at HR
  have k1 : ((pages : Int) == 0) = false := beq_eq_false_iff_ne.2 (by omega)
  have k2 : decide (34359738368 < page) = false := decide_eq_false (by omega)
  have k3 : decide ((34359738368 : Int) - page < pages) = false := decide_eq_false (by omega)
  have k4 : decide (134217728 < pages) = false := decide_eq_false (by omega)
  clear e0 e1 z1 z2 z3 z4
  go_enter Tryd.func11, Tryd.ntmps11
  go_wp2_with (go_at_call 9; refine (table_any _).mono ?_; rintro r w1 ⟨v, rfl, ho, hx⟩; obtain ⟨g, cap, rfl, hBg, hcap, hcm, hT⟩ := tab_open ho; obtain ⟨t0, t1, t2, t3⟩ := hT.row 0 (by omega); rw [HR.out.1] at t0; rw [HR.out.2.1] at t1; rw [HR.out.2.2.1] at t2; rw [HR.out.2.2.2] at t3; have HX := Lib.hid hx; have hgl := hT.lt; clear hx ho hT HR)
  have hN := HN.out w1
  have HM := Lib.hid (hN.later (Ext.refl _).drew)
  clear hN HN
  refine wp_region_head 23 (by kernel_rfl) (by kernel_rfl) ?_
  simp only [List.take_succ_cons, List.take_zero, List.drop_succ_cons, List.drop_zero]
  repeat (go_big_quiet_step (fail))
  refine wpQuiet_nil ?_
  go_wp2_with fail
  go_ret2
  exact ⟨w1.heap.size, rfl, HX.out.size, HM.out, (HX.out.alloc _ _).drew⟩

/-! ### right -/
set_option maxHeartbeats 800000 in
theorem right_yes (p q : Int) (w : World) (p0 : 0 ≤ p) (h : RightP p q) : Calls Tryd.prog 36 #[.int .u64 p, .int .u64 q] w fun r w' => r = .returned (.bool true) ∧ w = w' := by
  obtain ⟨h1, h2, h3⟩ := h
  have k1 : decide (0 < q) = true := decide_eq_true h1
  have k2 : decide (q ≤ 134217728) = true := decide_eq_true h2
  have k3 : decide (p ≤ 34359738368) = true := decide_eq_true (by omega)
  have k4 : decide (q ≤ 34359738368 - p) = true := decide_eq_true (by omega)
  have hp : p ≤ 34359738368 := by omega
  clear h3
  go_enter Tryd.func36, Tryd.ntmps36
  go_wp2
  go_ret
  exact ⟨rfl, rfl⟩
set_option maxHeartbeats 1600000 in
theorem right_no (p q : Int) (w : World) (p0 : 0 ≤ p) (p1 : p ≤ 18446744073709551615) (q0 : 0 ≤ q) (q1 : q ≤ 18446744073709551615) (h : ¬ RightP p q) : Calls Tryd.prog 36 #[.int .u64 p, .int .u64 q] w fun r w' => r = .returned (.bool false) ∧ w = w' := by
  have H := Lib.hid h
  clear h
  by_cases h1 : 0 < q
  · have k1 : decide (0 < q) = true := decide_eq_true h1
    by_cases h2 : q ≤ 134217728
    · have k2 : decide (q ≤ 134217728) = true := decide_eq_true h2
      by_cases h3 : p ≤ 34359738368
      · have k3 : decide (p ≤ 34359738368) = true := decide_eq_true h3
        have k4 : decide (q ≤ 34359738368 - p) = false := decide_eq_false fun hh => H.out ⟨h1, h2, by omega⟩
        go_enter Tryd.func36, Tryd.ntmps36
        go_wp2
        go_ret
        exact ⟨rfl, rfl⟩
      · have k3 : decide (p ≤ 34359738368) = false := decide_eq_false h3
        clear h3
        go_enter Tryd.func36, Tryd.ntmps36
        go_wp2
        go_ret
        exact ⟨rfl, rfl⟩
    · have k2 : decide (q ≤ 134217728) = false := decide_eq_false h2
      clear h2
      go_enter Tryd.func36, Tryd.ntmps36
      go_wp2
      go_ret
      exact ⟨rfl, rfl⟩
  · have k1 : decide (0 < q) = false := decide_eq_false h1
    clear h1
    go_enter Tryd.func36, Tryd.ntmps36
    go_wp2
    go_ret
    exact ⟨rfl, rfl⟩

end Go.Proofs.YticaamdghjfifaaDoor
