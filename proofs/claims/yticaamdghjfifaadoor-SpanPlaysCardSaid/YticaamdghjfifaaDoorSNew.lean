/- What span.New and span.Manual refuse; a span of class 0. -/
import Derived.Test.YticaamdghjfifaaDoorNew
import Derived.Test.YticaamdghjfifaaDoorSpan4
namespace Go.Proofs.YticaamdghjfifaaDoor
open Go.RowKit
set_option linter.unusedVariables false

def RightP (p q : Int) : Prop := 0 < q ∧ q ≤ 134217728 ∧ p + q ≤ 34359738368
def NewOk (p q c : Int) : Prop := RightP p q ∧ 0 ≤ c ∧ c ≤ 67 ∧ (0 < c → q = (pgN c.toNat : Int))
def ManOk (p q e : Int) : Prop := RightP p q ∧ 8 ≤ e ∧ e ≤ q * 8192

set_option maxRecDepth 20000 in
set_option maxHeartbeats 8000000 in
theorem new_no (p q c : Int) (np : Bool) (w : World) (p0 : 0 ≤ p) (p1 : p ≤ 18446744073709551615) (q0 : 0 ≤ q) (q1 : q ≤ 18446744073709551615) (hno : ¬ NewOk p q c) :
    Calls Tryd.prog 11 #[.int .u64 p, .int .u64 q, .int .i64 c, .bool np] w fun r w' => r = .returned (.tuple #[.pointer none, .int .i64 1]) ∧ Ext w w' := by
  have HNO := Lib.hid hno
  clear hno
  by_cases h : q = 0
  · have k : ((q : Int) == 0) = true := beq_iff_eq.2 h
    clear h
    go_enter Tryd.func11, Tryd.ntmps11
    go_wp2_with (go_at_call 9; refine (table_any _).mono ?_; rintro r w1 ⟨v, rfl, ho, hx⟩; obtain ⟨g, cap, rfl, hBg, hcap, hcm, hT⟩ := tab_open ho; have HX := Lib.hid hx; clear ho hx hT)
    go_ret2
    exact ⟨rfl, HX.out⟩
  have k0 : ((q : Int) == 0) = false := beq_eq_false_iff_ne.2 h
  have h0 := h
  clear h
  by_cases h : 34359738368 < p
  · have k : decide (34359738368 < p) = true := decide_eq_true h
    clear h
    go_enter Tryd.func11, Tryd.ntmps11
    go_wp2_with (go_at_call 9; refine (table_any _).mono ?_; rintro r w1 ⟨v, rfl, ho, hx⟩; obtain ⟨g, cap, rfl, hBg, hcap, hcm, hT⟩ := tab_open ho; have HX := Lib.hid hx; clear ho hx hT)
    go_ret2
    exact ⟨rfl, HX.out⟩
  have k1 : decide (34359738368 < p) = false := decide_eq_false h
  have h1 := h
  clear h
  by_cases h : 34359738368 - p < q
  · have k : decide (34359738368 - p < q) = true := decide_eq_true h
    clear h
    go_enter Tryd.func11, Tryd.ntmps11
    go_wp2_with (go_at_call 9; refine (table_any _).mono ?_; rintro r w1 ⟨v, rfl, ho, hx⟩; obtain ⟨g, cap, rfl, hBg, hcap, hcm, hT⟩ := tab_open ho; have HX := Lib.hid hx; clear ho hx hT)
    go_ret2
    exact ⟨rfl, HX.out⟩
  have k2 : decide (34359738368 - p < q) = false := decide_eq_false h
  have h2 := h
  clear h
  by_cases h : c < 0
  · have k : decide (c < 0) = true := decide_eq_true h
    clear h
    go_enter Tryd.func11, Tryd.ntmps11
    go_wp2_with (go_at_call 9; refine (table_any _).mono ?_; rintro r w1 ⟨v, rfl, ho, hx⟩; obtain ⟨g, cap, rfl, hBg, hcap, hcm, hT⟩ := tab_open ho; have HX := Lib.hid hx; clear ho hx hT)
    go_ret2
    exact ⟨rfl, HX.out⟩
  have k3 : decide (c < 0) = false := decide_eq_false h
  have h3 := h
  clear h
  by_cases h : 68 ≤ c
  · have k : decide (68 ≤ c) = true := decide_eq_true h
    clear h
    go_enter Tryd.func11, Tryd.ntmps11
    go_wp2_with (go_at_call 9; refine (table_any _).mono ?_; rintro r w1 ⟨v, rfl, ho, hx⟩; obtain ⟨g, cap, rfl, hBg, hcap, hcm, hT⟩ := tab_open ho; have HX := Lib.hid hx; clear ho hx hT)
    go_ret2
    exact ⟨rfl, HX.out⟩
  have k4 : decide (68 ≤ c) = false := decide_eq_false h
  have h4 := h
  clear h
  by_cases h : c = 0
  · have k5 : ((c : Int) == 0) = true := beq_iff_eq.2 h
    have k : decide (134217728 < q) = true := decide_eq_true (by
      refine Classical.byContradiction fun hh => HNO.out ⟨⟨by omega, by omega, by omega⟩, by omega, by omega, fun hc => by omega⟩)
    clear h
    go_enter Tryd.func11, Tryd.ntmps11
    go_wp2_with (go_at_call 9; refine (table_any _).mono ?_; rintro r w1 ⟨v, rfl, ho, hx⟩; obtain ⟨g, cap, rfl, hBg, hcap, hcm, hT⟩ := tab_open ho; have HX := Lib.hid hx; clear ho hx hT)
    go_ret2
    exact ⟨rfl, HX.out⟩
  have k5 : ((c : Int) == 0) = false := beq_eq_false_iff_ne.2 h
  have k6 : decide (0 < c) = true := decide_eq_true (by omega)
  obtain ⟨n, rfl⟩ : ∃ n : Nat, c = n := ⟨c.toNat, by omega⟩
  have hne : q ≠ (pgN n : Int) := fun e => by
    have hf := tabN_fit n (by omega)
    exact HNO.out ⟨⟨by omega, by have := hf.2.1; omega, by omega⟩, by omega, by omega, fun _ => by rw [Int.toNat_natCast]; exact e⟩
  have k7 : ((q : Int) != (pgN n : Int)) = true := bne_iff_ne.2 hne
  have k8 : decide (0 < n) = true := decide_eq_true (by omega)
  have hn0 : 0 < n := by omega
  have hn : n < 68 := by omega
  have hpg := (tabN_fit n hn).2.1
  have HR := Lib.hid (tabN_all n hn)
  clear h hne
  go_enter Tryd.func11, Tryd.ntmps11
  go_wp2_with (go_at_call 9; refine (table_any _).mono ?_; rintro r w1 ⟨v, rfl, ho, hx⟩; obtain ⟨g, cap, rfl, hBg, hcap, hcm, hT⟩ := tab_open ho; obtain ⟨t0, t1, t2, t3⟩ := hT.row n (by omega); rw [HR.out.2.1] at t1; have HX := Lib.hid hx; clear ho hx hT t0 t2 t3)
  go_ret2
  exact ⟨rfl, HX.out⟩

def sZero (page pages : Nat) (noptr : Bool) : Sp := ⟨page * 8192, pages, 1, 0, noptr, pages * 8192, 1, 0, false, false, 0, 0⟩
theorem fit_zero (page pages : Nat) (noptr : Bool) (h1 : 0 < pages) (h2 : pages ≤ 134217728) (h3 : page + pages ≤ 34359738368) : Fit (sZero page pages noptr) :=
  ⟨by show page * 8192 ≤ _; omega, h2, Nat.zero_le _, by show 0 < pages * 8192; omega, by show pages * 8192 ≤ _; omega, by show 1 ≤ _; omega, Nat.zero_le _, Nat.zero_le _, by show 0 < _; omega, by show 1 ≤ 2; omega, by show 1 * (pages * 8192) ≤ _; omega⟩

set_option maxRecDepth 20000 in
set_option maxHeartbeats 4000000 in
theorem manual_no (p q e : Int) (w : World) (p0 : 0 ≤ p) (p1 : p ≤ 18446744073709551615) (q0 : 0 ≤ q) (q1 : q ≤ 18446744073709551615) (e0 : -9223372036854775808 ≤ e) (e1 : e ≤ 9223372036854775807) (hno : ¬ ManOk p q e) :
    Calls Tryd.prog 20 #[.int .u64 p, .int .u64 q, .int .i64 e] w fun r w' => r = .returned (.tuple #[.pointer none, .int .i64 1]) ∧ w = w' := by
  have HNO := Lib.hid hno
  clear hno
  by_cases h : q = 0
  · have k : ((q : Int) == 0) = true := beq_iff_eq.2 h
    clear h
    go_enter Tryd.func20, Tryd.ntmps20
    go_wp2
    go_ret2
    exact ⟨rfl, rfl⟩
  have k0 : ((q : Int) == 0) = false := beq_eq_false_iff_ne.2 h
  have h0 := h
  clear h
  by_cases h : 34359738368 < p
  · have k : decide (34359738368 < p) = true := decide_eq_true h
    clear h
    go_enter Tryd.func20, Tryd.ntmps20
    go_wp2
    go_ret2
    exact ⟨rfl, rfl⟩
  have k1 : decide (34359738368 < p) = false := decide_eq_false h
  have h1 := h
  clear h
  by_cases h : 34359738368 - p < q
  · have k : decide (34359738368 - p < q) = true := decide_eq_true h
    clear h
    go_enter Tryd.func20, Tryd.ntmps20
    go_wp2
    go_ret2
    exact ⟨rfl, rfl⟩
  have k2 : decide (34359738368 - p < q) = false := decide_eq_false h
  have h2 := h
  clear h
  by_cases h : 134217728 < q
  · have k : decide (134217728 < q) = true := decide_eq_true h
    clear h
    go_enter Tryd.func20, Tryd.ntmps20
    go_wp2
    go_ret2
    exact ⟨rfl, rfl⟩
  have k4 : decide (134217728 < q) = false := decide_eq_false h
  have h3 := h
  clear h
  by_cases h : e < 8
  · have k : decide (e < 8) = true := decide_eq_true h
    clear h
    go_enter Tryd.func20, Tryd.ntmps20
    go_wp2
    go_ret2
    exact ⟨rfl, rfl⟩
  have k5 : decide (e < 8) = false := decide_eq_false h
  have h4 := h
  clear h
  have k6 : decide (q * 8192 < e) = true := decide_eq_true (Classical.byContradiction fun hh => HNO.out ⟨⟨by omega, by omega, by omega⟩, by omega, by omega⟩)
  go_enter Tryd.func20, Tryd.ntmps20
  go_wp2
  go_ret2
  exact ⟨rfl, rfl⟩

end Go.Proofs.YticaamdghjfifaaDoor
