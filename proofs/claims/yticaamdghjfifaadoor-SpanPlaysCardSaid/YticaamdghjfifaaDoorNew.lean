/- The contract of a span's New, of a class. -/
import Derived.Test.YticaamdghjfifaaDoorSweep2
import Derived.Test.YticaamdghjfifaaDoorTabW
import Derived.Test.YticaamdghjfifaaDoorHead
namespace Go.Proofs.YticaamdghjfifaaDoor
open Go.RowKit
set_option linter.unusedVariables false

def szN (i : Nat) : Nat := (tabC.getD i zeroC).a.toNat
def pgN (i : Nat) : Nat := (tabC.getD i zeroC).b.toNat
def slN (i : Nat) : Nat := (tabC.getD i zeroC).c.toNat
def mgN (i : Nat) : Nat := (tabC.getD i zeroC).d.toNat
theorem tabN_all : ∀ i, i < 68 → (tabC.getD i zeroC).a = (szN i : Int) ∧ (tabC.getD i zeroC).b = (pgN i : Int) ∧ (tabC.getD i zeroC).c = (slN i : Int) ∧ (tabC.getD i zeroC).d = (mgN i : Int) := by decide +kernel
theorem tabN_fit : ∀ i, i < 68 → szN i ≤ 32768 ∧ pgN i ≤ 10 ∧ slN i ≤ 1024 ∧ mgN i < 4294967296 ∧ slN i * szN i ≤ pgN i * 8192 ∧ (1 ≤ i → 8 ≤ szN i ∧ 1 ≤ pgN i ∧ 1 ≤ slN i) := by decide +kernel

def sNew (page c : Nat) (noptr : Bool) : Sp := ⟨page * 8192, pgN c, 1, c, noptr, szN c, slN c, 0, false, false, mgN c, 0⟩

theorem fit_new (page c : Nat) (noptr : Bool) (hc0 : 1 ≤ c) (hc : c ≤ 67) (h3 : page + pgN c ≤ 34359738368) : Fit (sNew page c noptr) := by
  obtain ⟨a1, a2, a3, a4, a5, a6⟩ := tabN_fit c (by omega)
  obtain ⟨b1, b2, b3⟩ := a6 hc0
  exact ⟨by show page * 8192 ≤ _; omega, by show pgN c ≤ _; omega, hc, by show 0 < szN c; omega, by show szN c ≤ _; omega, by show slN c ≤ _; omega, Nat.zero_le _, Nat.zero_le _, a4, by show 1 ≤ 2; omega, by show slN c * szN c ≤ _; omega⟩

set_option maxRecDepth 20000 in
set_option maxHeartbeats 2000000 in
theorem new_yes (page c : Nat) (noptr : Bool) (w : World) (hc0 : 1 ≤ c) (hc : c ≤ 67) (h3 : page + pgN c ≤ 34359738368) :
    Calls Tryd.prog 11 #[.int .u64 page, .int .u64 (pgN c : Nat), .int .i64 c, .bool noptr] w fun r w' => ∃ g, r = .returned (.tuple #[.pointer (some ⟨g, 0, none⟩), .int .i64 0]) ∧ w.heap.size ≤ g ∧ SpanIs w' g (· = g) (sNew page c noptr) (fun _ => false) (fun _ => false) ∧ Ext w w' := by
  have HF := Lib.hid (fit_new page c noptr hc0 hc h3)
  have HN := Lib.hid (show ∀ w', SpanIs (w'.alloc (.cells #[.int .u64 ((page * 8192 : Nat) : Int), .int .i64 (pgN c), .int .i64 1, .int .i64 c, .bool noptr, .int .i64 (szN c), .int .i64 (slN c), .int .i64 0, .bool false, .bool false, .int .u32 (mgN c), .slice none 0 0, .slice none 0 0, .int .i64 0] 70)) w'.heap.size (· = w'.heap.size) (sNew page c noptr) (fun _ => false) (fun _ => false) from fun w' => span_new w' 70 (sNew page c noptr) HF.out)
  obtain ⟨a1, a2, a3, a4, a5, a6⟩ := tabN_fit c (by omega)
  obtain ⟨b1, b2, b3⟩ := a6 hc0
  have e0 : ((page * 8192 : Nat) : Int) = (page : Int) * 8192 := by omega
  have HR := Lib.hid (tabN_all c (by omega))
  clear a5 a6 HF
  go_enter Tryd.func11, Tryd.ntmps11
  go_wp2_with (go_at_call 9; refine (table_any _).mono ?_; rintro r w1 ⟨v, rfl, ho, hx⟩; obtain ⟨g, cap, rfl, hBg, hcap, hcm, hT⟩ := tab_open ho; obtain ⟨t0, t1, t2, t3⟩ := hT.row c (by omega); rw [HR.out.1] at t0; rw [HR.out.2.1] at t1; rw [HR.out.2.2.1] at t2; rw [HR.out.2.2.2] at t3; have HX := Lib.hid hx; have HTT := Lib.hid hT; have hgl := hT.lt; clear hx ho hT HR; generalize szN c = x0 at *; generalize pgN c = x1 at *; generalize slN c = x2 at *; generalize mgN c = x3 at *; have k1 : ((x1 : Int) == 0) = false := beq_eq_false_iff_ne.2 (by omega); have k2 : decide (34359738368 < page) = false := decide_eq_false (by omega); have k3 : decide ((34359738368 : Int) - page < x1) = false := decide_eq_false (by omega); have k4 : decide (c < 68) = true := decide_eq_true (by omega); have k5 : ((c : Int) == 0) = false := beq_eq_false_iff_ne.2 (by omega); have k6 : decide (0 < c) = true := decide_eq_true (by omega))
  have hN := HN.out w1
  rw [e0] at hN
  have HM := Lib.hid (hN.later (Ext.refl _).drew)
  clear hN HN e0
  refine wp_region_head 23 (by kernel_rfl) (by kernel_rfl) ?_
  simp only [List.take_succ_cons, List.take_zero, List.drop_succ_cons, List.drop_zero]
  repeat (go_big_quiet_step (fail))
  refine wpQuiet_nil ?_
  go_wp2_with fail
  go_ret2
  exact ⟨w1.heap.size, rfl, HX.out.size, HM.out, (HX.out.alloc _ _).drew⟩

end Go.Proofs.YticaamdghjfifaaDoor
