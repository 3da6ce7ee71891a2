/- The contract of a span's Index. -/
import Derived.Test.YticaamdghjfifaaDoorAwS
import Derived.Test.YticaamdghjfifaaDoorNumQuot
import Derived.Test.YticaamdghjfifaaDoorExact
namespace Go.Proofs.YticaamdghjfifaaDoor
open Go.RowKit
set_option linter.unusedVariables false

/-- a span's magic is none, or divides by its slots' length. -/
def MagOk (s : Sp) : Prop := s.magic = 0 ∨ (0 < s.magic ∧ s.slots * s.elem ≤ 131072 ∧ ∀ x : Nat, x < s.slots * s.elem → quotV x s.magic = ((x / s.elem : Nat) : Int))

theorem mag_man (page pages elem : Nat) : MagOk (sMan page pages elem) := .inl rfl
theorem tabN_mag : ∀ i, i < 68 → 1 ≤ i → (mgN i : Int) = magicV (szN i) ∧ 0 < mgN i ∧ 2 ≤ szN i ∧ slN i * szN i ≤ 131072 := by decide +kernel
theorem mag_new (page c : Nat) (noptr : Bool) (hc0 : 1 ≤ c) (hc : c ≤ 67) : MagOk (sNew page c noptr) := by
  obtain ⟨a1, a2, a3, a4⟩ := tabN_mag c (by omega) hc0
  have a5 := (tabN_fit c (by omega)).1
  refine .inr ⟨a2, a4, fun x hx => ?_⟩
  show quotV x (mgN c) = _
  have hx' : x < slN c * szN c := hx
  rw [a1, exact_plain (szN c) x (by omega) (by omega) (by omega) (.inl (by omega))]
  rfl

set_option maxHeartbeats 800000 in
theorem index_no (b : Nat) (F : Nat → Prop) (s : Sp) (U M : Nat → Bool) (x : Int) (w : World) (h : SpanIs w b F s U M) (h0 : 0 ≤ x) (h1 : x ≤ 18446744073709551615) (hx : x < s.base ∨ (s.base : Int) + (s.slots : Int) * (s.elem : Int) ≤ x) :
    Calls Tryd.prog 18 #[.pointer (some ⟨b, 0, none⟩), .int .u64 x] w fun r w' => r = .returned (.tuple #[.int .i64 0, .int .i64 10]) ∧ Ext w w' := by
  obtain ⟨uv, mv, nu, nm, h1', h2⟩ := h.at_
  have c0 : w.cell? ⟨b, 0, none⟩ = some (.int .u64 s.base) := h1'.cells 0 (by omega)
  have c5 : w.cell? ⟨b, 5, none⟩ = some (.int .i64 s.elem) := h1'.cells 5 (by omega)
  have c6 : w.cell? ⟨b, 6, none⟩ = some (.int .i64 s.slots) := h1'.cells 6 (by omega)
  have hsl := h.fit.slots
  have hba := h.fit.base
  have hel := h.fit.elem
  have hm1 : (s.slots : Int) * (s.elem : Int) = ((s.slots * s.elem : Nat) : Int) := by push_cast; rfl
  have hm2 : 0 ≤ (s.slots : Int) * (s.elem : Int) := by rw [hm1]; omega
  have hm3 : (s.slots : Int) * (s.elem : Int) ≤ 1099511627776 := by rw [hm1]; have := h.fit.bytes; omega
  clear h h1' h2 hm1
  by_cases hb : x < s.base
  · have k0 : decide (x < s.base) = true := decide_eq_true hb
    clear hx
    go_enter Tryd.func18, Tryd.ntmps18
    go_wp2_with fail
    go_quiet (fail)
    go_wp2
    go_ret2
    exact ⟨rfl, (Ext.refl _).drewN' _⟩
  · have k0 : decide (x < s.base) = false := decide_eq_false hb
    have k2 : 0 ≤ x - s.base := by omega
    have k3 : x - (s.base : Int) ≤ 18446744073709551615 := by omega
    have k1 : decide ((s.slots : Int) * (s.elem : Int) ≤ x - (s.base : Int)) = true := decide_eq_true (by omega)
    clear hx hb
    go_enter Tryd.func18, Tryd.ntmps18
    go_wp2_with fail
    go_quiet (fail)
    go_wp2
    go_ret2
    exact ⟨rfl, (Ext.refl _).drewN' _⟩

set_option maxHeartbeats 800000 in
theorem index_yes (b : Nat) (F : Nat → Prop) (s : Sp) (U M : Nat → Bool) (x : Int) (w : World) (h : SpanIs w b F s U M) (hg : MagOk s) (hx0 : (s.base : Int) ≤ x) (hx : x < (s.base : Int) + (s.slots : Int) * (s.elem : Int)) :
    Calls Tryd.prog 18 #[.pointer (some ⟨b, 0, none⟩), .int .u64 x] w fun r w' => r = .returned (.tuple #[.int .i64 ((x - s.base) / s.elem), .int .i64 0]) ∧ Ext w w' := by
  obtain ⟨uv, mv, nu, nm, h1', h2⟩ := h.at_
  have c0 : w.cell? ⟨b, 0, none⟩ = some (.int .u64 s.base) := h1'.cells 0 (by omega)
  have c5 : w.cell? ⟨b, 5, none⟩ = some (.int .i64 s.elem) := h1'.cells 5 (by omega)
  have c6 : w.cell? ⟨b, 6, none⟩ = some (.int .i64 s.slots) := h1'.cells 6 (by omega)
  have c10 : w.cell? ⟨b, 10, none⟩ = some (.int .u32 s.magic) := h1'.cells 10 (by omega)
  have hsl := h.fit.slots
  have hba := h.fit.base
  have hel := h.fit.elem
  have hel0 := h.fit.elem0
  have hmg := h.fit.magic
  have hm1 : (s.slots : Int) * (s.elem : Int) = ((s.slots * s.elem : Nat) : Int) := by push_cast; rfl
  have hm2 : 0 ≤ (s.slots : Int) * (s.elem : Int) := by rw [hm1]; omega
  have hm3 : (s.slots : Int) * (s.elem : Int) ≤ 1099511627776 := by rw [hm1]; have := h.fit.bytes; omega
  have k0 : decide (x < s.base) = false := decide_eq_false (by omega)
  have k2 : 0 ≤ x - s.base := by omega
  have k3 : x - (s.base : Int) ≤ 1099511627776 := by omega
  have k1 : decide ((s.slots : Int) * (s.elem : Int) ≤ x - (s.base : Int)) = false := decide_eq_false (by omega)
  obtain ⟨o, ho⟩ : ∃ o : Nat, x - s.base = (o : Int) := ⟨(x - s.base).toNat, by omega⟩
  rcases hg with hg | ⟨g0, g1, g2⟩
  · rw [hg] at c10
    have q0 : 0 ≤ (x - (s.base : Int)) / (s.elem : Int) := Int.ediv_nonneg k2 (by omega)
    have q1 : (x - (s.base : Int)) / (s.elem : Int) ≤ 1099511627776 := Int.le_trans (Int.ediv_le_self _ k2) k3
    have k5 : ((s.elem : Int) == 0) = false := beq_eq_false_iff_ne.2 (by omega)
    clear h h1' h2 hm1 hx ho hg
    go_enter Tryd.func18, Tryd.ntmps18
    go_wp2_with fail
    go_quiet (fail)
    go_wp2
    go_ret2
    exact ⟨rfl, (Ext.refl _).drewN' _⟩
  · have HQ := Lib.hid (show ∀ w, Calls Tryd.prog 34 #[.int .u32 (x - s.base), .int .u32 s.magic] w fun e w' => e = .returned (.int .u32 ((x - s.base) / s.elem)) ∧ w = w' from fun w => by
      have := quot_any (x - s.base) s.magic w k2 (by rw [hm1] at hx; omega) (by omega) (by omega)
      rw [ho, g2 o (by rw [hm1] at hx; omega)] at this
      rw [ho]
      exact this)
    have k6 : x - (s.base : Int) ≤ 131072 := by rw [hm1] at hx; omega
    have q0 : 0 ≤ (x - (s.base : Int)) / (s.elem : Int) := Int.ediv_nonneg k2 (by omega)
    have q1 : (x - (s.base : Int)) / (s.elem : Int) ≤ 131072 := Int.le_trans (Int.ediv_le_self _ k2) k6
    have k5 : decide (0 < s.magic) = true := decide_eq_true g0
    clear h h1' h2 hm1 hx ho g1 g2
    go_enter Tryd.func18, Tryd.ntmps18
    go_wp2_with fail
    go_quiet (fail)
    go_wp2_with (go_at_call 34; refine (HQ.out _).mono ?_; rintro r w1 ⟨rfl, rfl⟩)
    go_ret2
    exact ⟨rfl, (Ext.refl _).drewN' _⟩

end Go.Proofs.YticaamdghjfifaaDoor
