/- Arms of the walk of the law StatsWhole. -/
import Derived.Test.YtdklcflclpmcbaaAwake
namespace Go.Proofs.Ytdklcflclpmcbaa
open Go.RowKit
set_option linter.unusedVariables false

theorem wrapC_up (x : Int) : (IntKind.u64.wrap (IntKind.u64.wrap x + 1) == IntKind.u64.wrap x) = false := by
  simp only [beq_eq_false_iff_ne, ne_eq, IntKind.wrap, IntKind.signed, IntKind.bits]; simp; omega
theorem wrapC_up2 (x y : Int) : (IntKind.u64.wrap (x - y) == IntKind.u64.wrap (IntKind.u64.wrap (x + 1) - y)) = false := by
  simp only [beq_eq_false_iff_ne, ne_eq, IntKind.wrap, IntKind.signed, IntKind.bits]; simp; omega
theorem wrapC_less : IntKind.u64.wrap (-1) = 18446744073709551615 := by decide

set_option maxHeartbeats 2000000 in
theorem whole_seven (a b c d e f : Int) (w : World) (a0 : 0 ≤ a) (a1 : a ≤ 18446744073709551615) (b0 : 0 ≤ b) (b1 : b ≤ 18446744073709551615) (c0 : 0 ≤ c) (c1 : c ≤ 18446744073709551615) (d0 : 0 ≤ d) (d1 : d ≤ 18446744073709551615) (e0 : 0 ≤ e) (e1 : e ≤ 18446744073709551615) (f0 : 0 ≤ f) (f1 : f ≤ 18446744073709551615) (he : 1 ≤ e % 1099511627776) :
    Calls Try.prog 3 #[.int .u64 a, .int .u64 b, .int .u64 c, .int .u64 d, .int .u64 e, .int .u64 f, .int .i64 7] w fun r w' => r = .returned (.bool true) ∧ Grown w w' := by
  have D0 : 0 ≤ d % 1099511627776 := Int.emod_nonneg _ (by omega)
  have D1 : d % 1099511627776 < 1099511627776 := Int.emod_lt_of_pos _ (by omega)
  have E0 : 0 ≤ e % 1099511627776 := Int.emod_nonneg _ (by omega)
  have E1 : e % 1099511627776 < 1099511627776 := Int.emod_lt_of_pos _ (by omega)
  have A0 : 0 ≤ c % (d % 1099511627776 + 1) := Int.emod_nonneg _ (by omega)
  have A1 : c % (d % 1099511627776 + 1) < d % 1099511627776 + 1 := Int.emod_lt_of_pos _ (by omega)
  have R0 : 0 ≤ f % (e % 1099511627776 + 1) := Int.emod_nonneg _ (by omega)
  have R1 : f % (e % 1099511627776 + 1) < e % 1099511627776 + 1 := Int.emod_lt_of_pos _ (by omega)
  have t3 : d % 1099511627776 + e % 1099511627776 - d % 1099511627776 = e % 1099511627776 := by omega
  have t4 : decide (d % 1099511627776 ≤ d % 1099511627776 + e % 1099511627776) = true := by simp; omega
  have u7 : d % 1099511627776 + e % 1099511627776 - 1 - d % 1099511627776 = e % 1099511627776 - 1 := by omega
  have u8 : (e % 1099511627776 == e % 1099511627776 - 1) = false := by simp; omega
  go_enter Try.func3, Try.ntmps3
  go_wp2_with (first | (go_at_call 8; refine (awake_any _).mono ?_; rintro r w1 ⟨rfl, hg5⟩) | go_in)
  go_ret
  refine ⟨rfl, Ext.grown ?_⟩
  repeat (first | exact Ext.refl _ | (refine Ext.trans ?_ hg5) | (refine Ext.setCell ?_ (by simp) _) | (refine Ext.alloc ?_ _ _))

set_option maxHeartbeats 2000000 in
theorem whole_seven2 (a b c d e f : Int) (w : World) (a0 : 0 ≤ a) (a1 : a ≤ 18446744073709551615) (b0 : 0 ≤ b) (b1 : b ≤ 18446744073709551615) (c0 : 0 ≤ c) (c1 : c ≤ 18446744073709551615) (d0 : 0 ≤ d) (d1 : d ≤ 18446744073709551615) (e0 : 0 ≤ e) (e1 : e ≤ 18446744073709551615) (f0 : 0 ≤ f) (f1 : f ≤ 18446744073709551615) (he : e % 1099511627776 = 0) (hd : 1 ≤ d % 1099511627776) :
    Calls Try.prog 3 #[.int .u64 a, .int .u64 b, .int .u64 c, .int .u64 d, .int .u64 e, .int .u64 f, .int .i64 7] w fun r w' => r = .returned (.bool true) ∧ Grown w w' := by
  have D0 : 0 ≤ d % 1099511627776 := Int.emod_nonneg _ (by omega)
  have D1 : d % 1099511627776 < 1099511627776 := Int.emod_lt_of_pos _ (by omega)
  have E0 : 0 ≤ e % 1099511627776 := Int.emod_nonneg _ (by omega)
  have E1 : e % 1099511627776 < 1099511627776 := Int.emod_lt_of_pos _ (by omega)
  have A0 : 0 ≤ c % (d % 1099511627776 + 1) := Int.emod_nonneg _ (by omega)
  have A1 : c % (d % 1099511627776 + 1) < d % 1099511627776 + 1 := Int.emod_lt_of_pos _ (by omega)
  have R0 : 0 ≤ f % (e % 1099511627776 + 1) := Int.emod_nonneg _ (by omega)
  have R1 : f % (e % 1099511627776 + 1) < e % 1099511627776 + 1 := Int.emod_lt_of_pos _ (by omega)
  have t3 : d % 1099511627776 + e % 1099511627776 - d % 1099511627776 = e % 1099511627776 := by omega
  have t4 : decide (d % 1099511627776 ≤ d % 1099511627776 + e % 1099511627776) = true := by simp; omega
  have u7 : d % 1099511627776 - 1 - d % 1099511627776 = -1 := by omega
  have u9 := wrapC_less
  go_enter Try.func3, Try.ntmps3
  go_wp2_with (first | (go_at_call 8; refine (awake_any _).mono ?_; rintro r w1 ⟨rfl, hg5⟩) | go_in)
  go_ret
  refine ⟨rfl, Ext.grown ?_⟩
  repeat (first | exact Ext.refl _ | (refine Ext.trans ?_ hg5) | (refine Ext.setCell ?_ (by simp) _) | (refine Ext.alloc ?_ _ _))

set_option maxHeartbeats 2000000 in
theorem whole_seven3 (a b c d e f : Int) (w : World) (a0 : 0 ≤ a) (a1 : a ≤ 18446744073709551615) (b0 : 0 ≤ b) (b1 : b ≤ 18446744073709551615) (c0 : 0 ≤ c) (c1 : c ≤ 18446744073709551615) (d0 : 0 ≤ d) (d1 : d ≤ 18446744073709551615) (e0 : 0 ≤ e) (e1 : e ≤ 18446744073709551615) (f0 : 0 ≤ f) (f1 : f ≤ 18446744073709551615) (he : e % 1099511627776 = 0) (hd : d % 1099511627776 = 0) :
    Calls Try.prog 3 #[.int .u64 a, .int .u64 b, .int .u64 c, .int .u64 d, .int .u64 e, .int .u64 f, .int .i64 7] w fun r w' => r = .returned (.bool true) ∧ Grown w w' := by
  have D0 : 0 ≤ d % 1099511627776 := Int.emod_nonneg _ (by omega)
  have D1 : d % 1099511627776 < 1099511627776 := Int.emod_lt_of_pos _ (by omega)
  have E0 : 0 ≤ e % 1099511627776 := Int.emod_nonneg _ (by omega)
  have E1 : e % 1099511627776 < 1099511627776 := Int.emod_lt_of_pos _ (by omega)
  have A0 : 0 ≤ c % (d % 1099511627776 + 1) := Int.emod_nonneg _ (by omega)
  have A1 : c % (d % 1099511627776 + 1) < d % 1099511627776 + 1 := Int.emod_lt_of_pos _ (by omega)
  have R0 : 0 ≤ f % (e % 1099511627776 + 1) := Int.emod_nonneg _ (by omega)
  have R1 : f % (e % 1099511627776 + 1) < e % 1099511627776 + 1 := Int.emod_lt_of_pos _ (by omega)
  have t3 : d % 1099511627776 + e % 1099511627776 - d % 1099511627776 = e % 1099511627776 := by omega
  have t4 : decide (d % 1099511627776 ≤ d % 1099511627776 + e % 1099511627776) = true := by simp; omega
  have u9 := wrapC_less
  go_enter Try.func3, Try.ntmps3
  go_wp2_with (first | (go_at_call 8; refine (awake_any _).mono ?_; rintro r w1 ⟨rfl, hg5⟩) | go_in)
  go_ret
  refine ⟨rfl, Ext.grown ?_⟩
  repeat (first | exact Ext.refl _ | (refine Ext.trans ?_ hg5) | (refine Ext.setCell ?_ (by simp) _) | (refine Ext.alloc ?_ _ _))

end Go.Proofs.Ytdklcflclpmcbaa
