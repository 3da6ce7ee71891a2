/- The walks of the laws PackBack and PackWords; the reference's Pack and Unpack. -/
import Derived.Test.YtbfnadfbanhgcaaAwake
namespace Go.Proofs.Ytbfnadfbanhgcaa
open Go.RowKit
set_option linter.unusedVariables false

theorem rpack_ok {s m e : Int} (h : 0 ≤ s ∧ 0 ≤ e ∧ m < 2097152 ∧ s ≤ m ∧ e ≤ m) : Ending.returned (.tuple #[.int .u64 (s + m * 2097152 + e * 2097152 * 2097152), .int .i64 0]) = Ending.returned (packT s m e) := by
  rw [packT_ok h]
  have : e * 2097152 * 2097152 = e * 4398046511104 := by omega
  rw [this]

set_option maxHeartbeats 2000000 in
theorem rpack_any (s m e : Int) (w : World) (b0 : s ≤ 9223372036854775807) :
    Calls Try.prog 18 #[.agg #[.int .i64 s, .int .i64 m, .int .i64 e]] w fun r w' => r = .returned (packT s m e) ∧ Ext w w' := by
  go_enter Try.func18, Try.ntmps18
  go_wp2
  all_goals first
    | (exfalso; omega)
    | (go_ret2; refine ⟨?_, by repeat (first | exact Ext.refl _ | apply Ext.alloc)⟩; (try simp only [beq_iff_eq, beq_eq_false_iff_ne, ne_eq] at *); first | exact congrArg Ending.returned (packT_bad (by omega) (by omega)).symm | exact congrArg Ending.returned (packT_full (by omega)).symm | exact rpack_ok (by omega))

theorem runpack_full (w : World) :
    Calls Try.prog 20 #[.int .u64 9223372036854775808] w fun r w' => r = .returned (unpackT 9223372036854775808) ∧ Ext w w' := by
  have HT := Lib.hid (show unpackT 9223372036854775808 = .tuple #[.agg #[.int .i64 2097152, .int .i64 2097152, .int .i64 2097152], .int .i64 0] by unfold unpackT; rw [if_pos rfl])
  go_enter Try.func20, Try.ntmps20
  go_wp2
  refine bodyPost_ret (v := .tuple #[.agg #[.int .i64 2097152, .int .i64 2097152, .int .i64 2097152], .int .i64 0]) (by simp [results, Try.results20, go_sem]) rfl ⟨by rw [HT.out], ?_⟩
  repeat (first | exact Ext.refl _ | apply Ext.alloc)

theorem runpack_ok (x : Int) (w : World) (h0 : 0 ≤ x) (h1 : x < 9223372036854775808) (h2 : x % 2097152 ≤ x / 2097152 % 2097152) (h3 : x / 4398046511104 ≤ x / 2097152 % 2097152) :
    Calls Try.prog 20 #[.int .u64 x] w fun r w' => r = .returned (unpackT x) ∧ Ext w w' := by
  have HT := Lib.hid (show unpackT x = .tuple #[.agg #[.int .i64 (x % 2097152), .int .i64 (x / 2097152 % 2097152), .int .i64 (x / 4398046511104)], .int .i64 0] by unfold unpackT; rw [if_neg (by omega), if_pos ⟨h1, h2, h3⟩])
  have e4 : x / 2097152 / 2097152 = x / 4398046511104 := by omega
  have hne : (x == 9223372036854775808) = false := by simp; omega
  go_enter Try.func20, Try.ntmps20
  go_wp2
  refine bodyPost_ret (v := .tuple #[.agg #[.int .i64 (x % 2097152), .int .i64 (x / 2097152 % 2097152), .int .i64 (x / 4398046511104)], .int .i64 0]) (by simp [results, Try.results20, go_sem]) rfl ⟨by rw [HT.out], ?_⟩
  repeat (first | exact Ext.refl _ | apply Ext.alloc)

theorem runpack_great (x : Int) (w : World) (h1 : x < 18446744073709551616) (h : 9223372036854775808 < x) :
    Calls Try.prog 20 #[.int .u64 x] w fun r w' => r = .returned (unpackT x) ∧ Ext w w' := by
  have HT := Lib.hid (show unpackT x = .tuple #[.agg #[.int .i64 0, .int .i64 0, .int .i64 0], .int .i64 1] by unfold unpackT; rw [if_neg (by omega), if_neg (by omega)])
  have hne : (x == 9223372036854775808) = false := by simp; omega
  go_enter Try.func20, Try.ntmps20
  go_wp2
  refine bodyPost_ret (v := .tuple #[.agg #[.int .i64 0, .int .i64 0, .int .i64 0], .int .i64 1]) (by simp [results, Try.results20, go_sem]) rfl ⟨by rw [HT.out], ?_⟩
  repeat (first | exact Ext.refl _ | apply Ext.alloc)

theorem runpack_bad (x : Int) (w : World) (h0 : 0 ≤ x) (h1 : x < 9223372036854775808) (h2 : ¬ (x % 2097152 ≤ x / 2097152 % 2097152 ∧ x / 4398046511104 ≤ x / 2097152 % 2097152)) :
    Calls Try.prog 20 #[.int .u64 x] w fun r w' => r = .returned (unpackT x) ∧ Ext w w' := by
  have HT := Lib.hid (show unpackT x = .tuple #[.agg #[.int .i64 0, .int .i64 0, .int .i64 0], .int .i64 1] by unfold unpackT; rw [if_neg (by omega), if_neg (by omega)])
  have e4 : x / 2097152 / 2097152 = x / 4398046511104 := by omega
  have hne : (x == 9223372036854775808) = false := by simp; omega
  by_cases h3 : x / 2097152 % 2097152 < x % 2097152
  · clear h2
    go_enter Try.func20, Try.ntmps20
    go_wp2
    refine bodyPost_ret (v := .tuple #[.agg #[.int .i64 0, .int .i64 0, .int .i64 0], .int .i64 1]) (by simp [results, Try.results20, go_sem]) rfl ⟨by rw [HT.out], ?_⟩
    repeat (first | exact Ext.refl _ | apply Ext.alloc)
  · have h4 : x / 2097152 % 2097152 < x / 4398046511104 := by omega
    clear h2
    go_enter Try.func20, Try.ntmps20
    go_wp2
    refine bodyPost_ret (v := .tuple #[.agg #[.int .i64 0, .int .i64 0, .int .i64 0], .int .i64 1]) (by simp [results, Try.results20, go_sem]) rfl ⟨by rw [HT.out], ?_⟩
    repeat (first | exact Ext.refl _ | apply Ext.alloc)

theorem runpack_any (x : Int) (w : World) (h0 : 0 ≤ x) (h1 : x < 18446744073709551616) :
    Calls Try.prog 20 #[.int .u64 x] w fun r w' => r = .returned (unpackT x) ∧ Ext w w' := by
  by_cases h : x = 9223372036854775808
  · subst h; exact runpack_full w
  · by_cases h3 : 9223372036854775808 < x
    · exact runpack_great x w h1 h3
    · by_cases h2 : x % 2097152 ≤ x / 2097152 % 2097152 ∧ x / 4398046511104 ≤ x / 2097152 % 2097152
      · exact runpack_ok x w h0 (by omega) h2.1 h2.2
      · exact runpack_bad x w h0 (by omega) h2

end Go.Proofs.Ytbfnadfbanhgcaa
