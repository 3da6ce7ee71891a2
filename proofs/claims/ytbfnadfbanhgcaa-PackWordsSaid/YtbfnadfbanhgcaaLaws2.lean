/- The walks of the laws PackWords and PackBack. -/
import Derived.Test.YtbfnadfbanhgcaaLaws
namespace Go.Proofs.Ytbfnadfbanhgcaa
open Go.RowKit
set_option linter.unusedVariables false

theorem packT_form (s m e : Int) : ∃ a c : Int, packT s m e = .tuple #[.int .u64 a, .int .i64 c] ∧ 0 ≤ a ∧ a < 18446744073709551616 := by
  by_cases h : s = 2097152 ∧ m = 2097152 ∧ e = 2097152
  · exact ⟨_, _, packT_full h, by omega, by omega⟩
  · by_cases h2 : 0 ≤ s ∧ 0 ≤ e ∧ m < 2097152 ∧ s ≤ m ∧ e ≤ m
    · exact ⟨_, _, packT_ok h2, by omega, by omega⟩
    · exact ⟨_, _, packT_bad h h2, by omega, by omega⟩

theorem unpackT_form (x : Int) : ∃ a b c d : Int, unpackT x = .tuple #[.agg #[.int .i64 a, .int .i64 b, .int .i64 c], .int .i64 d] := by
  unfold unpackT
  split
  · exact ⟨_, _, _, _, rfl⟩
  · split <;> exact ⟨_, _, _, _, rfl⟩

set_option maxHeartbeats 1000000 in
theorem walk_PackWords (s m e x : Int) (s1 : s ≤ 9223372036854775807) (x0 : 0 ≤ x) (x1 : x < 18446744073709551616) (w : World) :
    Calls Try.prog 7 #[.agg #[.int .i64 s, .int .i64 m, .int .i64 e], .int .u64 x] w fun r w' => r = .returned (.bool true) ∧ Grown w w' := by
  obtain ⟨a, c, hp, -, -⟩ := packT_form s m e
  obtain ⟨t, u, v, d, hu⟩ := unpackT_form x
  have HP := Lib.hid hp
  have HU := Lib.hid hu
  clear hp hu
  go_enter Try.func7, Try.ntmps7
  go_wp2_with fail
  refine (pack_any _ _ _ _).mono ?_
  rintro e1 w1 ⟨rfl, hg1⟩
  rw [HP.out]
  obtain ⟨q0, q1, q2, f, hz⟩ := hg1.new3
  go_wp2_with fail
  refine (rpack_any _ _ _ _ s1).mono ?_
  rintro e2 w2 ⟨rfl, hg2⟩
  rw [HP.out]
  clear q0 q1 q2 f
  go_wp2_with fail
  refine (unpack_any _ _ x0 x1).mono ?_
  rintro e3 w3 ⟨rfl, hg3⟩
  rw [HU.out]
  go_wp2_with fail
  refine (runpack_any _ _ x0 x1).mono ?_
  rintro e4 w4 ⟨rfl, hg4⟩
  rw [HU.out]
  obtain ⟨q0, q1, q2, f, hz4⟩ := hg4.new3
  go_wp2_with fail
  refine (awake_any _).mono ?_
  rintro e5 w5 ⟨rfl, hg5⟩
  have HX : Hid (Ext w w5) := Lib.hid (((((Ext.refl w).alloc _ _).trans hg1).trans (hg2.trans hg3)).trans ((((Ext.refl w3).alloc _ _).trans hg4).trans (((Ext.refl w4).alloc _ _).trans hg5)))
  clear hg1 hg2 hg3 hg4 hg5
  go_wp2
  go_ret
  exact ⟨rfl, HX.out.grown⟩

set_option maxHeartbeats 1000000 in
theorem back_yy (s m e x : Int) (x0 : 0 ≤ x) (x1 : x < 18446744073709551616) (a : Int) (a0 : 0 ≤ a) (a1 : a < 18446744073709551616) (HP : Hid (packT s m e = .tuple #[.int .u64 a, .int .i64 0])) (HB : Hid (unpackT a = .tuple #[.agg #[.int .i64 s, .int .i64 m, .int .i64 e], .int .i64 0])) (t u v : Int) (HU : Hid (unpackT x = .tuple #[.agg #[.int .i64 t, .int .i64 u, .int .i64 v], .int .i64 0])) (HC : Hid (packT t u v = .tuple #[.int .u64 x, .int .i64 0])) (w : World) :
    Calls Try.prog 8 #[.agg #[.int .i64 s, .int .i64 m, .int .i64 e], .int .u64 x] w fun r w' => r = .returned (.bool true) ∧ Grown w w' := by
  go_enter Try.func8, Try.ntmps8
  go_wp2_with fail
  refine (pack_any _ _ _ _).mono ?_
  rintro e1 w1 ⟨rfl, hg1⟩
  rw [HP.out]
  obtain ⟨q0, q1, q2, f, hz⟩ := hg1.new3
  go_wp2_with fail
  refine (unpack_any _ _ a0 a1).mono ?_
  rintro e2 w2 ⟨rfl, hg2⟩
  rw [HB.out]
  have p0 := (hg2.cell _ _ hz).trans q0
  have p1 := (hg2.cell _ _ hz).trans q1
  have p2 := (hg2.cell _ _ hz).trans q2
  have hz2 := Nat.lt_of_lt_of_le hz hg2.size
  clear q0 q1 q2 f
  go_wp2_with fail
  refine (unpack_any _ _ x0 x1).mono ?_
  rintro e3 w3 ⟨rfl, hg3⟩
  rw [HU.out]
  clear p0 p1 p2
  have hx : Ext w w3 := ((((Ext.refl w).alloc _ _).trans hg1).trans hg2).trans (((Ext.refl w2).alloc _ _).trans hg3)
  clear hg1 hg2 hg3
  go_wp2_with fail
  refine (pack_any _ _ _ _).mono ?_
  rintro e4 w4 ⟨rfl, hg4⟩
  rw [HC.out]
  go_wp2_with fail
  refine (awake_any _).mono ?_
  rintro e5 w5 ⟨rfl, hg5⟩
  have HX : Hid (Ext w w5) := Lib.hid ((hx.trans (((Ext.refl w3).alloc _ _).trans hg4)).trans hg5)
  clear hg4 hg5 hx
  go_wp2
  go_ret
  exact ⟨rfl, HX.out.grown⟩

set_option maxHeartbeats 1000000 in
theorem back_yn (s m e x : Int) (x0 : 0 ≤ x) (x1 : x < 18446744073709551616) (a : Int) (a0 : 0 ≤ a) (a1 : a < 18446744073709551616) (HP : Hid (packT s m e = .tuple #[.int .u64 a, .int .i64 0])) (HB : Hid (unpackT a = .tuple #[.agg #[.int .i64 s, .int .i64 m, .int .i64 e], .int .i64 0])) (HU : Hid (unpackT x = .tuple #[.agg #[.int .i64 0, .int .i64 0, .int .i64 0], .int .i64 1])) (w : World) :
    Calls Try.prog 8 #[.agg #[.int .i64 s, .int .i64 m, .int .i64 e], .int .u64 x] w fun r w' => r = .returned (.bool true) ∧ Grown w w' := by
  go_enter Try.func8, Try.ntmps8
  go_wp2_with fail
  refine (pack_any _ _ _ _).mono ?_
  rintro e1 w1 ⟨rfl, hg1⟩
  rw [HP.out]
  obtain ⟨q0, q1, q2, f, hz⟩ := hg1.new3
  go_wp2_with fail
  refine (unpack_any _ _ a0 a1).mono ?_
  rintro e2 w2 ⟨rfl, hg2⟩
  rw [HB.out]
  have p0 := (hg2.cell _ _ hz).trans q0
  have p1 := (hg2.cell _ _ hz).trans q1
  have p2 := (hg2.cell _ _ hz).trans q2
  have hz2 := Nat.lt_of_lt_of_le hz hg2.size
  clear q0 q1 q2 f
  go_wp2_with fail
  refine (unpack_any _ _ x0 x1).mono ?_
  rintro e3 w3 ⟨rfl, hg3⟩
  rw [HU.out]
  clear p0 p1 p2
  have hx : Ext w w3 := ((((Ext.refl w).alloc _ _).trans hg1).trans hg2).trans (((Ext.refl w2).alloc _ _).trans hg3)
  clear hg1 hg2 hg3
  go_wp2_with fail
  refine (awake_any _).mono ?_
  rintro e5 w5 ⟨rfl, hg5⟩
  have HX : Hid (Ext w w5) := Lib.hid (hx.trans (((Ext.refl w3).alloc _ _).trans hg5))
  clear hg5 hx
  go_wp2
  go_ret
  exact ⟨rfl, HX.out.grown⟩

set_option maxHeartbeats 1000000 in
theorem back_ny (s m e x : Int) (x0 : 0 ≤ x) (x1 : x < 18446744073709551616) (HP : Hid (packT s m e = .tuple #[.int .u64 0, .int .i64 1])) (t u v : Int) (HU : Hid (unpackT x = .tuple #[.agg #[.int .i64 t, .int .i64 u, .int .i64 v], .int .i64 0])) (HC : Hid (packT t u v = .tuple #[.int .u64 x, .int .i64 0])) (w : World) :
    Calls Try.prog 8 #[.agg #[.int .i64 s, .int .i64 m, .int .i64 e], .int .u64 x] w fun r w' => r = .returned (.bool true) ∧ Grown w w' := by
  go_enter Try.func8, Try.ntmps8
  go_wp2_with fail
  refine (pack_any _ _ _ _).mono ?_
  rintro e1 w1 ⟨rfl, hg1⟩
  rw [HP.out]
  obtain ⟨q0, q1, q2, f, hz⟩ := hg1.new3
  go_wp2_with fail
  refine (unpack_any _ _ x0 x1).mono ?_
  rintro e3 w3 ⟨rfl, hg3⟩
  rw [HU.out]
  clear q0 q1 q2 f
  have hx : Ext w w3 := (((Ext.refl w).alloc _ _).trans hg1).trans hg3
  clear hg1 hg3
  go_wp2_with fail
  refine (pack_any _ _ _ _).mono ?_
  rintro e4 w4 ⟨rfl, hg4⟩
  rw [HC.out]
  go_wp2_with fail
  refine (awake_any _).mono ?_
  rintro e5 w5 ⟨rfl, hg5⟩
  have HX : Hid (Ext w w5) := Lib.hid ((hx.trans (((Ext.refl w3).alloc _ _).trans hg4)).trans hg5)
  clear hg4 hg5 hx
  go_wp2
  go_ret
  exact ⟨rfl, HX.out.grown⟩

set_option maxHeartbeats 1000000 in
theorem back_nn (s m e x : Int) (x0 : 0 ≤ x) (x1 : x < 18446744073709551616) (HP : Hid (packT s m e = .tuple #[.int .u64 0, .int .i64 1])) (HU : Hid (unpackT x = .tuple #[.agg #[.int .i64 0, .int .i64 0, .int .i64 0], .int .i64 1])) (w : World) :
    Calls Try.prog 8 #[.agg #[.int .i64 s, .int .i64 m, .int .i64 e], .int .u64 x] w fun r w' => r = .returned (.bool true) ∧ Grown w w' := by
  go_enter Try.func8, Try.ntmps8
  go_wp2_with fail
  refine (pack_any _ _ _ _).mono ?_
  rintro e1 w1 ⟨rfl, hg1⟩
  rw [HP.out]
  obtain ⟨q0, q1, q2, f, hz⟩ := hg1.new3
  go_wp2_with fail
  refine (unpack_any _ _ x0 x1).mono ?_
  rintro e3 w3 ⟨rfl, hg3⟩
  rw [HU.out]
  clear q0 q1 q2 f
  have hx : Ext w w3 := (((Ext.refl w).alloc _ _).trans hg1).trans hg3
  clear hg1 hg3
  go_wp2_with fail
  refine (awake_any _).mono ?_
  rintro e5 w5 ⟨rfl, hg5⟩
  have HX : Hid (Ext w w5) := Lib.hid (hx.trans (((Ext.refl w3).alloc _ _).trans hg5))
  clear hg5 hx
  go_wp2
  go_ret
  exact ⟨rfl, HX.out.grown⟩

/-- what is packed is unpacked as it was. -/
theorem pack_cases (s m e : Int) : packT s m e = .tuple #[.int .u64 0, .int .i64 1] ∨
    ∃ a, 0 ≤ a ∧ a < 18446744073709551616 ∧ packT s m e = .tuple #[.int .u64 a, .int .i64 0] ∧ unpackT a = .tuple #[.agg #[.int .i64 s, .int .i64 m, .int .i64 e], .int .i64 0] := by
  by_cases h : s = 2097152 ∧ m = 2097152 ∧ e = 2097152
  · right
    refine ⟨_, by omega, by omega, packT_full h, ?_⟩
    obtain ⟨rfl, rfl, rfl⟩ := h
    unfold unpackT; rw [if_pos rfl]
  · by_cases h2 : 0 ≤ s ∧ 0 ≤ e ∧ m < 2097152 ∧ s ≤ m ∧ e ≤ m
    · right
      refine ⟨s + m * 2097152 + e * 4398046511104, by omega, by omega, packT_ok h2, ?_⟩
      have e1 : (s + m * 2097152 + e * 4398046511104) % 2097152 = s := by omega
      have e2 : (s + m * 2097152 + e * 4398046511104) / 2097152 % 2097152 = m := by omega
      have e3 : (s + m * 2097152 + e * 4398046511104) / 4398046511104 = e := by omega
      unfold unpackT
      rw [e1, e2, e3, if_neg (by omega), if_pos (by omega)]
    · left; exact packT_bad h h2

theorem unpack_cases (x : Int) (x0 : 0 ≤ x) : unpackT x = .tuple #[.agg #[.int .i64 0, .int .i64 0, .int .i64 0], .int .i64 1] ∨
    ∃ t u v, unpackT x = .tuple #[.agg #[.int .i64 t, .int .i64 u, .int .i64 v], .int .i64 0] ∧ packT t u v = .tuple #[.int .u64 x, .int .i64 0] := by
  unfold unpackT
  split
  · rename_i h
    right
    refine ⟨_, _, _, rfl, ?_⟩
    rw [packT_full ⟨rfl, rfl, rfl⟩, h]
  · split
    · rename_i h h2
      right
      refine ⟨_, _, _, rfl, ?_⟩
      rw [packT_ok (by omega)]
      have e : x % 2097152 + x / 2097152 % 2097152 * 2097152 + x / 4398046511104 * 4398046511104 = x := by omega
      rw [e]
    · exact Or.inl rfl

theorem walk_PackBack (s m e x : Int) (s1 : s ≤ 9223372036854775807) (x0 : 0 ≤ x) (x1 : x < 18446744073709551616) (w : World) :
    Calls Try.prog 8 #[.agg #[.int .i64 s, .int .i64 m, .int .i64 e], .int .u64 x] w fun r w' => r = .returned (.bool true) ∧ Grown w w' := by
  rcases pack_cases s m e with h | ⟨a, a0, a1, h, hb⟩
  · rcases unpack_cases x x0 with k | ⟨t, u, v, k, kc⟩
    · exact back_nn s m e x x0 x1 (Lib.hid h) (Lib.hid k) w
    · exact back_ny s m e x x0 x1 (Lib.hid h) t u v (Lib.hid k) (Lib.hid kc) w
  · rcases unpack_cases x x0 with k | ⟨t, u, v, k, kc⟩
    · exact back_yn s m e x x0 x1 a a0 a1 (Lib.hid h) (Lib.hid hb) (Lib.hid k) w
    · exact back_yy s m e x x0 x1 a a0 a1 (Lib.hid h) (Lib.hid hb) t u v (Lib.hid k) (Lib.hid kc) w

end Go.Proofs.Ytbfnadfbanhgcaa
