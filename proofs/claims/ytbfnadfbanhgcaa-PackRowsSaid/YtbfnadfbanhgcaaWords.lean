/- The contracts of Pack and Unpack, of package pack and of its reference. -/
import Derived.Test.YtbfnadfbanhgcaaWalks3
namespace Go.Proofs.Ytbfnadfbanhgcaa
open Go.RowKit
set_option linter.unusedVariables false

def packT (s m e : Int) : Value :=
  if s = 2097152 ∧ m = 2097152 ∧ e = 2097152 then .tuple #[.int .u64 9223372036854775808, .int .i64 0]
  else if 0 ≤ s ∧ 0 ≤ e ∧ m < 2097152 ∧ s ≤ m ∧ e ≤ m then .tuple #[.int .u64 (s + m * 2097152 + e * 4398046511104), .int .i64 0]
  else .tuple #[.int .u64 0, .int .i64 1]

theorem packT_full {s m e : Int} (h : s = 2097152 ∧ m = 2097152 ∧ e = 2097152) : packT s m e = .tuple #[.int .u64 9223372036854775808, .int .i64 0] := by
  unfold packT; rw [if_pos h]
theorem packT_ok {s m e : Int} (h : 0 ≤ s ∧ 0 ≤ e ∧ m < 2097152 ∧ s ≤ m ∧ e ≤ m) : packT s m e = .tuple #[.int .u64 (s + m * 2097152 + e * 4398046511104), .int .i64 0] := by
  unfold packT; rw [if_neg (by omega), if_pos h]
theorem packT_bad {s m e : Int} (h : ¬ (s = 2097152 ∧ m = 2097152 ∧ e = 2097152)) (h2 : ¬ (0 ≤ s ∧ 0 ≤ e ∧ m < 2097152 ∧ s ≤ m ∧ e ≤ m)) : packT s m e = .tuple #[.int .u64 0, .int .i64 1] := by
  unfold packT; rw [if_neg h, if_neg h2]

theorem or_add (x y : Int) (k : Nat) (hx : 0 ≤ x) (hx2 : x < 2 ^ k) (hy : 0 ≤ y) (hy2 : y % 2 ^ k = 0) (h : x < 18446744073709551616) (h2 : y < 18446744073709551616) : bits .or .u64 x y = x + y := by
  rw [u64_or _ _ hx h hy h2]
  have hyn : y.toNat % 2 ^ k = 0 := by
    have e : ((y.toNat % 2 ^ k : Nat) : Int) = 0 := by
      rw [Int.natCast_emod, Int.toNat_of_nonneg hy, Int.natCast_pow]; exact hy2
    omega
  have hxn : x.toNat < 2 ^ k := by
    have e : ((x.toNat : Nat) : Int) < ((2 ^ k : Nat) : Int) := by
      rw [Int.toNat_of_nonneg hx, Int.natCast_pow]; exact hx2
    exact Int.ofNat_lt.1 e
  rw [Nat.or_comm, nat_join k _ _ hyn hxn]
  omega

theorem pack_ok (s m e : Int) (w : World) (h : 0 ≤ s ∧ 0 ≤ e ∧ m < 2097152 ∧ s ≤ m ∧ e ≤ m) :
    Calls Try.prog 17 #[.agg #[.int .i64 s, .int .i64 m, .int .i64 e]] w fun r w' => r = .returned (packT s m e) ∧ Ext w w' := by
  have HT := Lib.hid (packT_ok h)
  obtain ⟨h0, h1, h2, h3, h4⟩ := h
  have o1 : bits .or .u64 s (m * 2097152) = s + m * 2097152 := or_add _ _ 21 h0 (by omega) (by omega) (by omega) (by omega) (by omega)
  have o2 : bits .or .u64 (s + m * 2097152) (e * 4398046511104) = s + m * 2097152 + e * 4398046511104 := or_add _ _ 42 (by omega) (by omega) (by omega) (by omega) (by omega) (by omega)
  have hne : ¬ s = 2097152 := by omega
  go_enter Try.func17, Try.ntmps17
  go_wp2
  go_ret2
  exact ⟨by rw [HT.out]; rfl, by repeat (first | exact Ext.refl _ | apply Ext.alloc)⟩

theorem pack_full (w : World) :
    Calls Try.prog 17 #[.agg #[.int .i64 2097152, .int .i64 2097152, .int .i64 2097152]] w fun r w' => r = .returned (packT 2097152 2097152 2097152) ∧ Ext w w' := by
  have HT := Lib.hid (packT_full (s := 2097152) (m := 2097152) (e := 2097152) ⟨rfl, rfl, rfl⟩)
  go_enter Try.func17, Try.ntmps17
  go_wp2
  go_ret2
  exact ⟨by rw [HT.out]; rfl, by repeat (first | exact Ext.refl _ | apply Ext.alloc)⟩

set_option maxHeartbeats 2000000 in
theorem pack_bad (s m e : Int) (w : World) (hf : ¬ (s = 2097152 ∧ m = 2097152 ∧ e = 2097152)) (h : s < 0 ∨ e < 0 ∨ 2097152 ≤ m ∨ m < s ∨ m < e) :
    Calls Try.prog 17 #[.agg #[.int .i64 s, .int .i64 m, .int .i64 e]] w fun r w' => r = .returned (packT s m e) ∧ Ext w w' := by
  go_enter Try.func17, Try.ntmps17
  go_wp2
  all_goals first
    | (exfalso; omega)
    | (go_ret2; exact ⟨congrArg Ending.returned (packT_bad (by omega) (by omega)).symm, by repeat (first | exact Ext.refl _ | apply Ext.alloc)⟩)

theorem pack_any (s m e : Int) (w : World) :
    Calls Try.prog 17 #[.agg #[.int .i64 s, .int .i64 m, .int .i64 e]] w fun r w' => r = .returned (packT s m e) ∧ Ext w w' := by
  by_cases hf : s = 2097152 ∧ m = 2097152 ∧ e = 2097152
  · obtain ⟨rfl, rfl, rfl⟩ := hf; exact pack_full w
  · by_cases h : 0 ≤ s ∧ 0 ≤ e ∧ m < 2097152 ∧ s ≤ m ∧ e ≤ m
    · exact pack_ok s m e w h
    · exact pack_bad s m e w hf (by omega)

/-! ### Unpack -/
def unpackT (x : Int) : Value :=
  if x = 9223372036854775808 then .tuple #[.agg #[.int .i64 2097152, .int .i64 2097152, .int .i64 2097152], .int .i64 0]
  else if x < 9223372036854775808 ∧ x % 2097152 ≤ x / 2097152 % 2097152 ∧ x / 4398046511104 ≤ x / 2097152 % 2097152 then
    .tuple #[.agg #[.int .i64 (x % 2097152), .int .i64 (x / 2097152 % 2097152), .int .i64 (x / 4398046511104)], .int .i64 0]
  else .tuple #[.agg #[.int .i64 0, .int .i64 0, .int .i64 0], .int .i64 1]

theorem mask21 (x : Int) (h0 : 0 ≤ x) (h1 : x < 18446744073709551616) : bits .and .u64 x 2097151 = x % 2097152 := by
  rw [u64_and _ _ h0 h1 (by omega) (by omega)]
  have e : x.toNat &&& (2097151 : Int).toNat = x.toNat % 2 ^ 21 := Nat.and_two_pow_sub_one_eq_mod x.toNat 21
  rw [e]; omega

theorem unpack_full (w : World) :
    Calls Try.prog 19 #[.int .u64 9223372036854775808] w fun r w' => r = .returned (unpackT 9223372036854775808) ∧ Ext w w' := by
  have HT := Lib.hid (show unpackT 9223372036854775808 = .tuple #[.agg #[.int .i64 2097152, .int .i64 2097152, .int .i64 2097152], .int .i64 0] by unfold unpackT; rw [if_pos rfl])
  go_enter Try.func19, Try.ntmps19
  go_wp2
  refine bodyPost_ret (v := .tuple #[.agg #[.int .i64 2097152, .int .i64 2097152, .int .i64 2097152], .int .i64 0]) (by simp [results, Try.results19, go_sem]) rfl ⟨by rw [HT.out], ?_⟩
  repeat (first | exact Ext.refl _ | apply Ext.alloc)

/-- two new blocks of three cells. -/
theorem Ext.new33 {w w1 : World} {x y z a b c : Value} {t u : TypeId} (h : Ext ((w.alloc (.cells #[x, y, z] t)).alloc (.cells #[a, b, c] u)) w1) :
    (w1.cell? ⟨w.heap.size, 0, none⟩ = some x ∧ w1.cell? ⟨w.heap.size, 1, none⟩ = some y ∧ w1.cell? ⟨w.heap.size, 2, none⟩ = some z ∧ (∀ j, w1.frozen? ⟨w.heap.size, j, none⟩ = false)) ∧
    (w1.cell? ⟨w.heap.size + 1, 0, none⟩ = some a ∧ w1.cell? ⟨w.heap.size + 1, 1, none⟩ = some b ∧ w1.cell? ⟨w.heap.size + 1, 2, none⟩ = some c ∧ (∀ j, w1.frozen? ⟨w.heap.size + 1, j, none⟩ = false)) ∧ w.heap.size + 1 < w1.heap.size ∧ Ext w w1 := by
  have h1 : Ext (w.alloc (.cells #[x, y, z] t)) w1 := ((Ext.refl _).alloc _ _).trans h
  obtain ⟨a0, a1, a2, a3, a4⟩ := h1.new3
  obtain ⟨b0, b1, b2, b3, b4⟩ := h.new3
  have e : (w.alloc (.cells #[x, y, z] t)).heap.size = w.heap.size + 1 := by simp
  rw [e] at b0 b1 b2 b3 b4
  exact ⟨⟨a0, a1, a2, a3⟩, ⟨b0, b1, b2, b3⟩, b4, ((Ext.refl _).alloc _ _).trans h1⟩

theorem unpack_ok (x : Int) (w : World) (h0 : 0 ≤ x) (h1 : x < 9223372036854775808) (h2 : x % 2097152 ≤ x / 2097152 % 2097152) (h3 : x / 4398046511104 ≤ x / 2097152 % 2097152) :
    Calls Try.prog 19 #[.int .u64 x] w fun r w' => r = .returned (unpackT x) ∧ Ext w w' := by
  have HT := Lib.hid (show unpackT x = .tuple #[.agg #[.int .i64 (x % 2097152), .int .i64 (x / 2097152 % 2097152), .int .i64 (x / 4398046511104)], .int .i64 0] by unfold unpackT; rw [if_neg (by omega), if_pos ⟨h1, h2, h3⟩])
  have m0 := mask21 x h0 (by omega)
  have m1 := mask21 (x / 2097152) (by omega) (by omega)
  have m2 := mask21 (x / 4398046511104) (by omega) (by omega)
  rw [Int.emod_eq_of_lt (a := x / 4398046511104) (by omega) (by omega)] at m2
  have hP : packT (x % 2097152) (x / 2097152 % 2097152) (x / 4398046511104) = .tuple #[.int .u64 x, .int .i64 0] := by
    rw [packT_ok (by omega)]
    have e : x % 2097152 + x / 2097152 % 2097152 * 2097152 + x / 4398046511104 * 4398046511104 = x := by omega
    rw [e]
  have hne : (x == 9223372036854775808) = false := by simp; omega
  go_enter Try.func19, Try.ntmps19
  go_wp2_with fail
  refine (pack_any _ _ _ _).mono ?_
  rintro e w1 ⟨rfl, hg⟩
  obtain ⟨⟨q0, q1, q2, f⟩, ⟨s0, s1, s2, g⟩, hz, hx⟩ := hg.new33
  have HX := Lib.hid hx
  clear hg hx
  rw [hP]
  go_wp2
  refine bodyPost_ret (v := .tuple #[.agg #[.int .i64 (x % 2097152), .int .i64 (x / 2097152 % 2097152), .int .i64 (x / 4398046511104)], .int .i64 0]) (by simp [results, Try.results19, go_sem, q0, q1, q2, f]) rfl ⟨by rw [HT.out], ?_⟩
  exact ((HX.out.setCell (Nat.le_refl _) _).setCell (Nat.le_refl _) _).setCell (Nat.le_refl _) _

theorem unpack_bad (x : Int) (w : World) (h0 : 0 ≤ x) (h1 : x < 18446744073709551616) (hne' : ¬ x = 9223372036854775808) (h2 : ¬ (x < 9223372036854775808 ∧ x % 2097152 ≤ x / 2097152 % 2097152 ∧ x / 4398046511104 ≤ x / 2097152 % 2097152)) :
    Calls Try.prog 19 #[.int .u64 x] w fun r w' => r = .returned (unpackT x) ∧ Ext w w' := by
  have HT := Lib.hid (show unpackT x = .tuple #[.agg #[.int .i64 0, .int .i64 0, .int .i64 0], .int .i64 1] by unfold unpackT; rw [if_neg hne', if_neg h2])
  have m0 := mask21 x h0 (by omega)
  have m1 := mask21 (x / 2097152) (by omega) (by omega)
  have m2 := mask21 (x / 4398046511104) (by omega) (by omega)
  have hne : (x == 9223372036854775808) = false := by simpa using hne'
  have hP : packT (x % 2097152) (x / 2097152 % 2097152) (x / 4398046511104 % 2097152) = .tuple #[.int .u64 0, .int .i64 1] ∨ ∃ y : Int, (y != x) = true ∧ packT (x % 2097152) (x / 2097152 % 2097152) (x / 4398046511104 % 2097152) = .tuple #[.int .u64 y, .int .i64 0] := by
    by_cases c : x % 2097152 ≤ x / 2097152 % 2097152 ∧ x / 4398046511104 % 2097152 ≤ x / 2097152 % 2097152
    · right
      refine ⟨_, ?_, packT_ok (by omega)⟩
      rw [bne_iff_ne]; omega
    · left; exact packT_bad (by omega) (by omega)
  have HP := Lib.hid hP
  clear hP h2 hne'
  go_enter Try.func19, Try.ntmps19
  go_wp2_with fail
  refine (pack_any _ _ _ _).mono ?_
  rintro e w1 ⟨rfl, hg⟩
  obtain ⟨⟨q0, q1, q2, f⟩, ⟨s0, s1, s2, g⟩, hz, hx⟩ := hg.new33
  have HX := Lib.hid hx
  clear hg hx
  rcases HP.out with hP | ⟨y, hy, hP⟩
  · rw [hP]
    clear hP
    go_wp2
    refine bodyPost_ret (v := .tuple #[.agg #[.int .i64 0, .int .i64 0, .int .i64 0], .int .i64 1]) (by simp [results, Try.results19, go_sem, q0, q1, q2, f]) rfl ⟨by rw [HT.out], ?_⟩
    exact ((HX.out.setCell (Nat.le_refl _) _).setCell (Nat.le_refl _) _).setCell (Nat.le_refl _) _
  · rw [hP]
    clear hP
    go_wp2
    refine bodyPost_ret (v := .tuple #[.agg #[.int .i64 0, .int .i64 0, .int .i64 0], .int .i64 1]) (by simp [results, Try.results19, go_sem, q0, q1, q2, f]) rfl ⟨by rw [HT.out], ?_⟩
    exact ((HX.out.setCell (Nat.le_refl _) _).setCell (Nat.le_refl _) _).setCell (Nat.le_refl _) _

theorem unpack_any (x : Int) (w : World) (h0 : 0 ≤ x) (h1 : x < 18446744073709551616) :
    Calls Try.prog 19 #[.int .u64 x] w fun r w' => r = .returned (unpackT x) ∧ Ext w w' := by
  by_cases h : x = 9223372036854775808
  · subst h; exact unpack_full w
  · by_cases h2 : x < 9223372036854775808 ∧ x % 2097152 ≤ x / 2097152 % 2097152 ∧ x / 4398046511104 ≤ x / 2097152 % 2097152
    · exact unpack_ok x w h0 h2.1 h2.2.1 h2.2.2
    · exact unpack_bad x w h0 h1 h h2

end Go.Proofs.Ytbfnadfbanhgcaa
