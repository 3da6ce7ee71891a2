/- The walk of SpanSlots. -/
import Derived.Test.YticaamdghjfifaaDoorIndex
import Derived.Test.YticaamdghjfifaaDoorEnds
namespace Go.Proofs.YticaamdghjfifaaDoor
open Go.RowKit
set_option linter.unusedVariables false

def SlS (W w : World) (g p c : Nat) : Prop := AwS W w g (sNew p c true) noB noB

theorem sl_new (p c : Nat) (w : World) (hc0 : 1 ≤ c) (hc : c ≤ 67) (hp : p ≤ 17179869184) :
    Calls Tryd.prog 11 #[.int .u64 p, .int .u64 (pgN c : Nat), .int .i64 c, .bool true] w fun r w' => ∃ g, r = .returned (.tuple #[.pointer (some ⟨g, 0, none⟩), .int .i64 0]) ∧ SlS w w' g p c := by
  have := (tabN_fit c (by omega)).2.1
  exact aw_new p c true w hc0 hc (by omega)
theorem sl_slot {W w : World} {g p c : Nat} (h : SlS W w g p c) (i A : Nat) (hi : i < slN c) (hA : A = p * 8192 + i * szN c) :
    Calls Tryd.prog 19 #[.pointer (some ⟨g, 0, none⟩), .int .i64 i] w fun r w' => r = .returned (.tuple #[.int .u64 A, .int .i64 0]) ∧ SlS W w' g p c ∧ Ext w w' := by
  obtain ⟨F, h1, h2⟩ := h.at_
  refine (slot_yes g F _ _ _ i w h1 hi).mono ?_
  rintro r w' ⟨rfl, hx⟩
  subst hA
  exact ⟨rfl, AwS.later h hx, hx⟩
theorem sl_slot_no {W w : World} {g p c : Nat} (h : SlS W w g p c) :
    Calls Tryd.prog 19 #[.pointer (some ⟨g, 0, none⟩), .int .i64 (slN c)] w fun r w' => r = .returned (.tuple #[.int .u64 0, .int .i64 1]) ∧ w = w' := by
  obtain ⟨F, h1, h2⟩ := h.at_
  refine slot_no g F _ _ _ _ w h1 ?_
  show (decide (0 ≤ (slN c : Int)) && decide ((slN c : Int) < (slN c : Int))) = false
  rw [decide_eq_false (show ¬ (slN c : Int) < (slN c : Int) by omega), Bool.and_false]
theorem sl_index {W w : World} {g p c : Nat} (h : SlS W w g p c) (hc0 : 1 ≤ c) (hc : c ≤ 67) (X q : Nat) (hX : X = p * 8192 + q) (hq : q < slN c * szN c) :
    Calls Tryd.prog 18 #[.pointer (some ⟨g, 0, none⟩), .int .u64 X] w fun r w' => r = .returned (.tuple #[.int .i64 (q / szN c : Nat), .int .i64 0]) ∧ SlS W w' g p c ∧ Ext w w' := by
  obtain ⟨F, h1, h2⟩ := h.at_
  have e1 : (((sNew p c true).slots : Nat) : Int) * (((sNew p c true).elem : Nat) : Int) = ((slN c * szN c : Nat) : Int) := by push_cast; rfl
  have e2 : ((sNew p c true).base : Int) = ((p * 8192 : Nat) : Int) := rfl
  refine (index_yes g F _ _ _ X w h1 (mag_new p c true hc0 hc) (by rw [e2]; omega) (by rw [e1, e2]; omega)).mono ?_
  rintro r w' ⟨rfl, hx⟩
  refine ⟨?_, AwS.later h hx, hx⟩
  have e3 : (X : Int) - ((sNew p c true).base : Int) = (q : Int) := by rw [e2]; omega
  rw [e3]
  rfl
theorem sl_index_no {W w : World} {g p c : Nat} (h : SlS W w g p c) (X : Nat) (hX : p * 8192 + slN c * szN c ≤ X) (h1 : X ≤ 18446744073709551615) :
    Calls Tryd.prog 18 #[.pointer (some ⟨g, 0, none⟩), .int .u64 X] w fun r w' => r = .returned (.tuple #[.int .i64 0, .int .i64 10]) ∧ SlS W w' g p c ∧ Ext w w' := by
  obtain ⟨F, h1', h2⟩ := h.at_
  have e1 : (((sNew p c true).slots : Nat) : Int) * (((sNew p c true).elem : Nat) : Int) = ((slN c * szN c : Nat) : Int) := by push_cast; rfl
  have e2 : ((sNew p c true).base : Int) = ((p * 8192 : Nat) : Int) := rfl
  refine (index_no g F _ _ _ X w h1' (by omega) (by omega) (.inr (by rw [e1, e2]; omega))).mono ?_
  rintro r w' ⟨rfl, hx⟩
  exact ⟨rfl, AwS.later h hx, hx⟩

/-- the law's own copy of a class. -/
structure CAt (w : World) (b : Nat) (sz pg sl : Nat) : Prop where
  lt : b < w.heap.size
  c0 : w.cell? ⟨b, 0, none⟩ = some (.int .i64 sz)
  c1 : w.cell? ⟨b, 1, none⟩ = some (.int .i64 pg)
  c2 : w.cell? ⟨b, 2, none⟩ = some (.int .i64 sl)
theorem CAt.later {w w' : World} {b sz pg sl : Nat} (h : CAt w b sz pg sl) (hx : Ext w w') : CAt w' b sz pg sl :=
  ⟨Nat.lt_of_lt_of_le h.lt hx.size, (hx.cell _ _ h.lt).trans h.c0, (hx.cell _ _ h.lt).trans h.c1, (hx.cell _ _ h.lt).trans h.c2⟩
theorem CAt.new (w : World) (t : TypeId) (sz pg sl : Nat) (u : Value) : CAt (w.alloc (.cells #[.int .i64 sz, .int .i64 pg, .int .i64 sl, u] t)) w.heap.size sz pg sl :=
  ⟨by rw [World.size_alloc]; omega, by rw [cell_new]; rfl, by rw [cell_new]; rfl, by rw [cell_new]; rfl⟩

set_option maxRecDepth 20000 in
set_option maxHeartbeats 4000000 in
theorem slots_in (c p a : Nat) (W : World) (ht : TzAt W) (hc0 : 1 ≤ c) (hc : c ≤ 67) (hp : p ≤ 17179869184) (ha : a ≤ 18446744073709551615) : Calls Tryd.prog 5 #[.int .i64 c, .int .u64 p, .int .u64 a] W fun r w' => r = .returned (.bool true) ∧ Ext W w' := by
  have HT := Lib.hid ht
  clear ht
  obtain ⟨f1, f2, f3, -, f5, f6⟩ := tabN_fit c (by omega)
  obtain ⟨g1, g2, g3⟩ := f6 hc0
  have HR := Lib.hid (tabN_all c (by omega))
  have HN := Lib.hid (fun w => sl_new p c w hc0 hc hp)
  have HS := Lib.hid (fun (W w : World) (g : Nat) (h : SlS W w g p c) => sl_slot h)
  have HSN := Lib.hid (fun (W w : World) (g : Nat) (h : SlS W w g p c) => sl_slot_no h)
  have HI := Lib.hid (fun (W w : World) (g : Nat) (h : SlS W w g p c) => sl_index h hc0 hc)
  have HIN := Lib.hid (fun (W w : World) (g : Nat) (h : SlS W w g p c) => sl_index_no h)
  clear f6
  generalize szN c = sz at *
  generalize pgN c = pg at *
  generalize slN c = sl at *
  obtain ⟨P, hP⟩ : ∃ P : Nat, p * 8192 = P := ⟨_, rfl⟩
  obtain ⟨B, hB⟩ : ∃ B : Nat, pg * 8192 = B := ⟨_, rfl⟩
  obtain ⟨T, hT⟩ : ∃ T : Nat, sl * sz = T := ⟨_, rfl⟩
  obtain ⟨q, hq⟩ : ∃ q : Nat, a % B = q := ⟨_, rfl⟩
  obtain ⟨X, hX⟩ : ∃ X : Nat, P + q = X := ⟨_, rfl⟩
  obtain ⟨Z, hZ⟩ : ∃ Z : Nat, P + B = Z := ⟨_, rfl⟩
  have hqB : q < B := by rw [← hq]; exact Nat.mod_lt _ (by omega)
  have eP : (p : Int) * 8192 = (P : Int) := by omega
  have eB : (pg : Int) * 8192 = (B : Int) := by omega
  have eT : (sl : Int) * (sz : Int) = (T : Int) := by rw [← hT]; push_cast; rfl
  have eq : (a : Int) % (B : Int) = (q : Int) := by rw [← hq]; rfl
  have eX : (P : Int) + (q : Int) = (X : Int) := by omega
  have eZ : (P : Int) + (B : Int) = (Z : Int) := by omega
  rw [hT] at f5
  rw [hB] at f5
  have b1 : P ≤ 140737488355328 := by omega
  have b2 : B ≤ 81920 := by omega
  have b3 : 0 < B := by omega
  have b4 : X ≤ 281474976710656 := by omega
  have b5 : Z ≤ 281474976710656 := by omega
  have kB : ((B : Int) == 0) = false := beq_eq_false_iff_ne.2 (by omega)
  by_cases hqT : T ≤ q
  · have k1 : decide (T ≤ q) = true := decide_eq_true hqT
    have HIN1 := Lib.hid (fun W w g h => HIN.out W w g h X (by rw [hP, hT]; omega) (by omega))
    clear hq hX hZ hP hB hT HI HS HSN HIN eZ
    go_enter Tryd.func5, Tryd.ntmps5
    go_wp2_with (first
      | (go_at_call 9; refine (table_any _).mono ?_; rintro r w1 ⟨v, rfl, ho, hx⟩; obtain ⟨gt, cap, rfl, hBg, hcap, hcm, hT⟩ := tab_open ho; obtain ⟨t0, t1, t2, t3⟩ := hT.row c (by omega); rw [HR.out.1] at t0; rw [HR.out.2.1] at t1; rw [HR.out.2.2.1] at t2; clear ho HR; have HX1 := Lib.hid hx; clear hx hT)
      | (go_at_call 11; refine (HN.out _).mono ?_; rintro r w2 ⟨g, rfl, h⟩; have HX2 := Lib.hid ((HX1.out.alloc _ _).trans h.ext); have hC := (CAt.new _ _ _ _ _ _).later h.ext; have d0 := hC.c0; have d1 := hC.c1; have d2 := hC.c2; have HC := Lib.hid hC; have H0 := Lib.hid h; clear h hC)
      | (go_at_call 18; refine (HIN1.out _ _ _ H0.out).mono ?_; rintro r w3 ⟨rfl, h, hx⟩; have HC3 := Lib.hid (HC.out.later hx); clear hx d0 d1 d2 HC; have d0 := HC3.out.c0; have d1 := HC3.out.c1; have d2 := HC3.out.c2; have HX3 := Lib.hid ((HX1.out.alloc _ _).trans h.ext); clear h))
    go_quiet (fail)
    go_wp2_with (go_at_call 10; refine (awake_any _ (HT.out.later (HX3.out.drewN' _))).mono ?_; rintro r w8 ⟨rfl, hx⟩; have HX := Lib.hid ((HX3.out.drewN' _).trans hx); clear hx)
    go_ret
    exact ⟨rfl, HX.out⟩
  · have k1 : decide (T ≤ q) = false := decide_eq_false hqT
    obtain ⟨i, hi⟩ : ∃ i : Nat, q / sz = i := ⟨_, rfl⟩
    obtain ⟨M, hM⟩ : ∃ M : Nat, i * sz = M := ⟨_, rfl⟩
    obtain ⟨A, hA⟩ : ∃ A : Nat, P + M = A := ⟨_, rfl⟩
    have hMq : M ≤ q := by rw [← hM, ← hi]; exact Nat.div_mul_le_self _ _
    have hqM : q < M + sz := by
      have h1 := Nat.div_add_mod q sz
      have h2 := Nat.mod_lt q (show 0 < sz by omega)
      rw [hi] at h1
      rw [Nat.mul_comm] at h1
      omega
    have his : i < sl := by
      rw [← hi]
      exact (Nat.div_lt_iff_lt_mul (by omega)).2 (by omega)
    have k2 : decide (X < A) = false := decide_eq_false (by omega)
    have k3 : decide ((sz : Int) ≤ (X : Int) - (A : Int)) = false := decide_eq_false (by omega)
    have k4 : decide (sl ≤ i) = false := decide_eq_false (by omega)
    have b6 : 0 ≤ (X : Int) - (A : Int) := by omega
    have b7 : (X : Int) - (A : Int) ≤ 281474976710656 := by omega
    have b8 : A ≤ 281474976710656 := by omega
    have eA : (A : Int) - (P : Int) = (M : Int) := by omega
    have em : (M : Int) % (sz : Int) = 0 := by rw [← hM]; push_cast; exact Int.mul_emod_left _ _
    have ks : ((sz : Int) == 0) = false := beq_eq_false_iff_ne.2 (by omega)
    have b9 : M ≤ 81920 := by omega
    have HI1 := Lib.hid (show ∀ (W w : World) (g : Nat), SlS W w g p c → Calls Tryd.prog 18 #[.pointer (some ⟨g, 0, none⟩), .int .u64 X] w fun r w' => r = .returned (.tuple #[.int .i64 i, .int .i64 0]) ∧ SlS W w' g p c ∧ Ext w w' from fun W w g h => by
      have := HI.out W w g h X q (by rw [hP]; omega) (by rw [hT]; omega)
      rwa [hi] at this)
    have HS1 := Lib.hid (fun W w g h => HS.out W w g h i A his (by rw [hP, hM]; omega))
    have HIN1 := Lib.hid (fun W w g h => HIN.out W w g h Z (by rw [hP, hT]; omega) (by omega))
    clear hq hX hZ hP hB hT hi hM hA HI HS HIN hqM
    go_enter Tryd.func5, Tryd.ntmps5
    go_wp2_with (first
      | (go_at_call 9; refine (table_any _).mono ?_; rintro r w1 ⟨v, rfl, ho, hx⟩; obtain ⟨gt, cap, rfl, hBg, hcap, hcm, hT⟩ := tab_open ho; obtain ⟨t0, t1, t2, t3⟩ := hT.row c (by omega); rw [HR.out.1] at t0; rw [HR.out.2.1] at t1; rw [HR.out.2.2.1] at t2; clear ho HR; have HX1 := Lib.hid hx; clear hx hT)
      | (go_at_call 11; refine (HN.out _).mono ?_; rintro r w2 ⟨g, rfl, h⟩; have HX2 := Lib.hid ((HX1.out.alloc _ _).trans h.ext); have hC := (CAt.new _ _ _ _ _ _).later h.ext; have d0 := hC.c0; have d1 := hC.c1; have d2 := hC.c2; have HC := Lib.hid hC; have H0 := Lib.hid h; clear h hC)
      | (go_at_call 18; refine (HI1.out _ _ _ H0.out).mono ?_; rintro r w3 ⟨rfl, h, hx⟩; have HC3 := Lib.hid (HC.out.later hx); clear hx d0 d1 d2 HC; have d0 := HC3.out.c0; have d1 := HC3.out.c1; have d2 := HC3.out.c2; have H1 := Lib.hid h; have HX3 := Lib.hid ((HX1.out.alloc _ _).trans h.ext); clear h H0 HX2))
    go_quiet (fail)
    go_wp2_with (first
      | (go_at_call 19; refine (HS1.out _ _ _ (AwS.later H1.out ((Ext.refl _).drewN' _))).mono ?_; rintro r w4 ⟨rfl, h, hx⟩; have HC4 := Lib.hid ((HC3.out.later ((Ext.refl _).drewN' _)).later hx); clear hx d0 d1 d2 HC3; have d0 := HC4.out.c0; have d1 := HC4.out.c1; have d2 := HC4.out.c2; have H2 := Lib.hid h; have HX4 := Lib.hid ((HX1.out.alloc _ _).trans h.ext); clear h H1 HX3 HS1)
      | (go_at_call 19; refine (HSN.out _ _ _ H2.out).mono ?_; rintro r w5 ⟨rfl, rfl⟩)
      | (go_at_call 18; refine (HIN1.out _ _ _ H2.out).mono ?_; rintro r w6 ⟨rfl, h, hx⟩; have HC6 := Lib.hid (HC4.out.later hx); clear hx d0 d1 d2 HC4; have d0 := HC6.out.c0; have d1 := HC6.out.c1; have d2 := HC6.out.c2; have HX6 := Lib.hid ((HX1.out.alloc _ _).trans h.ext); clear h)
      | (go_at_call 10; refine (awake_any _ (HT.out.later HX6.out)).mono ?_; rintro r w8 ⟨rfl, hx⟩; have HX := Lib.hid (HX6.out.trans hx); clear hx))
    go_ret
    exact ⟨rfl, HX.out⟩

end Go.Proofs.YticaamdghjfifaaDoor
