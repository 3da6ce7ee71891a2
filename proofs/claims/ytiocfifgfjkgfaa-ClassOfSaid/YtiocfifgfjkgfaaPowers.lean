/- The walk of the law ClassPowers. -/
import Derived.Test.YtiocfifgfjkgfaaFits
namespace Go.Proofs.Ytiocfifgfjkgfaa
open Go.RowKit
set_option linter.unusedVariables false

/-- what Round answers of a number that is not too long. -/
def rV (n : Int) : Int := if n ≤ 32768 then sz (ofV n + 1) else upV n 8192

theorem up_facts {n : Int} (h : 32768 < n) (h2 : n ≤ 1099511627776) : n ≤ upV n 8192 ∧ upV n 8192 < n + 8192 ∧ upV n 8192 % 8192 = 0 ∧ upV n 8192 ≤ 1099511627776 := by
  unfold upV
  rw [if_neg (by omega)]
  split
  · omega
  · rw [if_neg (by omega)]; omega

theorem rV_facts {n : Int} (h0 : 0 ≤ n) (h2 : n ≤ 1099511627776) : n ≤ rV n ∧ rV n ≤ 1099511627776 ∧ 0 ≤ rV n := by
  unfold rV
  split
  · rename_i h
    obtain ⟨a, b, c⟩ := of_spec h
    have := sz_le (i := ofV n + 1) (by omega)
    exact ⟨b, by omega, by omega⟩
  · have := up_facts (n := n) (by omega) h2
    exact ⟨this.1, this.2.2.2, by omega⟩

theorem rV_mono {n m : Int} (h0 : 0 ≤ n) (h : n ≤ m) (h2 : m ≤ 1099511627776) : rV n ≤ rV m := by
  unfold rV
  by_cases c : m ≤ 32768
  · rw [if_pos (by omega), if_pos c]
    obtain ⟨a, b, d⟩ := of_spec c
    obtain ⟨a', b', d'⟩ := of_spec (s := n) (by omega)
    rcases Nat.lt_or_ge (ofV m) (ofV n) with hlt | hge
    · have := d' _ hlt
      omega
    · rcases Nat.lt_or_ge (ofV n) (ofV m) with h1 | h1
      · have := sz_mono (i := ofV n + 1) (j := ofV m + 1) (by omega) (by omega)
        omega
      · rw [show ofV n = ofV m by omega]; exact Int.le_refl _
  · rw [if_neg c]
    have hu := up_facts (n := m) (by omega) h2
    split
    · rename_i hn
      have := sz_le (i := ofV n + 1) (by have := (of_spec hn).1; omega)
      omega
    · have hv := up_facts (n := n) (by omega) (by omega)
      omega

theorem rV_idem {n : Int} (h0 : 0 ≤ n) (h2 : n ≤ 1099511627776) : rV (rV n) = rV n := by
  by_cases c : n ≤ 32768
  · obtain ⟨a, b, d⟩ := of_spec c
    have e : rV n = sz (ofV n + 1) := by unfold rV; rw [if_pos c]
    have hl := sz_le (i := ofV n + 1) (by omega)
    rw [e]
    have : ofV (sz (ofV n + 1)) = ofV n := of_is hl a (Int.le_refl _) (fun h hh => by
      exact sz_mono (by omega) (by omega))
    unfold rV
    rw [if_pos hl, this]
  · obtain ⟨a, b, d, e⟩ := up_facts (n := n) (by omega) h2
    have e1 : rV n = upV n 8192 := by unfold rV; rw [if_neg c]
    rw [e1]
    unfold rV
    rw [if_neg (by omega)]
    generalize upV n 8192 = m at *
    unfold upV
    rw [if_neg (by omega), if_pos d]

theorem round_any (n : Int) (w : World) (h0 : 0 ≤ n) (h2 : n ≤ 1099511627776) : Calls Try.prog 16 #[.int .u64 n] w fun r w' => r = .returned (.tuple #[.int .u64 (rV n), .int .i64 0]) ∧ Ext w w' := by
  unfold rV
  by_cases c : n ≤ 32768
  · rw [if_pos c]; exact round_small n w h0 c
  · rw [if_neg c]; exact (round_big n w (by omega) h2).mono fun _ _ ⟨a, b⟩ => ⟨a, b ▸ Ext.refl _⟩

theorem pow_class : ∀ k : Nat, k < 13 → ofV (2 ^ (k + 3)) + 1 < 68 ∧ sz (ofV (2 ^ (k + 3)) + 1) = 2 ^ (k + 3) := by decide +kernel

set_option maxRecDepth 100000 in
set_option maxHeartbeats 2000000 in
theorem powers_in (k : Nat) (a b lo hi : Int) (W : World) (hk : k < 13) (a0 : 0 ≤ a) (a1 : a ≤ 1099511627776) (b0 : 0 ≤ b) (b1 : b ≤ 1099511627776) (hcase : (a ≤ b ∧ lo = a ∧ hi = b) ∨ (b < a ∧ lo = b ∧ hi = a)) :
    Calls Try.prog 8 #[.int .i64 ((k : Int) + 3), .int .u64 a, .int .u64 b] W fun r w' => r = .returned (.bool true) ∧ Ext W w' := by
  obtain ⟨p1, p2⟩ := pow_class k hk
  have q0 : (2 : Int) ^ (k + 3) ≤ 32768 := by
    have : (2 : Nat) ^ (k + 3) ≤ 2 ^ 15 := Nat.pow_le_pow_right (by omega) (by omega)
    have h2 : ((2 ^ (k + 3) : Nat) : Int) ≤ ((2 ^ 15 : Nat) : Int) := by exact_mod_cast this
    simpa using h2
  have q1 : (0 : Int) ≤ 2 ^ (k + 3) := Int.pow_nonneg (by omega)
  have hW : wrap64 ((2 : Int) ^ (k + 3)) = 2 ^ (k + 3) := IntWalk.wrap64_in _ ⟨by omega, by omega⟩
  have hb := (show ((2 : Int) ^ (k + 3) != wrap64 ((2 : Int) ^ (k + 3))) = false by rw [hW]; simp)
  have HW := Lib.hid hW
  clear hW
  have HO := Lib.hid (of_yes (2 ^ (k + 3)))
  have lo1 : 0 ≤ lo ∧ lo ≤ hi ∧ hi ≤ 1099511627776 := by omega
  obtain ⟨l0, l1, l2⟩ := lo1
  obtain ⟨r1, r2, r3⟩ := rV_facts l0 (by omega)
  obtain ⟨s1, s2, s3⟩ := rV_facts (n := hi) (by omega) l2
  have r4 := rV_mono l0 l1 l2
  have HZ := Lib.hid (rV_idem l0 (by omega))
  have HR1 := Lib.hid (fun w => round_any lo w l0 (by omega))
  have HR2 := Lib.hid (fun w => round_any hi w (by omega) l2)
  have HR3 := Lib.hid (fun w => round_any (rV lo) w r3 r2)
  rw [HZ.out] at HR3
  clear HZ
  generalize rV lo = x at *
  generalize rV hi = y at *
  generalize ofV (2 ^ (k + 3)) = q at *
  have HV : Hid (∃ P : Int, 0 ≤ P ∧ P ≤ 32768 ∧ wrap64 ((2 : Int) ^ (k + 3)) = P ∧ (P != wrap64 ((2 : Int) ^ (k + 3))) = false ∧ sz (q + 1) = P ∧ ∀ w, Calls Try.prog 14 #[.int .i64 P] w fun r w' => r = .returned (.tuple #[.int .i64 ((q : Int) + 1), .int .i64 0]) ∧ Ext w w') :=
    Lib.hid ⟨2 ^ (k + 3), q1, q0, HW.out, hb, p2, fun w => HO.out w q1 q0⟩
  clear q0 q1 hb HW HO p2
  obtain ⟨P, P0, P1, hP, hb, p2, hO⟩ := HV.out
  have HP := Lib.hid hP
  have P2 := Lib.hid p2
  have HO := Lib.hid hO
  have HB := Lib.hid hb
  clear hP hO HV hb
  have p3 : (q : Int) + 1 < 68 := by omega
  clear p2
  have HFA := Lib.hid (And.intro r1 (And.intro r2 (And.intro r3 (And.intro s1 (And.intro s2 (And.intro s3 r4))))))
  have HFB := Lib.hid (And.intro P0 (And.intro P1 (And.intro p1 p3)))
  clear r1 r2 r3 s1 s2 s3 r4 P0 P1 p1 p3 l0 l1 l2
  rcases hcase with ⟨c1, rfl, rfl⟩ | ⟨c1, rfl, rfl⟩
  all_goals
    go_enter Try.func8, Try.ntmps8
    go_wp2_with fail
    rw [HP.out]
    refine (HO.out _).mono ?_
    obtain ⟨P0, P1, p1, p3⟩ := HFB.out
    obtain ⟨r1, r2, r3, s1, s2, s3, r4⟩ := HFA.out
    have hb := HB.out
    have d1 : decide ((q : Int) + 1 < 1) = false := decide_eq_false (by omega)
    have d2 : decide (68 ≤ (q : Int) + 1) = false := decide_eq_false (by omega)
    clear HFA HFB
    rintro r w1 ⟨rfl, hx⟩
    have HX := Lib.hid hx
    clear hx
    go_wp2_with fail
    refine (table_any _).mono ?_
    rintro r w2 hp2
    obtain ⟨v, rfl, ho, hx⟩ := hp2
    obtain ⟨g, cap, rfl, hb, hc, hm, ht⟩ := tab_open ho
    have c0 := ht.a (q + 1) p1
    rw [P2.out] at c0
    have HX2 := Lib.hid (HX.out.trans hx)
    clear ho hx ht
    go_wp2_with fail
    go_quiet (fail)
    go_wp2_with fail
    refine (HR1.out _).mono ?_
    rintro r w3 ⟨rfl, hx3⟩
    have HX3 := Lib.hid ((HX2.out.drewN _).trans hx3)
    clear hx3 c0
    go_wp2_with fail
    refine (HR2.out _).mono ?_
    rintro r w4 ⟨rfl, hx4⟩
    have HX4 := Lib.hid (HX3.out.trans hx4)
    clear hx4
    go_wp2_with fail
    refine (HR3.out _).mono ?_
    rintro r w5 ⟨rfl, hx5⟩
    have HX5 := Lib.hid (HX4.out.trans hx5)
    clear hx5
    go_wp2_with (go_at_call 13; refine (awake_any _).mono ?_; rintro r w6 ⟨rfl, hx6⟩)
    go_ret
    exact ⟨rfl, HX5.out.trans hx6⟩

set_option maxRecDepth 100000 in
set_option maxHeartbeats 1000000 in
theorem powers_out (k a b : Int) (W : World) (h : k < 3 ∨ 15 < k ∨ 1099511627776 < a ∨ 1099511627776 < b) :
    Calls Try.prog 8 #[.int .i64 k, .int .u64 a, .int .u64 b] W fun r w' => r = .returned (.bool true) ∧ Ext W w' := by
  by_cases h1 : k < 3
  · clear h
    go_enter Try.func8, Try.ntmps8
    go_wp2
    go_ret
    exact ⟨rfl, Ext.refl _⟩
  by_cases h2 : 15 < k
  · clear h
    go_enter Try.func8, Try.ntmps8
    go_wp2
    go_ret
    exact ⟨rfl, Ext.refl _⟩
  by_cases h3 : 1099511627776 < a
  · clear h
    go_enter Try.func8, Try.ntmps8
    go_wp2
    go_ret
    exact ⟨rfl, Ext.refl _⟩
  have h4 : 1099511627776 < b := by omega
  clear h
  go_enter Try.func8, Try.ntmps8
  go_wp2
  go_ret
  exact ⟨rfl, Ext.refl _⟩

theorem walk_ClassPowers (k : Int) (wk : (Lit.int .i64 k).wf = true) (a : Int) (wa : (Lit.int .u64 a).wf = true) (b : Int) (wb : (Lit.int .u64 b).wf = true) (W : World) :
    Calls Try.prog 8 #[.int .i64 k, .int .u64 a, .int .u64 b] W fun r w' => r = .returned (.bool true) ∧ Ext W w' := by
  obtain ⟨a0, a1⟩ := u64_of wa
  obtain ⟨b0, b1⟩ := u64_of wb
  by_cases h : k < 3 ∨ 15 < k ∨ 1099511627776 < a ∨ 1099511627776 < b
  · exact powers_out k a b W h
  · have e : (((k - 3).toNat : Nat) : Int) + 3 = k := by omega
    by_cases c : a ≤ b
    · have := powers_in (k - 3).toNat a b a b W (by omega) a0 (by omega) b0 (by omega) (.inl ⟨c, rfl, rfl⟩)
      rwa [e] at this
    · have := powers_in (k - 3).toNat a b b a W (by omega) a0 (by omega) b0 (by omega) (.inr ⟨by omega, rfl, rfl⟩)
      rwa [e] at this

end Go.Proofs.Ytiocfifgfjkgfaa
