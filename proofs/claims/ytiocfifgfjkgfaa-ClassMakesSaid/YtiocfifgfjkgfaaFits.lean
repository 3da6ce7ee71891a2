/- The walks of the laws ClassFits and ClassSlots. -/
import Derived.Test.YtiocfifgfjkgfaaOfW
import Derived.Test.YtiocfifgfjkgfaaExact
namespace Go.Proofs.Ytiocfifgfjkgfaa
open Go.RowKit
set_option linter.unusedVariables false

theorem int_of {a : Int} (h : (Lit.int .i64 a).wf = true) : -9223372036854775808 ≤ a ∧ a ≤ 9223372036854775807 := by
  simp [Lit.wf, IntKind.min, IntKind.max, IntKind.signed, IntKind.bits] at h; omega

set_option maxHeartbeats 1000000 in
theorem fits_no (s : Int) (W : World) (h : s < 0 ∨ 32768 < s) : Calls Try.prog 6 #[.int .i64 s] W fun r w' => r = .returned (.bool true) ∧ Ext W w' := by
  have H := Lib.hid (of_no s W h)
  rcases h with h | h
  all_goals
    go_enter Try.func6, Try.ntmps6
    go_wp2_with fail
    refine H.out.mono ?_
    rintro r w1 ⟨rfl, hx⟩
    have HX := Lib.hid hx
    clear hx
    go_wp2_with fail
    refine (table_any _).mono ?_
    rintro r w2 hp2
    obtain ⟨v, rfl, ho, hx⟩ := hp2
    have HX2 := Lib.hid (HX.out.trans hx)
    clear ho hx
    go_wp2_with (go_at_call 13; refine (awake_any _).mono ?_; rintro r w3 ⟨rfl, hx3⟩)
    go_ret
    exact ⟨rfl, HX2.out.trans hx3⟩

set_option maxHeartbeats 2000000 in
theorem fits_yes (s : Int) (W : World) (h0 : 0 ≤ s) (h1 : s ≤ 32768) : Calls Try.prog 6 #[.int .i64 s] W fun r w' => r = .returned (.bool true) ∧ Ext W w' := by
  obtain ⟨hof, hs, hlo⟩ := of_spec h1
  have HOF := Lib.hid (of_yes s)
  have HR := Lib.hid (round_small s)
  have hp := sz_pos (i := ofV s + 1) (by omega) (by omega)
  have hl := sz_le (i := ofV s + 1) (by omega)
  have hlo' : 0 < ofV s → sz (ofV s) < s := fun h => by
    have := hlo (ofV s - 1) (by omega)
    rwa [show ofV s - 1 + 1 = ofV s by omega] at this
  clear hlo
  generalize ofV s = k at *
  generalize hz : sz (k + 1) = z at *
  have HZ := Lib.hid hz
  clear hz
  have k1 : (k : Int) + 1 < 68 := by omega
  by_cases hk : 0 < k
  · have hy := hlo' hk
    clear hlo'
    generalize hyy : sz k = y at *
    have HY := Lib.hid hyy
    clear hyy
    go_enter Try.func6, Try.ntmps6
    go_wp2_with fail
    refine (HOF.out _ h0 h1).mono ?_
    rintro r w1 ⟨rfl, hx⟩
    have HX := Lib.hid hx
    clear hx
    go_wp2_with fail
    refine (table_any _).mono ?_
    rintro r w2 hp2
    obtain ⟨v, rfl, ho, hx⟩ := hp2
    obtain ⟨g, cap, rfl, hb, hc, hm, ht⟩ := tab_open ho
    have c0 := ht.a (k + 1) (by omega)
    have c1 := ht.a k (by omega)
    rw [HZ.out] at c0
    rw [HY.out] at c1
    have HX2 := Lib.hid (HX.out.trans hx)
    have hg := ht.lt
    clear ho hx ht
    go_wp2_with fail
    refine (HR.out _ h0 h1).mono ?_
    rintro r w3 ⟨rfl, hx3⟩
    have d0 := (hx3.cell _ _ hg).trans c0
    have HX3 := Lib.hid (HX2.out.trans hx3)
    clear hx3 c0 c1
    go_wp2_with (go_at_call 13; refine (awake_any _).mono ?_; rintro r w4 ⟨rfl, hx4⟩)
    go_ret
    exact ⟨rfl, HX3.out.trans hx4⟩
  · obtain rfl : k = 0 := by omega
    clear hlo'
    go_enter Try.func6, Try.ntmps6
    go_wp2_with fail
    refine (HOF.out _ h0 h1).mono ?_
    rintro r w1 ⟨rfl, hx⟩
    have HX := Lib.hid hx
    clear hx
    go_wp2_with fail
    refine (table_any _).mono ?_
    rintro r w2 hp2
    obtain ⟨v, rfl, ho, hx⟩ := hp2
    obtain ⟨g, cap, rfl, hb, hc, hm, ht⟩ := tab_open ho
    have c0 := ht.a (0 + 1) (by omega)
    rw [HZ.out] at c0
    have HX2 := Lib.hid (HX.out.trans hx)
    have hg := ht.lt
    simp only [Nat.zero_add, Nat.one_mul] at c0
    clear ho hx ht
    go_wp2_with fail
    refine (HR.out _ h0 h1).mono ?_
    rintro r w3 ⟨rfl, hx3⟩
    have d0 := (hx3.cell _ _ hg).trans c0
    have HX3 := Lib.hid (HX2.out.trans hx3)
    clear hx3 c0
    go_wp2_with (go_at_call 13; refine (awake_any _).mono ?_; rintro r w4 ⟨rfl, hx4⟩)
    go_ret
    exact ⟨rfl, HX3.out.trans hx4⟩

theorem walk_ClassFits (s : Int) (ws : (Lit.int .i64 s).wf = true) (W : World) : Calls Try.prog 6 #[.int .i64 s] W fun r w' => r = .returned (.bool true) ∧ Ext W w' := by
  by_cases h : s < 0 ∨ 32768 < s
  · exact fits_no s W h
  · exact fits_yes s W (by omega) (by omega)

/-! ### slots -/
theorem tab_facts : ∀ k, k < 67 → 8 ≤ (tabC.getD (k + 1) zeroC).a ∧ (tabC.getD (k + 1) zeroC).a ≤ 32768 ∧ 1 ≤ (tabC.getD (k + 1) zeroC).b ∧ (tabC.getD (k + 1) zeroC).b ≤ 15 ∧ (tabC.getD (k + 1) zeroC).d = magicV (tabC.getD (k + 1) zeroC).a := by decide +kernel

theorem TabAt.four {w : World} {g : Nat} (h : TabAt w g) (i : Nat) (hi : i < 68) : w.cell? ⟨g, i * 4, none⟩ = some (.int .i64 (tabC.getD i zeroC).a) ∧ w.cell? ⟨g, i * 4 + 1, none⟩ = some (.int .i64 (tabC.getD i zeroC).b) ∧ w.cell? ⟨g, i * 4 + 2, none⟩ = some (.int .i64 (tabC.getD i zeroC).c) ∧ w.cell? ⟨g, i * 4 + 3, none⟩ = some (.int .u32 (tabC.getD i zeroC).d) := by
  have hi' : i < tabC.length := by rw [tab_len]; exact hi
  obtain ⟨a, b, c, d⟩ := cls_at tabC i hi'
  have e : tabC.getD i zeroC = tabC[i] := by simp [List.getD, hi']
  rw [e]
  exact ⟨(h.all _ (by omega)).trans a, (h.all _ (by omega)).trans b, (h.all _ (by omega)).trans c, (h.all _ (by omega)).trans d⟩

set_option maxHeartbeats 1000000 in
theorem slots_no (k x : Int) (W : World) (h : k < 1 ∨ 68 ≤ k) : Calls Try.prog 7 #[.int .i64 k, .int .u32 x] W fun r w' => r = .returned (.bool true) ∧ Ext W w' := by
  rcases h with h | h
  all_goals
    go_enter Try.func7, Try.ntmps7
    go_wp2_with fail
    refine (table_any _).mono ?_
    rintro r w2 hp2
    obtain ⟨v, rfl, ho, hx⟩ := hp2
    obtain ⟨g, cap, rfl, hb, hc, hm, ht⟩ := tab_open ho
    have HX2 := Lib.hid hx
    clear ho hx ht
    go_wp2_with (go_at_call 13; refine (awake_any _).mono ?_; rintro r w3 ⟨rfl, hx3⟩)
    go_ret
    exact ⟨rfl, HX2.out.trans hx3⟩

set_option maxHeartbeats 1000000 in
theorem slots_yes (k : Nat) (x : Int) (W : World) (hk : k < 67) (x0 : 0 ≤ x) (x1 : x ≤ 4294967295) : Calls Try.prog 7 #[.int .i64 ((k : Int) + 1), .int .u32 x] W fun r w' => r = .returned (.bool true) ∧ Ext W w' := by
  obtain ⟨a1, a2, b1, b2, hd⟩ := tab_facts k hk
  have k1 : (k : Int) + 1 < 68 := by omega
  have HF := Lib.hid (fun (w : World) (g : Nat) (h : TabAt w g) => h.four (k + 1) (by omega))
  generalize tabC.getD (k + 1) zeroC = c at *
  obtain ⟨ca, cb, cc, cd⟩ := c
  dsimp only at *
  subst hd
  have m0 := magic_range (d := ca) (by omega)
  have hm : 0 ≤ x % (cb * 8192) ∧ x % (cb * 8192) < cb * 8192 := ⟨Int.emod_nonneg _ (by omega), Int.emod_lt_of_pos _ (by omega)⟩
  have HE := Lib.hid (exact_plain ca (x % (cb * 8192)) (by omega) a2 hm.1 (.inl (by omega)))
  obtain ⟨hm0, hm1⟩ := hm
  have hq : 0 ≤ x % (cb * 8192) * magicV ca ∧ x % (cb * 8192) * magicV ca ≤ 122880 * 4294967295 := ⟨Int.mul_nonneg hm0 m0.1, Int.mul_le_mul (by omega) m0.2 m0.1 (by omega)⟩
  obtain ⟨hq0, hq1⟩ := hq
  have hqe : (x % (cb * 8192) * magicV ca / 4294967296 == x % (cb * 8192) / ca) = true := by rw [beq_iff_eq]; exact HE.out
  obtain ⟨m00, m01⟩ := m0
  clear HE
  go_enter Try.func7, Try.ntmps7
  go_wp2_with fail
  refine (table_any _).mono ?_
  rintro r w2 hp2
  obtain ⟨v, rfl, ho, hx⟩ := hp2
  obtain ⟨g, cap, rfl, hb, hc, hmx, ht⟩ := tab_open ho
  obtain ⟨c0, c1, c2, c3⟩ := HF.out _ _ ht
  have HX2 := Lib.hid hx
  clear ho hx ht
  go_wp2_with fail
  have d0 : (w2.alloc (.cells #[.int .i64 ca, .int .i64 cb, .int .i64 cc, .int .u32 (magicV ca)] 30)).cell? ⟨w2.heap.size, 0, none⟩ = some (.int .i64 ca) := by simp
  have d3 : (w2.alloc (.cells #[.int .i64 ca, .int .i64 cb, .int .i64 cc, .int .u32 (magicV ca)] 30)).cell? ⟨w2.heap.size, 3, none⟩ = some (.int .u32 (magicV ca)) := by simp
  have dz : w2.heap.size < (w2.alloc (.cells #[.int .i64 ca, .int .i64 cb, .int .i64 cc, .int .u32 (magicV ca)] 30)).heap.size := by simp
  have dx : Ext w2 (w2.alloc (.cells #[.int .i64 ca, .int .i64 cb, .int .i64 cc, .int .u32 (magicV ca)] 30)) := (Ext.refl _).alloc _ _
  generalize w2.alloc (.cells #[.int .i64 ca, .int .i64 cb, .int .i64 cc, .int .u32 (magicV ca)] 30) = W2 at d0 d3 dz dx ⊢
  have HD := Lib.hid dx
  have l0 := later_cell d0 dz
  have l3 := later_cell d3 dz
  clear dx d0 d3
  refine wp_region_later W2 (by kernel_rfl) (by kernel_rfl) (Ext.refl _) ?_
  repeat (go_big_quiet_step ((go_at_call 13; exact later_call (awake_any _))))
  refine wpQuiet_nil ?_
  rintro ⟨w5, hg5⟩
  dsimp only
  go_wp2
  go_ret
  exact ⟨rfl, (HX2.out.trans HD.out).trans hg5⟩

theorem walk_ClassSlots (k : Int) (wk : (Lit.int .i64 k).wf = true) (x : Int) (wx : (Lit.int .u32 x).wf = true) (W : World) : Calls Try.prog 7 #[.int .i64 k, .int .u32 x] W fun r w' => r = .returned (.bool true) ∧ Ext W w' := by
  by_cases h : k < 1 ∨ 68 ≤ k
  · exact slots_no k x W h
  · obtain ⟨b0, b1⟩ := u32_of wx
    have := slots_yes (k - 1).toNat x W (by omega) b0 b1
    rwa [show (((k - 1).toNat : Nat) : Int) + 1 = k by omega] at this

end Go.Proofs.Ytiocfifgfjkgfaa
