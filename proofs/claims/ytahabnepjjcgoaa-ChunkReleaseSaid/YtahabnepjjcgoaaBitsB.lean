/- The contracts of bits: parts with each of its three functions, Set, Clear, Count. -/
import Derived.Test.YtahabnepjjcgoaaBitsA
namespace Go.Proofs.Ytahabnepjjcgoaa
open Go.RowKit
set_option linter.unusedVariables false

theorem mask_is (a m : Nat) (hm : m ≤ 64) (h : a + m ≤ 64) : IntKind.u64.wrap ((18446744073709551615 : Int) / 2 ^ (64 - m) * 2 ^ a) = ((maskN a m : Nat) : Int) := by
  have e : (18446744073709551615 : Int) / 2 ^ (64 - m) * 2 ^ a = ((maskN a m : Nat) : Int) := by
    have h1 := ones_div m hm
    have h2 : (18446744073709551615 : Int) / 2 ^ (64 - m) = (((2 ^ 64 - 1) / 2 ^ (64 - m) : Nat) : Int) := by
      rw [Int.natCast_ediv, Int.natCast_pow]; rfl
    rw [h2, h1]
    unfold maskN
    rw [Nat.mul_comm, Int.natCast_mul, Int.natCast_pow]; rfl
  rw [e]
  exact wrap_nat _ (maskN_lt a m h)

theorem setB_zero (f : Nat → Bool) (i : Nat) : setB f i 0 = f := by
  funext j; unfold setB inB; simp; omega
theorem setB_more (f : Nat → Bool) (i d m : Nat) : setB (setB f i d) (i + d) m = setB f i (d + m) := by
  funext j
  unfold setB inB
  rw [Bool.or_assoc]
  congr 1
  rw [Bool.eq_iff_iff]; simp; omega
theorem clrB_zero (f : Nat → Bool) (i : Nat) : clrB f i 0 = f := by
  funext j; unfold clrB inB; simp; omega
theorem clrB_more (f : Nat → Bool) (i d m : Nat) : clrB (clrB f i d) (i + d) m = clrB f i (d + m) := by
  funext j
  unfold clrB inB
  rw [Bool.and_assoc]
  congr 1
  rw [Bool.eq_iff_iff]; simp; omega

theorem RowAt.set {w : World} {b o : Nat} {f : Nat → Bool} (h : RowAt w b o f) {k a m : Nat} (hk : k < 8) (ha : a + m ≤ 64) : RowAt (w.setCell ⟨b, o + k, none⟩ (.int .u64 (word f k ||| maskN a m : Nat))) b o (setB f (64 * k + a) m) where
  lt := by rw [World.size_setCell]; exact h.lt
  cell := fun j hj => by
    by_cases e : k = j
    · subst e
      rw [set_same (h.cell k hk), word_or f k a m ha]
    · rw [set_other (ne_off (by omega)), h.cell j hj, word_congr (f := f) (g := setB f (64 * k + a) m) fun x hx => by
        unfold setB inB; rw [decide_eq_false (by omega), Bool.or_false]]
  frozen := fun j => (World.frozen?_setCell _ _ _ _).trans (h.frozen j)

theorem RowAt.clr {w : World} {b o : Nat} {f : Nat → Bool} (h : RowAt w b o f) {k a m : Nat} (hk : k < 8) (ha : a + m ≤ 64) : RowAt (w.setCell ⟨b, o + k, none⟩ (.int .u64 (word f k &&& (18446744073709551615 - maskN a m) : Nat))) b o (clrB f (64 * k + a) m) where
  lt := by rw [World.size_setCell]; exact h.lt
  cell := fun j hj => by
    by_cases e : k = j
    · subst e
      rw [set_same (h.cell k hk), word_andNot f k a m ha]
    · rw [set_other (ne_off (by omega)), h.cell j hj, word_congr (f := f) (g := clrB f (64 * k + a) m) fun x hx => by
        unfold clrB inB; rw [decide_eq_false (by omega), Bool.not_false, Bool.and_true]]
  frozen := fun j => (World.frozen?_setCell _ _ _ _).trans (h.frozen j)

theorem RowAt.drew {w : World} {b o : Nat} {f : Nat → Bool} (h : RowAt w b o f) : RowAt w.drew b o f := ⟨h.lt, h.cell, h.frozen⟩
theorem RowAt.drewN {w : World} {b o : Nat} {f : Nat → Bool} (h : RowAt w b o f) (n : Nat) : RowAt (w.drewN n) b o f := ⟨h.lt, h.cell, h.frozen⟩

/-- of what was there only eight cells at a place turn. -/
structure Chg8 (b o : Nat) (w w' : World) : Prop where
  chg : Chg (· = b) w w'
  rest : ∀ j, j < o ∨ o + 8 ≤ j → w'.cell? ⟨b, j, none⟩ = w.cell? ⟨b, j, none⟩
theorem Chg8.refl (b o : Nat) (w : World) : Chg8 b o w w := ⟨Chg.refl _ _, fun _ _ => rfl⟩
theorem Chg8.trans {b o : Nat} {u v w : World} (h : Chg8 b o u v) (k : Chg8 b o v w) : Chg8 b o u w := ⟨h.chg.trans k.chg (fun _ h => .inl h), fun j hj => (k.rest j hj).trans (h.rest j hj)⟩
theorem Chg8.drew {b o : Nat} {w w' : World} (h : Chg8 b o w w') : Chg8 b o w w'.drew := ⟨h.chg.drew, h.rest⟩
theorem Chg8.setCell {b o k : Nat} {w w' : World} (h : Chg8 b o w w') (hk : k < 8) (u : Value) : Chg8 b o w (w'.setCell ⟨b, o + k, none⟩ u) :=
  ⟨h.chg.setCell (p := ⟨b, o + k, none⟩) (.inl rfl) u, fun j hj => (set_other (ne_off (by omega))).trans (h.rest j hj)⟩
/-- another row of the same block stays. -/
theorem RowAt.beside {w w' : World} {b o o' : Nat} {f : Nat → Bool} (h : RowAt w b o f) (hc : Chg8 b o' w w') (ho : o + 8 ≤ o' ∨ o' + 8 ≤ o) : RowAt w' b o f :=
  ⟨Nat.lt_of_lt_of_le h.lt hc.chg.size, fun k hk => (hc.rest _ (by omega)).trans (h.cell k hk), fun j => (hc.chg.frozen _).trans (h.frozen j)⟩

/-- the memory while ones are counted. -/
structure CRel (w wr : World) (b o g : Nat) (f : Nat → Bool) (s : Nat) : Prop where
  row : RowAt wr b o f
  cell : wr.cell? ⟨g, 0, none⟩ = some (.int .i64 s)
  frozen : wr.frozen? ⟨g, 0, none⟩ = false
  chg : Chg (· = g) w wr

set_option maxRecDepth 20000 in
theorem parts_set (b o i0 n0 : Nat) (f : Nat → Bool) (w : World) (h : RowAt w b o f) (hi : i0 + n0 ≤ 512) :
    Calls Try.prog 31 #[.pointer (some ⟨b, o, none⟩), .int .i64 i0, .int .i64 n0, .func (.func 44) #[] #[]] w fun r w' => r = .returned (.tuple #[]) ∧ RowAt w' b o (setB f i0 n0) ∧ Chg8 b o w w' := by
  have HR := Lib.hid (show RowAt w b o (setB f i0 0) ∧ Chg8 b o w w from ⟨by rw [setB_zero]; exact h, Chg8.refl _ _ _⟩)
  skip
  clear h
  go_enter Try.func31, Try.ntmps31
  go_wp2
  go_loopw [1, 2, 8] (fun vi vn vk wr => ∃ d k : Nat, d ≤ n0 ∧ vi = .int .i64 ((i0 + d : Nat) : Int) ∧ vn = .int .i64 ((n0 - d : Nat) : Int) ∧ vk = .int .i64 k ∧ (d = n0 ∨ k = (i0 + d) / 64) ∧ Hid (RowAt wr b o (setB f i0 d) ∧ Chg8 b o w wr)) (fun _ vn _ _ => (intOf vn).toNat)
  case atStart => exact ⟨0, i0 / 64, Nat.zero_le _, by simp, by simp, by go_num, .inr (by simp), HR⟩
  case round =>
    obtain ⟨d, k, hd, rfl, rfl, rfl, hk, hR⟩ := hrel
    clear HR
    by_cases hlt : d < n0
    · have HK := Lib.hid (hk.resolve_left (by omega))
      clear hk
      obtain ⟨a, ha⟩ : ∃ a, a = (i0 + d) % 64 := ⟨_, rfl⟩
      obtain ⟨c, hc⟩ : ∃ c, c = 64 - a := ⟨_, rfl⟩
      have E1 : (((i0 + d : Nat)) : Int) % 64 = (a : Int) := by omega
      have E2 : (64 : Int) - (a : Int) = (c : Int) := by omega
      have ha64 : a < 64 := by omega
      have hk8 : (k : Int) < 8 := by have := HK.out; omega
      have HI := Lib.hid (show i0 + d = 64 * k + a by have := HK.out; omega)
      have hca : a + c ≤ 64 := by omega
      have hcc : 0 < c := by omega
      obtain ⟨i, hi2⟩ : ∃ i, i = i0 + d := ⟨_, rfl⟩
      obtain ⟨n, hn2⟩ : ∃ n, n = n0 - d := ⟨_, rfl⟩
      rw [← hi2] at E1 HI ⊢
      rw [← hn2]
      have HI2 := Lib.hid hi2
      have HN2 := Lib.hid hn2
      have hnp : 0 < n := by omega
      have hib : i ≤ 512 := by omega
      have hnb : n ≤ 512 := by omega
      have HA := Lib.hid ha
      have HC := Lib.hid hc
      have HD := Lib.hid (And.intro hd (And.intro hlt hi))
      clear hi2 hn2 ha hc hlt hd hi
      have key : ∃ m : Nat, 0 < m ∧ m ≤ n ∧ m ≤ c ∧ ((m = n ∧ (n : Int) ≤ (c : Int)) ∨ (m = c ∧ (c : Int) < (n : Int))) := by
        by_cases hmin : (n : Int) ≤ (c : Int)
        · exact ⟨n, hnp, Nat.le_refl _, by omega, .inl ⟨rfl, hmin⟩⟩
        · exact ⟨c, hcc, by omega, Nat.le_refl _, .inr ⟨rfl, by omega⟩⟩
      obtain ⟨m, hm0, hmn, hmc, hmm⟩ := key
      have HMM := Lib.hid hmm
      have hma : a + m ≤ 64 := by omega
      have W1 : IntKind.i64.wrap (64 - (m : Int)) = ((64 - m : Nat) : Int) := by rw [IntWalk.i64_in _ (by omega)]; omega
      have W2 := mask_is a m (by omega) hma
      have hM := Lib.hid (maskN_lt a m hma)
      have hk8' : k < 8 := by omega
      have HS : Hid (∀ w', w' = wr.drew.setCell ⟨b, o + k, none⟩ (.int .u64 (word (setB f i0 d) k ||| maskN a m : Nat)) → RowAt w' b o (setB f i0 (d + m)) ∧ Chg8 b o w w') := Lib.hid (fun w' hw => by
        have e := HI.out.symm.trans HI2.out
        subst hw; exact ⟨by have := hR.out.1.drew.set (k := k) (a := a) (m := m) (by omega) hma; rwa [e, setB_more] at this, hR.out.2.drew.setCell hk8' _⟩)
      have hc0 := hR.out.1.drew.cell k hk8'
      have hf0 := hR.out.1.drew.frozen (o + k)
      skip
      have HX := Lib.hid hc0
      have hwl := Lib.hid (word_lt (setB f i0 d) k)
      clear hc0
      rcases hmm with ⟨rfl, hmin⟩ | ⟨rfl, hmin⟩
      all_goals
        go_wp2_with fail
        refine wp_region_head 10 (by kernel_rfl) (by kernel_rfl) ?_
        simp only [List.take_succ_cons, List.take_zero, List.drop_succ_cons, List.drop_zero]
        repeat (go_big_quiet_step (fail))
        refine wpQuiet_nil ?_
        go_wp2_with fail
        refine (set1_any b (o + k) _ _ _ hwl.out hM.out HX.out hf0).mono ?_
        rintro r w2 ⟨rfl, hw2⟩; have HN := Lib.hid (HS.out w2 hw2.symm); clear hw2
        clear W1 W2 hf0
        go_wp2
        go_roundw
        case rel =>
          have h1 := HI.out
          have h2 := HI2.out
          have h3 := HN2.out
          have h4 := HA.out
          have h5 := HC.out
          have h6 := HK.out
          have h7 := HMM.out
          obtain ⟨h8, h9, h10⟩ := HD.out
          refine ⟨d + _, k + 1, by omega, congrArg (Value.int IntKind.i64) (by omega), congrArg (Value.int IntKind.i64) (by omega), congrArg (Value.int IntKind.i64) (by omega), by omega, HN⟩
        case measure => simp [intOf]; omega
    · obtain rfl : d = n0 := by omega
      have e0 : ((d - d : Nat) : Int) = 0 := by omega
      rw [e0]
      clear e0 hlt hk hd
      go_wp2
      go_end0
      exact ⟨rfl, hR.out⟩

set_option maxRecDepth 20000 in
theorem parts_clr (b o i0 n0 : Nat) (f : Nat → Bool) (w : World) (h : RowAt w b o f) (hi : i0 + n0 ≤ 512) :
    Calls Try.prog 31 #[.pointer (some ⟨b, o, none⟩), .int .i64 i0, .int .i64 n0, .func (.func 45) #[] #[]] w fun r w' => r = .returned (.tuple #[]) ∧ RowAt w' b o (clrB f i0 n0) ∧ Chg8 b o w w' := by
  have HR := Lib.hid (show RowAt w b o (clrB f i0 0) ∧ Chg8 b o w w from ⟨by rw [clrB_zero]; exact h, Chg8.refl _ _ _⟩)
  skip
  clear h
  go_enter Try.func31, Try.ntmps31
  go_wp2
  go_loopw [1, 2, 8] (fun vi vn vk wr => ∃ d k : Nat, d ≤ n0 ∧ vi = .int .i64 ((i0 + d : Nat) : Int) ∧ vn = .int .i64 ((n0 - d : Nat) : Int) ∧ vk = .int .i64 k ∧ (d = n0 ∨ k = (i0 + d) / 64) ∧ Hid (RowAt wr b o (clrB f i0 d) ∧ Chg8 b o w wr)) (fun _ vn _ _ => (intOf vn).toNat)
  case atStart => exact ⟨0, i0 / 64, Nat.zero_le _, by simp, by simp, by go_num, .inr (by simp), HR⟩
  case round =>
    obtain ⟨d, k, hd, rfl, rfl, rfl, hk, hR⟩ := hrel
    clear HR
    by_cases hlt : d < n0
    · have HK := Lib.hid (hk.resolve_left (by omega))
      clear hk
      obtain ⟨a, ha⟩ : ∃ a, a = (i0 + d) % 64 := ⟨_, rfl⟩
      obtain ⟨c, hc⟩ : ∃ c, c = 64 - a := ⟨_, rfl⟩
      have E1 : (((i0 + d : Nat)) : Int) % 64 = (a : Int) := by omega
      have E2 : (64 : Int) - (a : Int) = (c : Int) := by omega
      have ha64 : a < 64 := by omega
      have hk8 : (k : Int) < 8 := by have := HK.out; omega
      have HI := Lib.hid (show i0 + d = 64 * k + a by have := HK.out; omega)
      have hca : a + c ≤ 64 := by omega
      have hcc : 0 < c := by omega
      obtain ⟨i, hi2⟩ : ∃ i, i = i0 + d := ⟨_, rfl⟩
      obtain ⟨n, hn2⟩ : ∃ n, n = n0 - d := ⟨_, rfl⟩
      rw [← hi2] at E1 HI ⊢
      rw [← hn2]
      have HI2 := Lib.hid hi2
      have HN2 := Lib.hid hn2
      have hnp : 0 < n := by omega
      have hib : i ≤ 512 := by omega
      have hnb : n ≤ 512 := by omega
      have HA := Lib.hid ha
      have HC := Lib.hid hc
      have HD := Lib.hid (And.intro hd (And.intro hlt hi))
      clear hi2 hn2 ha hc hlt hd hi
      have key : ∃ m : Nat, 0 < m ∧ m ≤ n ∧ m ≤ c ∧ ((m = n ∧ (n : Int) ≤ (c : Int)) ∨ (m = c ∧ (c : Int) < (n : Int))) := by
        by_cases hmin : (n : Int) ≤ (c : Int)
        · exact ⟨n, hnp, Nat.le_refl _, by omega, .inl ⟨rfl, hmin⟩⟩
        · exact ⟨c, hcc, by omega, Nat.le_refl _, .inr ⟨rfl, by omega⟩⟩
      obtain ⟨m, hm0, hmn, hmc, hmm⟩ := key
      have HMM := Lib.hid hmm
      have hma : a + m ≤ 64 := by omega
      have W1 : IntKind.i64.wrap (64 - (m : Int)) = ((64 - m : Nat) : Int) := by rw [IntWalk.i64_in _ (by omega)]; omega
      have W2 := mask_is a m (by omega) hma
      have hM := Lib.hid (maskN_lt a m hma)
      have hk8' : k < 8 := by omega
      have HS : Hid (∀ w', w' = wr.drew.setCell ⟨b, o + k, none⟩ (.int .u64 (word (clrB f i0 d) k &&& (18446744073709551615 - maskN a m) : Nat)) → RowAt w' b o (clrB f i0 (d + m)) ∧ Chg8 b o w w') := Lib.hid (fun w' hw => by
        have e := HI.out.symm.trans HI2.out
        subst hw; exact ⟨by have := hR.out.1.drew.clr (k := k) (a := a) (m := m) (by omega) hma; rwa [e, clrB_more] at this, hR.out.2.drew.setCell hk8' _⟩)
      have hc0 := hR.out.1.drew.cell k hk8'
      have hf0 := hR.out.1.drew.frozen (o + k)
      skip
      have HX := Lib.hid hc0
      have hwl := Lib.hid (word_lt (clrB f i0 d) k)
      clear hc0
      rcases hmm with ⟨rfl, hmin⟩ | ⟨rfl, hmin⟩
      all_goals
        go_wp2_with fail
        refine wp_region_head 10 (by kernel_rfl) (by kernel_rfl) ?_
        simp only [List.take_succ_cons, List.take_zero, List.drop_succ_cons, List.drop_zero]
        repeat (go_big_quiet_step (fail))
        refine wpQuiet_nil ?_
        go_wp2_with fail
        refine (clr1_any b (o + k) _ _ _ hwl.out hM.out HX.out hf0).mono ?_
        rintro r w2 ⟨rfl, hw2⟩; have HN := Lib.hid (HS.out w2 hw2.symm); clear hw2
        clear W1 W2 hf0
        go_wp2
        go_roundw
        case rel =>
          have h1 := HI.out
          have h2 := HI2.out
          have h3 := HN2.out
          have h4 := HA.out
          have h5 := HC.out
          have h6 := HK.out
          have h7 := HMM.out
          obtain ⟨h8, h9, h10⟩ := HD.out
          refine ⟨d + _, k + 1, by omega, congrArg (Value.int IntKind.i64) (by omega), congrArg (Value.int IntKind.i64) (by omega), congrArg (Value.int IntKind.i64) (by omega), by omega, HN⟩
        case measure => simp [intOf]; omega
    · obtain rfl : d = n0 := by omega
      have e0 : ((d - d : Nat) : Int) = 0 := by omega
      rw [e0]
      clear e0 hlt hk hd
      go_wp2
      go_end0
      exact ⟨rfl, hR.out⟩

set_option maxRecDepth 20000 in
theorem parts_cnt (b o i0 n0 g : Nat) (f : Nat → Bool) (w : World) (h : CRel w w b o g f 0 ∧ b ≠ g) (hi : i0 + n0 ≤ 512) :
    Calls Try.prog 31 #[.pointer (some ⟨b, o, none⟩), .int .i64 i0, .int .i64 n0, .func (.func 32) #[] #[.pointer (some ⟨g, 0, none⟩)]] w fun r w' => r = .returned (.tuple #[]) ∧ CRel w w' b o g f (cnt f i0 n0) := by
  have HR := Lib.hid (show CRel w w b o g f (cnt f i0 0) from h.1)
  have hbg := h.2
  clear h
  go_enter Try.func31, Try.ntmps31
  go_wp2
  go_loopw [1, 2, 8] (fun vi vn vk wr => ∃ d k : Nat, d ≤ n0 ∧ vi = .int .i64 ((i0 + d : Nat) : Int) ∧ vn = .int .i64 ((n0 - d : Nat) : Int) ∧ vk = .int .i64 k ∧ (d = n0 ∨ k = (i0 + d) / 64) ∧ Hid (CRel w wr b o g f (cnt f i0 d))) (fun _ vn _ _ => (intOf vn).toNat)
  case atStart => exact ⟨0, i0 / 64, Nat.zero_le _, by simp, by simp, by go_num, .inr (by simp), HR⟩
  case round =>
    obtain ⟨d, k, hd, rfl, rfl, rfl, hk, hR⟩ := hrel
    clear HR
    by_cases hlt : d < n0
    · have HK := Lib.hid (hk.resolve_left (by omega))
      clear hk
      obtain ⟨a, ha⟩ : ∃ a, a = (i0 + d) % 64 := ⟨_, rfl⟩
      obtain ⟨c, hc⟩ : ∃ c, c = 64 - a := ⟨_, rfl⟩
      have E1 : (((i0 + d : Nat)) : Int) % 64 = (a : Int) := by omega
      have E2 : (64 : Int) - (a : Int) = (c : Int) := by omega
      have ha64 : a < 64 := by omega
      have hk8 : (k : Int) < 8 := by have := HK.out; omega
      have HI := Lib.hid (show i0 + d = 64 * k + a by have := HK.out; omega)
      have hca : a + c ≤ 64 := by omega
      have hcc : 0 < c := by omega
      obtain ⟨i, hi2⟩ : ∃ i, i = i0 + d := ⟨_, rfl⟩
      obtain ⟨n, hn2⟩ : ∃ n, n = n0 - d := ⟨_, rfl⟩
      rw [← hi2] at E1 HI ⊢
      rw [← hn2]
      have HI2 := Lib.hid hi2
      have HN2 := Lib.hid hn2
      have hnp : 0 < n := by omega
      have hib : i ≤ 512 := by omega
      have hnb : n ≤ 512 := by omega
      have HA := Lib.hid ha
      have HC := Lib.hid hc
      have HD := Lib.hid (And.intro hd (And.intro hlt hi))
      clear hi2 hn2 ha hc hlt hd hi
      have key : ∃ m : Nat, 0 < m ∧ m ≤ n ∧ m ≤ c ∧ ((m = n ∧ (n : Int) ≤ (c : Int)) ∨ (m = c ∧ (c : Int) < (n : Int))) := by
        by_cases hmin : (n : Int) ≤ (c : Int)
        · exact ⟨n, hnp, Nat.le_refl _, by omega, .inl ⟨rfl, hmin⟩⟩
        · exact ⟨c, hcc, by omega, Nat.le_refl _, .inr ⟨rfl, by omega⟩⟩
      obtain ⟨m, hm0, hmn, hmc, hmm⟩ := key
      have HMM := Lib.hid hmm
      have hma : a + m ≤ 64 := by omega
      have W1 : IntKind.i64.wrap (64 - (m : Int)) = ((64 - m : Nat) : Int) := by rw [IntWalk.i64_in _ (by omega)]; omega
      have W2 := mask_is a m (by omega) hma
      have hM := Lib.hid (maskN_lt a m hma)
      have hk8' : k < 8 := by omega
      have HS : Hid (∀ w', (∃ q, w' = (wr.drew.setCell ⟨g, 0, none⟩ (.int .i64 ((cnt f i0 d : Nat) + (popL (word f k &&& maskN a m) 64 : Nat)))).drewN q) → CRel w w' b o g f (cnt f i0 (d + m))) := Lib.hid (fun w' hw => by
        have e := HI.out.symm.trans HI2.out
        obtain ⟨q, rfl⟩ := hw
        rw [pop_word f k a m hma, e, ← Int.natCast_add, ← cnt_add]
        have hx : Chg (· = g) wr ((wr.drew.setCell ⟨g, 0, none⟩ (.int .i64 (cnt f i0 (d + m) : Nat))).drewN q) := ((Chg.refl (· = g) wr).drew.setCell (p := ⟨g, 0, none⟩) (.inl rfl) _).drewN q
        exact ⟨hR.out.row.chg hx hbg, (show (wr.drew.setCell ⟨g, 0, none⟩ (.int .i64 (cnt f i0 (d + m) : Nat))).cell? ⟨g, 0, none⟩ = _ from set_same (w := wr.drew) hR.out.cell), (hx.frozen _).trans hR.out.frozen, hR.out.chg.trans hx (fun _ h => .inl h)⟩)
      have hc0 := hR.out.row.drew.cell k hk8'
      have hf0 := hR.out.row.drew.frozen (o + k)
      have hs0 := hR.out.cell; have hsf := hR.out.frozen; have hsl : cnt f i0 d ≤ 512 := by have := cnt_le f d i0; have := HD.out; omega
      have HX := Lib.hid hc0
      have hwl := Lib.hid (word_lt f k)
      clear hc0
      rcases hmm with ⟨rfl, hmin⟩ | ⟨rfl, hmin⟩
      all_goals
        go_wp2_with fail
        refine wp_region_head 10 (by kernel_rfl) (by kernel_rfl) ?_
        simp only [List.take_succ_cons, List.take_zero, List.drop_succ_cons, List.drop_zero]
        repeat (go_big_quiet_step (fail))
        refine wpQuiet_nil ?_
        go_wp2_with fail
        refine (cnt1_any b (o + k) g _ _ _ _ hwl.out hM.out HX.out hs0 hsf (by omega) (by omega)).mono ?_
        rintro r w2 ⟨rfl, q, hw2⟩; have HN := Lib.hid (HS.out w2 ⟨q, hw2.symm⟩); clear hw2
        clear W1 W2 hf0 hs0 hsf hsl
        go_wp2
        go_roundw
        case rel =>
          have h1 := HI.out
          have h2 := HI2.out
          have h3 := HN2.out
          have h4 := HA.out
          have h5 := HC.out
          have h6 := HK.out
          have h7 := HMM.out
          obtain ⟨h8, h9, h10⟩ := HD.out
          refine ⟨d + _, k + 1, by omega, congrArg (Value.int IntKind.i64) (by omega), congrArg (Value.int IntKind.i64) (by omega), congrArg (Value.int IntKind.i64) (by omega), by omega, HN⟩
        case measure => simp [intOf]; omega
    · obtain rfl : d = n0 := by omega
      have e0 : ((d - d : Nat) : Int) = 0 := by omega
      rw [e0]
      clear e0 hlt hk hd
      go_wp2
      go_end0
      exact ⟨rfl, hR.out⟩

def putE (i n : Int) : Int := if rightB i n = true then 0 else 1
def setF (f : Nat → Bool) (i n : Int) : Nat → Bool := if rightB i n = true then setB f i.toNat n.toNat else f
def clrF (f : Nat → Bool) (i n : Int) : Nat → Bool := if rightB i n = true then clrB f i.toNat n.toNat else f
def cntF (f : Nat → Bool) (i n : Int) : Int := if rightB i n = true then (cnt f i.toNat n.toNat : Nat) else 0

theorem right_parts {i n : Int} (h : rightB i n = true) : 0 ≤ i ∧ 0 ≤ n ∧ i ≤ 512 ∧ n ≤ 512 - i := by
  unfold rightB at h; simpa using h

theorem set_any (b o : Nat) (i n : Int) (f : Nat → Bool) (w : World) (h : RowAt w b o f) :
    Calls Try.prog 24 #[.pointer (some ⟨b, o, none⟩), .int .i64 i, .int .i64 n] w fun r w' => r = .returned (.int .i64 (putE i n)) ∧ RowAt w' b o (setF f i n) ∧ Chg8 b o w w' := by
  unfold putE setF
  have HR := Lib.hid (fun w => right_any i n w)
  cases hr : rightB i n
  · rw [hr] at HR
    have HH := Lib.hid h
    clear h hr
    go_enter Try.func24, Try.ntmps24
    go_wp2_with (go_at_call 30; refine (HR.out _).mono ?_; rintro r w1 ⟨rfl, rfl⟩)
    go_ret
    exact ⟨rfl, HH.out, Chg8.refl _ _ _⟩
  · obtain ⟨h1, h2, h3, h4⟩ := right_parts hr
    rw [hr] at HR
    have HP := Lib.hid (parts_set b o i.toNat n.toNat f w h (by omega))
    rw [show ((i.toNat : Nat) : Int) = i by omega, show ((n.toNat : Nat) : Int) = n by omega] at HP
    clear h hr
    go_enter Try.func24, Try.ntmps24
    go_wp2_with (first | (go_at_call 30; refine (HR.out _).mono ?_; rintro r w1 ⟨rfl, rfl⟩) | (go_at_call 31; refine HP.out.mono ?_; rintro r w1 ⟨rfl, hw1⟩; have HW := Lib.hid hw1; clear hw1))
    go_ret
    exact ⟨rfl, HW.out⟩

theorem clear_any (b o : Nat) (i n : Int) (f : Nat → Bool) (w : World) (h : RowAt w b o f) :
    Calls Try.prog 27 #[.pointer (some ⟨b, o, none⟩), .int .i64 i, .int .i64 n] w fun r w' => r = .returned (.int .i64 (putE i n)) ∧ RowAt w' b o (clrF f i n) ∧ Chg8 b o w w' := by
  unfold putE clrF
  have HR := Lib.hid (fun w => right_any i n w)
  cases hr : rightB i n
  · rw [hr] at HR
    have HH := Lib.hid h
    clear h hr
    go_enter Try.func27, Try.ntmps27
    go_wp2_with (go_at_call 30; refine (HR.out _).mono ?_; rintro r w1 ⟨rfl, rfl⟩)
    go_ret
    exact ⟨rfl, HH.out, Chg8.refl _ _ _⟩
  · obtain ⟨h1, h2, h3, h4⟩ := right_parts hr
    rw [hr] at HR
    have HP := Lib.hid (parts_clr b o i.toNat n.toNat f w h (by omega))
    rw [show ((i.toNat : Nat) : Int) = i by omega, show ((n.toNat : Nat) : Int) = n by omega] at HP
    clear h hr
    go_enter Try.func27, Try.ntmps27
    go_wp2_with (first | (go_at_call 30; refine (HR.out _).mono ?_; rintro r w1 ⟨rfl, rfl⟩) | (go_at_call 31; refine HP.out.mono ?_; rintro r w1 ⟨rfl, hw1⟩; have HW := Lib.hid hw1; clear hw1))
    go_ret
    exact ⟨rfl, HW.out⟩

theorem count_any (b o : Nat) (i n : Int) (f : Nat → Bool) (w : World) (h : RowAt w b o f) :
    Calls Try.prog 18 #[.pointer (some ⟨b, o, none⟩), .int .i64 i, .int .i64 n] w fun r w' => r = .returned (.int .i64 (cntF f i n)) ∧ Ext w w' := by
  unfold cntF
  have HR := Lib.hid (fun w => right_any i n w)
  cases hr : rightB i n
  · rw [hr] at HR
    clear h hr
    go_enter Try.func18, Try.ntmps18
    go_wp2_with (go_at_call 30; refine (HR.out _).mono ?_; rintro r w1 ⟨rfl, rfl⟩)
    go_ret
    exact ⟨rfl, (Ext.refl _).alloc _ _⟩
  · obtain ⟨h1, h2, h3, h4⟩ := right_parts hr
    rw [hr] at HR
    have hlt := h.lt
    have hx : Ext w (w.alloc (.cells #[.int .i64 0] 3)) := (Ext.refl _).alloc _ _
    have HP := Lib.hid (parts_cnt b o i.toNat n.toNat w.heap.size f (w.alloc (.cells #[.int .i64 0] 3)) ⟨⟨h.later hx, by simp, by rw [hx.frozen]; exact frozen_none _ _ _ (Nat.le_refl _), Chg.refl _ _⟩, by omega⟩ (by omega))
    rw [show ((i.toNat : Nat) : Int) = i by omega, show ((n.toNat : Nat) : Int) = n by omega] at HP
    clear h hr hx
    go_enter Try.func18, Try.ntmps18
    go_wp2_with fail
    refine (HR.out _).mono ?_
    rintro r w1 ⟨rfl, rfl⟩
    go_wp2_with fail
    refine HP.out.mono ?_
    rintro r w2 ⟨rfl, hw⟩
    have hc := hw.cell
    have HX := Lib.hid (hw.chg.ext ((Ext.refl w).alloc #[.int .i64 0] 3) (fun i hi => by rw [hi]; exact Nat.le_refl _))
    clear hw
    go_wp2_with fail
    go_ret
    exact ⟨rfl, HX.out⟩

end Go.Proofs.Ytahabnepjjcgoaa
