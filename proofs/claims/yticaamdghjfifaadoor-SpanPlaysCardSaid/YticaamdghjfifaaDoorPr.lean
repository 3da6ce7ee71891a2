/- A span and the reference's, side by side: each thing that is done to both. -/
import Derived.Test.YticaamdghjfifaaDoorUNew
import Derived.Test.YticaamdghjfifaaDoorIndex
import Derived.Test.YticaamdghjfifaaDoorRf
import Derived.Test.YticaamdghjfifaaDoorZs

namespace Go.Proofs.YticaamdghjfifaaDoor
open Go.RowKit
set_option linter.unusedVariables false

section
variable {W w w' : World} {g b page : Nat} {s s' t t' : Sp} {U M V N U' M' V' N' : Nat → Bool} {R R' F G : Nat → Prop}
theorem RsIs.kept (h : RsIs w b F page t V N) (hk : Kept F w w') (hlt : ∀ k, F k → k < w'.heap.size) : RsIs w' b F page t V N := by
  obtain ⟨⟨uv, mv, nu, nm, h1⟩, h2, h3, h4, h5, h6⟩ := h
  exact ⟨⟨uv, mv, nu, nm, ⟨h1.blk.kept hk h1.fb, ⟨owns_blocks h1.u.own fun k hk' => hk k (h1.fu k hk'), h1.u.hi, h1.u.small⟩, ⟨owns_blocks h1.m.own fun k hk' => hk k (h1.fm k hk'), h1.m.hi, h1.m.small⟩, h1.ne, h1.nu, h1.nm, h1.fb, h1.fu, h1.fm⟩⟩, hlt, h3, h4, h5, h6⟩
theorem AwG.chgR (h : AwG W w g s U M R) (hc : Chg R w w') (hR : ∀ k, R' k → R k ∨ w.heap.size ≤ k) (hlt : ∀ k, R' k → k < w'.heap.size) : AwG W w' g s U M R' := by
  obtain ⟨⟨F, h1, h2, h3⟩, h4, h5, h6⟩ := h
  exact ⟨⟨F, h1.chg hc fun k hk hr => h3 k hr hk, h2, fun k hk hf => (hR k hk).elim (fun hr => h3 k hr hf) fun hh => by have := h1.lt k hf; omega⟩, hlt, fun k hk => (hR k hk).elim (h5 k) fun hh => Nat.le_trans h6.size hh, hc.ext h6 h5⟩
theorem Kept.mono (h : Kept R w w') (hR : ∀ k, R' k → R k) : Kept R' w w' := fun k hk => h k (hR k hk)

/-- a span, the reference's, and the law's own blocks. -/
structure Pr (W w : World) (g b page : Nat) (s : Sp) (U M : Nat → Bool) (t : Sp) (V N : Nat → Bool) (R : Nat → Prop) : Prop where
  is : ∃ Fr, AwG W w g s U M (fun k => Fr k ∨ R k) ∧ RsIs w b Fr page t V N ∧ ∀ k, R k → ¬ Fr k
theorem Pr.later (h : Pr W w g b page s U M t V N R) (hx : Ext w w') : Pr W w' g b page s U M t V N R ∧ Kept R w w' := by
  obtain ⟨Fr, h1, h2, h3⟩ := h
  obtain ⟨h4, h5⟩ := h1.later hx
  exact ⟨⟨Fr, h4, h2.later hx, h3⟩, h5.mono fun k hk => .inr hk⟩
theorem Pr.ext (h : Pr W w g b page s U M t V N R) : Ext W w := by
  obtain ⟨Fr, h1, h2, h3⟩ := h
  exact h1.ext
theorem Pr.more (h : Pr W w g b page s U M t V N R) (hx : Ext w w') (hR : ∀ k, R' k → (R k ∨ w.heap.size ≤ k) ∧ k < w'.heap.size) : Pr W w' g b page s U M t V N R' := by
  obtain ⟨Fr, h1, h2, h3⟩ := h
  refine ⟨Fr, h1.chgR (Chg.of_ext hx _) (fun k hk => hk.elim (fun h => .inl (.inl h)) fun hk => (hR k hk).1.elim (fun h => .inl (.inr h)) .inr) (fun k hk => hk.elim (fun h => Nat.lt_of_lt_of_le (h2.lt k h) hx.size) fun hk => (hR k hk).2), h2.later hx, fun k hk hf => (hR k hk).1.elim (fun hr => h3 k hr hf) fun hh => by have := h2.lt k hf; omega⟩
theorem Pr.fewer (h : Pr W w g b page s U M t V N R) (hR : ∀ k, R' k → R k) : Pr W w g b page s U M t V N R' := by
  obtain ⟨Fr, h1, h2, h3⟩ := h
  exact ⟨Fr, h1.fewer fun k hk => hk.imp id (hR k), h2, fun k hk => h3 k (hR k hk)⟩
/-- the program's span was turned. -/
theorem Pr.prog {Fr : Nat → Prop} (h : AwG W w' g s' U' M' (fun k => Fr k ∨ R k)) (hk : Kept (fun k => Fr k ∨ R k) w w') (h2 : RsIs w b Fr page t V N) (h3 : ∀ k, R k → ¬ Fr k) : Pr W w' g b page s' U' M' t V N R ∧ Kept R w w' :=
  ⟨⟨Fr, h, h2.kept (hk.mono fun k hk => .inl hk) fun k hk => h.lt k (.inl hk), h3⟩, hk.mono fun k hk => .inr hk⟩
/-- the reference's was turned. -/
theorem Pr.refr {Fr : Nat → Prop} (h1 : AwG W w g s U M (fun k => Fr k ∨ R k)) (h3 : ∀ k, R k → ¬ Fr k) (hT : RTurn w b Fr page t' V' N' w') : Pr W w' g b page s U M t' V' N' R ∧ Kept R w w' := by
  obtain ⟨F', h4, h5, h6⟩ := hT
  have hRlt := fun k (hk : R k) => h1.lt k (.inr hk)
  refine ⟨⟨F', h1.chgR (h5.mono fun i hi => .inl (.inl hi)) (fun k hk => hk.elim (fun h => (h6 k h).imp .inl id) fun h => .inl (.inr h)) (fun k hk => hk.elim (h4.lt k) fun h => Nat.lt_of_lt_of_le (hRlt k h) h5.size), h4, fun k hk hf => (h6 k hf).elim (h3 k hk) fun hh => by have := hRlt k hk; omega⟩, fun k hk => h5.block k (hRlt k hk) (h3 k hk)⟩

/-- what holds of a span that the law has. -/
structure Inv (s : Sp) (U M : Nat → Bool) : Prop where
  fit : Fit s
  mag : MagOk s
  pl : s.swept = false ∧ s.held = false
  hu : ∀ j, U j = true → j < s.slots
  hm : ∀ j, M j = true → j < s.slots
  used : s.used = cntB U s.slots
  small : s.slots ≤ 65536

/-- both answer v, and are then the same. -/
structure Both0 (W : World) (g b page : Nat) (s : Sp) (U M : Nat → Bool) (f1 f2 : FuncId) (v : Value) (s' : Sp) (U' M' : Nat → Bool) : Prop where
  p : ∀ t V N w R, Pr W w g b page s U M t V N R → Calls Tryd.prog f1 #[.pointer (some ⟨g, 0, none⟩)] w fun e w' => e = .returned v ∧ Pr W w' g b page s' U' M' t V N R ∧ Kept R w w'
  r : ∀ t V N w R, Pr W w g b page t V N s U M R → Calls Tryd.prog f2 #[.pointer (some ⟨b, 0, none⟩)] w fun e w' => e = .returned v ∧ Pr W w' g b page t V N s' U' M' R ∧ Kept R w w'
  inv : Inv s' U' M'
structure Both1 (W : World) (g b page : Nat) (s : Sp) (U M : Nat → Bool) (f1 f2 : FuncId) (u : Value) (v : Value) (s' : Sp) (U' M' : Nat → Bool) : Prop where
  p : ∀ t V N w R, Pr W w g b page s U M t V N R → Calls Tryd.prog f1 #[.pointer (some ⟨g, 0, none⟩), u] w fun e w' => e = .returned v ∧ Pr W w' g b page s' U' M' t V N R ∧ Kept R w w'
  r : ∀ t V N w R, Pr W w g b page t V N s U M R → Calls Tryd.prog f2 #[.pointer (some ⟨b, 0, none⟩), u] w fun e w' => e = .returned v ∧ Pr W w' g b page t V N s' U' M' R ∧ Kept R w w'
  inv : Inv s' U' M'

theorem free_ex {U : Nat → Bool} {n : Nat} (hU : ∀ j, U j = true → j < n) : ∀ d i, n - i = d → i ≤ n → ∃ r, freeAt U i r ∧ r ≤ n
  | 0, i, hd, hi => ⟨i, ⟨Nat.le_refl _, Bool.eq_false_iff.2 fun e => by have := hU i e; omega, fun j h1 h2 => by omega⟩, hi⟩
  | d + 1, i, hd, hi => by
    cases hu : U i
    · exact ⟨i, ⟨Nat.le_refl _, hu, fun j h1 h2 => by omega⟩, hi⟩
    · obtain ⟨r, ⟨h1, h2, h3⟩, h4⟩ := free_ex hU d (i + 1) (by omega) (by omega)
      refine ⟨r, ⟨by omega, h2, fun j h5 h6 => ?_⟩, h4⟩
      by_cases e : j = i
      · rw [e]; exact hu
      · exact h3 j (by omega) h6

section
variable {wx : World}
theorem pr_same (h : Pr W w g b page s U M t V N R) : Pr W w g b page s U M t V N R ∧ Kept R w w := ⟨h, Kept.refl _ _⟩

theorem both_next (hi : Inv s U M) (ht : TzAt W) : ∃ (x e : Int) (s' : Sp) (U' : Nat → Bool), Both0 W g b page s U M 12 38 (.tuple #[.int .i64 x, .int .i64 e]) s' U' M := by
  by_cases hd : s.state = 0
  · refine ⟨0, 33, s, U, fun t V N w R h => ?_, fun t V N w R h => ?_, hi⟩
    · obtain ⟨Fr, h1, h2, h3⟩ := id h
      obtain ⟨F, q1, q2, q3⟩ := h1.at_
      exact (next_dead g F s U M w q1 hd).mono fun e w' he => ⟨he.1, he.2 ▸ pr_same h⟩
    · obtain ⟨Fr, h1, h2, h3⟩ := id h
      exact (rnext_dead h2 hd).mono fun e w' he => ⟨he.1, he.2 ▸ pr_same h⟩
  obtain ⟨r, hr, hrs⟩ := free_ex hi.hu _ s.look rfl hi.fit.look
  by_cases hlt : r < s.slots
  · have hu : s.used < s.slots := by rw [hi.used]; exact cntB_lt U _ r hlt hr.2.1
    refine ⟨r, 0, sNext s r, setB U r 1, fun t V N w R h => ?_, fun t V N w R h => ?_, ?_⟩
    · obtain ⟨Fr, h1, h2, h3⟩ := h
      exact (g_next h1 ht r hd hr hlt hu).mono fun e w' he => ⟨he.1, Pr.prog he.2.1 he.2.2 h2 h3⟩
    · obtain ⟨Fr, h1, h2, h3⟩ := h
      refine (rnext_any h2 hd r hr hrs fun _ => hu).mono fun e w' he => ?_
      rw [if_pos hlt, ← setB_upd] at he
      exact ⟨he.1, Pr.refr h1 h3 he.2⟩
    · refine ⟨fitNext hi.fit hlt hu, hi.mag, hi.pl, fun j hj => ?_, hi.hm, ?_, hi.small⟩
      · rw [setB_at] at hj
        by_cases e : j = r
        · rw [e]; exact hlt
        · rw [decide_eq_false e, Bool.or_false] at hj; exact hi.hu j hj
      · show s.used + 1 = cntB _ s.slots
        rw [cntB_set U _ r hlt hr.2.1, ← hi.used]
  · refine ⟨0, 30, s, U, fun t V N w R h => ?_, fun t V N w R h => ?_, hi⟩
    · obtain ⟨Fr, h1, h2, h3⟩ := h
      exact (g_next_full h1 ht r hd hr (by omega) (by have := hi.small; omega)).mono fun e w' he => ⟨he.1, Pr.prog he.2.1 he.2.2 h2 h3⟩
    · obtain ⟨Fr, h1, h2, h3⟩ := id h
      refine (rnext_any h2 hd r hr hrs fun hh => absurd hh hlt).mono fun e w' he => ?_
      rw [if_neg hlt] at he
      exact ⟨he.1, he.2 ▸ pr_same h⟩

theorem both_give (hi : Inv s U M) (i : Int) : ∃ (e : Int) (s' : Sp) (U' : Nat → Bool), Both1 W g b page s U M 21 39 (.int .i64 i) (.int .i64 e) s' U' M := by
  by_cases hd : s.state = 2
  · cases hth : thereB s i
    · refine ⟨1, s, U, fun t V N w R h => ?_, fun t V N w R h => ?_, hi⟩
      · obtain ⟨Fr, h1, h2, h3⟩ := id h
        exact (g_give_arg h1 i hd hth).mono fun e w' he => ⟨he.1, he.2 ▸ pr_same h⟩
      · obtain ⟨Fr, h1, h2, h3⟩ := id h
        exact (rgive_arg h2 i hd hth).mono fun e w' he => ⟨he.1, he.2 ▸ pr_same h⟩
    · obtain ⟨n, rfl, hn⟩ := thereB_nat hth
      cases hu : U n
      · refine ⟨31, s, U, fun t V N w R h => ?_, fun t V N w R h => ?_, hi⟩
        · obtain ⟨Fr, h1, h2, h3⟩ := id h
          exact (g_give_free h1 n hd hn hu).mono fun e w' he => ⟨he.1, he.2 ▸ pr_same h⟩
        · obtain ⟨Fr, h1, h2, h3⟩ := id h
          exact (rgive_free h2 n hd hn hu).mono fun e w' he => ⟨he.1, he.2 ▸ pr_same h⟩
      · refine ⟨0, sGive s n, clrB U n 1, fun t V N w R h => ?_, fun t V N w R h => ?_, ?_⟩
        · obtain ⟨Fr, h1, h2, h3⟩ := h
          exact (g_give h1 n hd hn hu (by rw [hi.used]; exact cntB_pos U _ n hn hu)).mono fun e w' he => ⟨he.1, Pr.prog he.2.1 he.2.2 h2 h3⟩
        · obtain ⟨Fr, h1, h2, h3⟩ := h
          refine (rgive_yes h2 n hd hn hu).mono fun e w' he => ?_
          rw [← clrB_upd] at he
          exact ⟨he.1, Pr.refr h1 h3 he.2⟩
        · refine ⟨fitGive hi.fit hn, hi.mag, hi.pl, fun j hj => ?_, hi.hm, ?_, hi.small⟩
          · rw [clrB_at] at hj
            refine hi.hu j ?_
            revert hj
            cases U j <;> simp
          · show s.used - 1 = cntB _ s.slots
            rw [cntB_clr U _ n hn hu, ← hi.used]
  · refine ⟨33, s, U, fun t V N w R h => ?_, fun t V N w R h => ?_, hi⟩
    · obtain ⟨Fr, h1, h2, h3⟩ := id h
      obtain ⟨F, q1, q2, q3⟩ := h1.at_
      exact (give_state g F s U M i w q1 hd).mono fun e w' he => ⟨he.1, he.2 ▸ pr_same h⟩
    · obtain ⟨Fr, h1, h2, h3⟩ := id h
      exact (rgive_state h2 i hd).mono fun e w' he => ⟨he.1, he.2 ▸ pr_same h⟩

theorem both_mark (hi : Inv s U M) (i : Int) : ∃ (e : Int) (M' : Nat → Bool), Both1 W g b page s U M 14 40 (.int .i64 i) (.int .i64 e) s U M' := by
  by_cases hd : s.state = 1
  · cases hth : thereB s i
    · refine ⟨1, M, fun t V N w R h => ?_, fun t V N w R h => ?_, hi⟩
      · obtain ⟨Fr, h1, h2, h3⟩ := id h
        exact (g_mark_arg h1 i hd hth).mono fun e w' he => ⟨he.1, he.2 ▸ pr_same h⟩
      · obtain ⟨Fr, h1, h2, h3⟩ := id h
        exact (rmark_arg h2 i hd hth).mono fun e w' he => ⟨he.1, he.2 ▸ pr_same h⟩
    · obtain ⟨n, rfl, hn⟩ := thereB_nat hth
      refine ⟨0, setB M n 1, fun t V N w R h => ?_, fun t V N w R h => ?_, ?_⟩
      · obtain ⟨Fr, h1, h2, h3⟩ := h
        exact (g_mark h1 n hd hn).mono fun e w' he => ⟨he.1, Pr.prog he.2.1 he.2.2 h2 h3⟩
      · obtain ⟨Fr, h1, h2, h3⟩ := h
        refine (rmark_yes h2 n hd hn).mono fun e w' he => ?_
        rw [← setB_upd] at he
        exact ⟨he.1, Pr.refr h1 h3 he.2⟩
      · refine ⟨hi.fit, hi.mag, hi.pl, hi.hu, fun j hj => ?_, hi.used, hi.small⟩
        rw [setB_at] at hj
        by_cases e : j = n
        · rw [e]; exact hn
        · rw [decide_eq_false e, Bool.or_false] at hj; exact hi.hm j hj
  · refine ⟨33, M, fun t V N w R h => ?_, fun t V N w R h => ?_, hi⟩
    · obtain ⟨Fr, h1, h2, h3⟩ := id h
      exact (g_mark_state h1 hd i).mono fun e w' he => ⟨he.1, he.2 ▸ pr_same h⟩
    · obtain ⟨Fr, h1, h2, h3⟩ := id h
      exact (rmark_state h2 i hd).mono fun e w' he => ⟨he.1, he.2 ▸ pr_same h⟩

theorem both_die (hi : Inv s U M) : ∃ (e : Int) (s' : Sp) (U' M' : Nat → Bool), Both0 W g b page s U M 22 43 (.int .i64 e) s' U' M' := by
  by_cases hd : s.state = 0 ∨ 0 < s.used
  · refine ⟨33, s, U, M, fun t V N w R h => ?_, fun t V N w R h => ?_, hi⟩
    · obtain ⟨Fr, h1, h2, h3⟩ := id h
      obtain ⟨F, q1, q2, q3⟩ := h1.at_
      exact (die_no g F s U M w q1 hd).mono fun e w' he => ⟨he.1, he.2 ▸ pr_same h⟩
    · obtain ⟨Fr, h1, h2, h3⟩ := id h
      exact (rdie_no h2 hd).mono fun e w' he => ⟨he.1, he.2 ▸ pr_same h⟩
  · refine ⟨0, sDie s, fun _ => false, fun _ => false, fun t V N w R h => ?_, fun t V N w R h => ?_, ⟨fitDie hi.fit, hi.mag, hi.pl, (fun j hj => by cases hj), (fun j hj => by cases hj), (cntB_none _).symm, hi.small⟩⟩
    · obtain ⟨Fr, h1, h2, h3⟩ := h
      obtain ⟨⟨F, q1, q2, q3⟩, q4, q5, q6⟩ := h1
      refine (die_yes g F s U M w q1 (by omega) (by omega)).mono fun e w' he => ?_
      obtain ⟨hA, hK⟩ := AwG.turned he.2 q2 q3 q4 q5 q6
      exact ⟨he.1, Pr.prog hA hK h2 h3⟩
    · obtain ⟨Fr, h1, h2, h3⟩ := h
      exact (rdie_yes h2 (by omega) (by omega)).mono fun e w' he => ⟨he.1, Pr.refr h1 h3 he.2⟩

theorem pr_ext {f : FuncId} {args : Array Value} {v : Value} (h : Pr W w g b page s U M t V N R) (hc : Calls Tryd.prog f args w fun e w' => e = .returned v ∧ Ext w w') : Calls Tryd.prog f args w fun e w' => e = .returned v ∧ Pr W w' g b page s U M t V N R ∧ Kept R w w' :=
  hc.mono fun e w' he => ⟨he.1, h.later he.2⟩

theorem both_slot (hi : Inv s U M) (i : Int) : ∃ (x e : Int), Both1 W g b page s U M 19 44 (.int .i64 i) (.tuple #[.int .u64 x, .int .i64 e]) s U M := by
  cases hth : thereB s i
  · refine ⟨0, 1, fun t V N w R h => ?_, fun t V N w R h => ?_, hi⟩
    · obtain ⟨Fr, h1, h2, h3⟩ := id h
      obtain ⟨F, q1, q2, q3⟩ := h1.at_
      exact (slot_no g F s U M i w q1 hth).mono fun e w' he => ⟨he.1, he.2 ▸ pr_same h⟩
    · obtain ⟨Fr, h1, h2, h3⟩ := id h
      exact (rslot_no h2 i hth).mono fun e w' he => ⟨he.1, he.2 ▸ pr_same h⟩
  · obtain ⟨n, rfl, hn⟩ := thereB_nat hth
    refine ⟨((s.base + n * s.elem : Nat) : Int), 0, fun t V N w R h => ?_, fun t V N w R h => ?_, hi⟩
    · obtain ⟨Fr, h1, h2, h3⟩ := id h
      obtain ⟨F, q1, q2, q3⟩ := h1.at_
      exact pr_ext h (slot_yes g F s U M n w q1 hn)
    · obtain ⟨Fr, h1, h2, h3⟩ := id h
      exact pr_ext h (rslot_yes h2 n hn)

theorem both_index (hi : Inv s U M) (x : Int) (x0 : 0 ≤ x) (x1 : x ≤ 18446744073709551615) : ∃ (y e : Int), Both1 W g b page s U M 18 47 (.int .u64 x) (.tuple #[.int .i64 y, .int .i64 e]) s U M := by
  by_cases hl : x < s.base
  · refine ⟨0, 10, fun t V N w R h => ?_, fun t V N w R h => ?_, hi⟩
    · obtain ⟨Fr, h1, h2, h3⟩ := id h
      obtain ⟨F, q1, q2, q3⟩ := h1.at_
      exact pr_ext h (index_no g F s U M x w q1 x0 x1 (.inl hl))
    · obtain ⟨Fr, h1, h2, h3⟩ := id h
      exact pr_ext h (rindex_low h2 x x0 x1 hl)
  by_cases hh : (s.base : Int) + (s.slots : Int) * (s.elem : Int) ≤ x
  · refine ⟨0, 10, fun t V N w R h => ?_, fun t V N w R h => ?_, hi⟩
    · obtain ⟨Fr, h1, h2, h3⟩ := id h
      obtain ⟨F, q1, q2, q3⟩ := h1.at_
      exact pr_ext h (index_no g F s U M x w q1 x0 x1 (.inr hh))
    · obtain ⟨Fr, h1, h2, h3⟩ := id h
      exact pr_ext h (rindex_high h2 x x1 hh)
  · refine ⟨(x - s.base) / s.elem, 0, fun t V N w R h => ?_, fun t V N w R h => ?_, hi⟩
    · obtain ⟨Fr, h1, h2, h3⟩ := id h
      obtain ⟨F, q1, q2, q3⟩ := h1.at_
      exact pr_ext h (index_yes g F s U M x w q1 hi.mag (by omega) (by omega))
    · obtain ⟨Fr, h1, h2, h3⟩ := id h
      exact pr_ext h (rindex_yes h2 x (by omega) (by omega))
end
end

end Go.Proofs.YticaamdghjfifaaDoor

namespace Go.Proofs.YticaamdghjfifaaDoor
open Go.RowKit
set_option linter.unusedVariables false

/-! ### rows of ints that are read -/
/-- a row of ints that can be read. -/
def RdI (w : World) (v : Value) (xs : List Int) : Prop := ∃ p cap, v = .slice p xs.length cap ∧ ZsAt w .i64 p xs
theorem RdI.later {w w' : World} {v : Value} {xs : List Int} (h : RdI w v xs) (hx : Ext w w') : RdI w' v xs := by
  obtain ⟨p, cap, e, h⟩ := h
  refine ⟨p, cap, e, ?_⟩
  rcases h with h | ⟨b, off, e2, hb, hc⟩
  · exact .inl h
  · exact .inr ⟨b, off, e2, Nat.lt_of_lt_of_le hb hx.size, fun i hi => (hx.cell b _ hb).trans (hc i hi)⟩
theorem RdI.own {w : World} {B : Nat} {v : Value} {xs : List Int} (h : w.ownsRow B 3 1 v xs.length (xs.map (Value.int .i64))) : RdI w v xs := by
  obtain ⟨p, cap, rfl, -, -, hp⟩ := owns_form h
  refine ⟨p, cap, rfl, ?_⟩
  rcases hp with hp | ⟨g, rfl, -, hg⟩
  · exact .inl (List.eq_nil_of_length_eq_zero hp)
  · refine .inr ⟨g, 0, rfl, hg, fun i hi => ?_⟩
    rw [Nat.zero_add, h.cellAt i (by omega), List.getElem?_map, List.getElem?_eq_getElem hi]
    rfl
theorem ints_map (l : List Nat) : ints l = (l.map fun (j : Nat) => (j : Int)).map (Value.int .i64) := by
  unfold ints
  rw [List.map_map]; rfl
theorem RdI.ints {w : World} {B : Nat} {v : Value} {l : List Nat} (h : w.ownsRow B 3 1 v l.length (ints l)) : RdI w v (l.map fun (j : Nat) => (j : Int)) :=
  RdI.own (B := B) (by rw [List.length_map, ← ints_map]; exact h)
theorem RdI.nil (w : World) : RdI w (.slice none 0 0) [] := ⟨none, 0, rfl, .inl rfl⟩

set_option maxRecDepth 20000 in
set_option maxHeartbeats 2000000 in
/-- the same numbers. -/
theorem list_same (v1 v2 : Value) (xs : List Int) (w : World) (h1 : RdI w v1 xs) (h2 : RdI w v2 xs) (hn : xs.length ≤ 65536) :
    Calls Tryd.prog 42 #[v1, v2] w fun e w' => e = .returned (.bool true) ∧ Ext w w' := by
  obtain ⟨p1, cap1, rfl, z1⟩ := h1
  obtain ⟨p2, cap2, rfl, z2⟩ := h2
  have H1 := Lib.hid z1
  have H2 := Lib.hid z2
  clear z1 z2
  go_enter Tryd.func42, Tryd.ntmps42
  go_wp2
  go_loopw [5] (fun i wr => ∃ k : Nat, k ≤ xs.length ∧ i = .int .i64 k ∧ Hid (Ext w wr)) (fun i _ => xs.length - (intOf i).toNat)
  case atStart => exact ⟨0, by omega, rfl, Lib.hid (Ext.refl _)⟩
  case round =>
    obtain ⟨k, hk, rfl, hX⟩ := hrel
    by_cases hlt : k < xs.length
    · obtain ⟨b1, o1, rfl, hb1, c1⟩ := H1.out.get hlt hX.out
      obtain ⟨b2, o2, rfl, hb2, c2⟩ := H2.out.get hlt hX.out
      generalize xs.getD k 0 = z at *
      go_wp2_with fail
      go_quiet (fail)
      go_wp2_with fail
      go_roundw
      case rel => exact ⟨k + 1, by omega, by go_num, Lib.hid (hX.out.drewN' _)⟩
      case measure => simp [intOf]; omega
    · go_wp2_with fail
      go_ret
      exact ⟨rfl, hX.out⟩

section
variable {W w w' : World} {g b page : Nat} {s s' t t' : Sp} {U M V N U' M' V' N' : Nat → Bool} {R R' F G : Nat → Prop}

/-! ### what a slot is -/
theorem pr_used (h : Pr W w g b page s U M t V N R) (i : Int) :
    Calls Tryd.prog 13 #[.pointer (some ⟨g, 0, none⟩), .int .i64 i] w fun r w' => r = .returned (.bool (thereB s i && U i.toNat)) ∧ w = w' := by
  obtain ⟨Fr, h1, h2, h3⟩ := h
  exact g_used h1 i
theorem pr_marked (h : Pr W w g b page s U M t V N R) (i : Int) :
    Calls Tryd.prog 17 #[.pointer (some ⟨g, 0, none⟩), .int .i64 i] w fun r w' => r = .returned (.bool (thereB s i && M i.toNat)) ∧ w = w' := by
  obtain ⟨Fr, h1, h2, h3⟩ := h
  obtain ⟨F, q, -, -⟩ := h1.at_
  obtain ⟨uv, mv, nu, nm, q1, q2⟩ := q.at_
  exact marked_any g s uv mv nu nm U M i w q1 q.fit
theorem pr_rused (h : Pr W w g b page s U M t V N R) (i : Int) :
    Calls Tryd.prog 45 #[.pointer (some ⟨b, 0, none⟩), .int .i64 i] w fun e w' => e = .returned (.bool (decide (0 ≤ i) && V i.toNat)) ∧ w = w' := by
  obtain ⟨Fr, h1, h2, h3⟩ := h
  exact risused_any h2 i
theorem pr_rmarked (h : Pr W w g b page s U M t V N R) (i : Int) :
    Calls Tryd.prog 46 #[.pointer (some ⟨b, 0, none⟩), .int .i64 i] w fun e w' => e = .returned (.bool (decide (0 ≤ i) && N i.toNat)) ∧ w = w' := by
  obtain ⟨Fr, h1, h2, h3⟩ := h
  exact rmarked_any h2 i
theorem there_same {U : Nat → Bool} (hU : ∀ j, U j = true → j < s.slots) (i : Int) : (decide (0 ≤ i) && U i.toNat) = (thereB s i && U i.toNat) := by
  cases hu : U i.toNat
  · rw [Bool.and_false, Bool.and_false]
  · rw [Bool.and_true, Bool.and_true]
    have := hU _ hu
    unfold thereB
    by_cases h0 : 0 ≤ i
    · rw [decide_eq_true h0, Bool.true_and, decide_eq_true (by omega)]
    · rw [decide_eq_false h0, Bool.false_and]
theorem pr_info (h : Pr W w g b page s U M t V N R) :
    Calls Tryd.prog 16 #[.pointer (some ⟨g, 0, none⟩)] w fun r w' => r = .returned (.agg (infoL s).toArray) ∧ Pr W w' g b page s U M t V N R ∧ Kept R w w' := by
  obtain ⟨Fr, h1, h2, h3⟩ := id h
  obtain ⟨F, q1, q2, q3⟩ := h1.at_
  exact (info_any g F s U M w q1).mono fun e w' he => ⟨he.1, h.later he.2⟩
theorem pr_rinfo (h : Pr W w g b page s U M t V N R) :
    Calls Tryd.prog 48 #[.pointer (some ⟨b, 0, none⟩)] w fun r w' => r = .returned (.agg (rinfoL t).toArray) ∧ Pr W w' g b page s U M t V N R ∧ Kept R w w' := by
  obtain ⟨Fr, h1, h2, h3⟩ := id h
  exact (rinfo_any h2).mono fun e w' he => ⟨he.1, h.later he.2⟩
theorem info_same (hi : Inv s U M) : rinfoL s = infoL s := by
  unfold rinfoL infoL
  rw [hi.pl.1, hi.pl.2]

/-! ### sweeping -/
theorem zombie_or (U M : Nat → Bool) : (∀ j, zB U M j = false) ∨ ∃ j, zB U M j = true := by
  by_cases h : ∃ j, zB U M j = true
  · exact .inr h
  · exact .inl fun j => Bool.eq_false_iff.2 fun e => h ⟨j, e⟩
/-- a sweep of both. -/
structure Both4 (W : World) (g b page : Nat) (s : Sp) (U M : Nat → Bool) (xs : List Int) (e : Int) (s' : Sp) (U' M' : Nat → Bool) : Prop where
  p : ∀ t V N w R, Pr W w g b page s U M t V N R → Calls Tryd.prog 15 #[.pointer (some ⟨g, 0, none⟩)] w fun r w' => ∃ v, r = .returned (.tuple #[v, .int .i64 e]) ∧ w'.ownsRow w.heap.size 3 1 v xs.length (xs.map (Value.int .i64)) ∧ Pr W w' g b page s' U' M' t V N (fun k => R k ∨ v.ownBlock = some k) ∧ Kept R w w'
  r : ∀ t V N w R, Pr W w g b page t V N s U M R → Calls Tryd.prog 41 #[.pointer (some ⟨b, 0, none⟩)] w fun r w' => ∃ v, r = .returned (.tuple #[v, .int .i64 e]) ∧ RdI w' v xs ∧ Pr W w' g b page t V N s' U' M' R ∧ Kept R w w'
  inv : Inv s' U' M'
  small : xs.length ≤ 65536
theorem pr_nil (h : Pr W w g b page s U M t V N R) : Pr W w g b page s U M t V N (fun k => R k ∨ (Value.slice none 0 0).ownBlock = some k) := h.fewer fun k hk => hk.elim id fun e => by cases e

set_option maxHeartbeats 1000000 in
theorem both_sweep (hi : Inv s U M) (ht : TzAt W) : ∃ (xs : List Int) (e : Int) (s' : Sp) (U' M' : Nat → Bool), Both4 W g b page s U M xs e s' U' M' := by
  by_cases hd : s.state = 1
  · rcases zombie_or U M with hz | ⟨j, hj⟩
    · have hcs := cnt_split hz s.slots
      have hus := hi.used
      have hsm := hi.small
      have hcl := cntB_le U s.slots
      refine ⟨(swl (gB U M) s.slots).map fun (j : Nat) => (j : Int), 0, sSweep s (swl (gB U M) s.slots).length, M, fun _ => false, fun t V N w R h => ?_, fun t V N w R h => ?_, ?_, ?_⟩
      · obtain ⟨Fr, h1, h2, h3⟩ := h
        obtain ⟨⟨F, q1, q2, q3⟩, q4, q5, q6⟩ := h1
        refine (sweep_yes g F s U M w q1 (fun h0 => by have := q2 0 h0; have := ht.1; omega) hd hz hi.hu (ht.later q6) (by omega)).mono ?_
        rintro r w' ⟨v, rfl, ho, hS, hcg⟩
        have hk : Kept (fun k => Fr k ∨ R k) w w' := fun k hk => hcg.block k (q4 k hk) (q3 k hk)
        refine ⟨v, rfl, by rw [List.length_map, ← ints_map]; exact ho, ⟨Fr, ⟨⟨F, hS, q2, fun k hk hf => ?_⟩, fun k hk => ?_, fun k hk => ?_, hcg.ext q6 q2⟩, h2.kept (hk.mono fun k hk => .inl hk) fun k hk => Nat.lt_of_lt_of_le (q4 k (.inl hk)) hcg.size, fun k hk hf => ?_⟩, hk.mono fun k hk => .inr hk⟩
        · rcases hk with hk | hk | hk
          · exact q3 k (.inl hk) hf
          · exact q3 k (.inr hk) hf
          · have := (owns_lt ho k hk).1
            have := q1.lt k hf
            omega
        · rcases hk with hk | hk | hk
          · exact Nat.lt_of_lt_of_le (q4 k (.inl hk)) hcg.size
          · exact Nat.lt_of_lt_of_le (q4 k (.inr hk)) hcg.size
          · exact (owns_lt ho k hk).2
        · rcases hk with hk | hk | hk
          · exact q5 k (.inl hk)
          · exact q5 k (.inr hk)
          · exact Nat.le_trans q6.size (owns_lt ho k hk).1
        · rcases hk with hk | hk
          · exact h3 k hk hf
          · have := (owns_lt ho k hk).1
            have := q4 k (.inl hf)
            omega
      · obtain ⟨Fr, h1, h2, h3⟩ := h
        refine (rsweep_yes h2 hd hz).mono ?_
        rintro r w' ⟨v, rfl, ho, hT⟩
        exact ⟨v, rfl, RdI.ints ho, Pr.refr h1 h3 hT⟩
      · refine ⟨fitSweep hi.fit _, hi.mag, hi.pl, hi.hm, (fun j hj => by cases hj), ?_, hi.small⟩
        show s.used - _ = cntB M s.slots
        omega
      · rw [List.length_map]
        omega
    · refine ⟨[], 40, s, U, M, fun t V N w R h => ?_, fun t V N w R h => ?_, hi, Nat.zero_le _⟩
      · obtain ⟨Fr, h1, h2, h3⟩ := id h
        obtain ⟨F, q1, q2, q3⟩ := h1.at_
        exact (sweep_zombie g F s U M w q1 hd j hj).mono fun e w' he => ⟨_, he.1, owns_nil _ _ _ _, he.2 ▸ ⟨pr_nil h, Kept.refl _ _⟩⟩
      · obtain ⟨Fr, h1, h2, h3⟩ := id h
        exact (rsweep_zombie h2 hd j hj).mono fun e w' he => ⟨_, he.1, RdI.nil _, he.2 ▸ pr_same h⟩
  · refine ⟨[], 33, s, U, M, fun t V N w R h => ?_, fun t V N w R h => ?_, hi, Nat.zero_le _⟩
    · obtain ⟨Fr, h1, h2, h3⟩ := id h
      obtain ⟨F, q1, q2, q3⟩ := h1.at_
      exact (sweep_state g F s U M w q1 hd).mono fun e w' he => ⟨_, he.1, owns_nil _ _ _ _, he.2 ▸ ⟨pr_nil h, Kept.refl _ _⟩⟩
    · obtain ⟨Fr, h1, h2, h3⟩ := id h
      exact (rsweep_state h2 hd).mono fun e w' he => ⟨_, he.1, RdI.nil _, he.2 ▸ pr_same h⟩
end

end Go.Proofs.YticaamdghjfifaaDoor
