/- Rows of bits as long as they must be: get, clear, free. -/
import Derived.Test.YticaamdghjfifaaDoorTz
namespace Go.Proofs.YticaamdghjfifaaDoor
open Go.RowKit
set_option linter.unusedVariables false

def wl (f : Nat → Bool) (n : Nat) : List Value := (List.range n).map fun k => .int .u64 (word f k : Nat)
theorem wl_len (f : Nat → Bool) (n : Nat) : (wl f n).length = n := by unfold wl; simp
theorem wl_get (f : Nat → Bool) (n k : Nat) (h : k < n) : (wl f n)[k]? = some (.int .u64 (word f k : Nat)) := by unfold wl; simp [h]
theorem wl_congr {f g : Nat → Bool} {n : Nat} (h : ∀ j, j < 64 * n → f j = g j) : wl f n = wl g n := by
  unfold wl
  refine List.map_congr_left fun k hk => ?_
  have := List.mem_range.1 hk
  rw [word_congr (fun j hj => h _ (by omega))]

/-- a row of n words that a span owns. -/
structure WRow (w : World) (B : Nat) (v : Value) (n : Nat) (f : Nat → Bool) : Prop where
  own : w.ownsRow B 30 1 v n (wl f n)
  clear : ∀ j, 64 * n ≤ j → f j = false
  few : n ≤ 1099511627776

theorem WRow.form {w : World} {B n : Nat} {v : Value} {f : Nat → Bool} (h : WRow w B v n f) : ∃ p cap, v = .slice p n cap ∧ n ≤ cap ∧ cap ≤ maxLen ∧ (n = 0 ∨ ∃ g, p = some ⟨g, 0, none⟩ ∧ B ≤ g ∧ g < w.heap.size ∧ v.ownBlock = some g ∧ (∀ k, k < n → w.cell? ⟨g, k, none⟩ = some (.int .u64 (word f k : Nat))) ∧ ∀ k, w.frozen? ⟨g, k, none⟩ = false) := by
  obtain ⟨p, cap, rfl, h1, h2, h3⟩ := owns_form h.own
  refine ⟨p, cap, rfl, h1, h2, ?_⟩
  rcases h3 with h3 | ⟨g, rfl, h4, h5⟩
  · exact .inl h3
  · refine .inr ⟨g, rfl, h4, h5, rfl, fun k hk => ?_, fun k => World.ownsRow.frozenAt h.own k⟩
    rw [World.ownsRow.cellAt h.own k (by omega), wl_get f n k hk]
theorem WRow.nil (w : World) (B : Nat) : WRow w B (.slice none 0 0) 0 (fun _ => false) := ⟨owns_nil _ _ _ _, fun _ _ => rfl, by omega⟩
theorem WRow.later {w w' : World} {B n : Nat} {v : Value} {f : Nat → Bool} (h : WRow w B v n f) (hx : Ext w w') : WRow w' B v n f := ⟨owns_later h.own hx.below, h.clear, h.few⟩
theorem WRow.chg {w w' : World} {B n : Nat} {v : Value} {f : Nat → Bool} {F : Nat → Prop} (h : WRow w B v n f) (hc : Chg F w w') (hf : ∀ g, v.ownBlock = some g → ¬ F g) : WRow w' B v n f := ⟨owns_chg h.own hc hf, h.clear, h.few⟩

theorem and63 (i : Nat) (hi : i < 9223372036854775808) : bits .and .i64 (i : Int) 63 = ((i % 64 : Nat) : Int) := by
  have h1 : (BitVec.ofInt 64 (i : Int)).toNat = i := by
    rw [BitVec.ofInt_natCast, BitVec.toNat_ofNat]; exact Nat.mod_eq_of_lt (by omega)
  show IntKind.i64.wrap ((BitVec.ofInt 64 (i : Int) &&& BitVec.ofInt 64 63).toNat : Int) = _
  rw [BitVec.toNat_and, h1, show (BitVec.ofInt 64 63).toNat = 2 ^ 6 - 1 from rfl, Nat.and_two_pow_sub_one_eq_mod, IntKind.wrap_i64]
  omega

/-! ### get -/
set_option maxHeartbeats 400000 in
theorem rget_any (B n i : Nat) (v : Value) (f : Nat → Bool) (w : World) (h : WRow w B v n f) (hi : i < 9223372036854775808) :
    Calls Tryd.prog 31 #[v, .int .i64 i] w fun r w' => r = .returned (.bool (f i)) ∧ w = w' := by
  obtain ⟨p, cap, rfl, hnc, hcm, hp⟩ := h.form
  have hfew := h.few
  have hb := Lib.hid (and63 i hi)
  by_cases hlt : i / 64 < n
  · rcases hp with hp | ⟨g, rfl, -, -, -, hc, -⟩
    · omega
    · have hc1 := hc (i / 64) hlt
      clear hc
      have HG := Lib.hid (word_get f (i / 64) (i % 64) (by omega))
      rw [show 64 * (i / 64) + i % 64 = i by omega] at HG
      clear h
      generalize word f (i / 64) = x at *
      have hb := hb.out
      have hlt2 : (i : Int) / 64 < n := by omega
      have h63 : (i : Int) % 64 < 64 := by omega
      go_enter Tryd.func31, Tryd.ntmps31
      go_wp2
      go_ret
      exact ⟨congrArg (fun b => Ending.returned (Value.bool b)) HG.out, rfl⟩
  · have HF := Lib.hid (show f i = false from h.clear i (by omega))
    have k1 : decide ((i : Int) / 64 < n) = false := decide_eq_false (by omega)
    clear h hp hlt
    go_enter Tryd.func31, Tryd.ntmps31
    go_wp2
    go_ret
    exact ⟨by rw [HF.out]; rfl, rfl⟩

/-! ### clear -/
theorem bit_is (a : Nat) (h : a < 64) : IntKind.u64.wrap ((2 : Int) ^ a) = ((maskN a 1 : Nat) : Int) := by
  have e : (2 : Int) ^ a = ((maskN a 1 : Nat) : Int) := by
    unfold maskN
    rw [show (2 ^ 1 - 1 : Nat) = 1 from rfl, Nat.mul_one, Int.natCast_pow]; rfl
  have := maskN_lt a 1 (by omega)
  rw [e, IntKind.wrap_u64]; omega

theorem WRow.set1 {w : World} {B n g cap : Nat} {f f' : Nat → Bool} (h : WRow w B (.slice (some ⟨g, 0, none⟩) n cap) n f) (k : Nat) (hk : k < n) (x : Nat) (hx : word f' k = x) (ho : ∀ j, j / 64 ≠ k → f' j = f j) : WRow (w.setCell ⟨g, k, none⟩ (.int .u64 (x : Nat))) B (.slice (some ⟨g, 0, none⟩) n cap) n f' := by
  refine ⟨?_, fun j hj => (ho j (by omega)).trans (h.clear j hj), h.few⟩
  have := (World.ownsRow.stored h.own k (.int .u64 (x : Nat))).1
  have e : (wl f n).set k (.int .u64 (x : Nat)) = wl f' n := by
    apply List.ext_getElem?
    intro j
    by_cases hj : j < n
    · by_cases e : k = j
      · subst e
        rw [List.getElem?_set_self (by rw [wl_len]; exact hj), wl_get f' n k hj, hx]
      · rw [List.getElem?_set_ne e, wl_get f n j hj, wl_get f' n j hj, word_congr (fun m hm => (ho _ (by omega)).symm)]
    · rw [List.getElem?_eq_none (by rw [List.length_set, wl_len]; omega), List.getElem?_eq_none (by rw [wl_len]; omega)]
  rwa [e] at this

set_option maxHeartbeats 400000 in
theorem rclear_any (B n i : Nat) (v : Value) (f : Nat → Bool) (w : World) (h : WRow w B v n f) (hi : i < 9223372036854775808) (hlt : i / 64 < n) :
    Calls Tryd.prog 35 #[v, .int .i64 i] w fun r w' => r = .returned (.tuple #[]) ∧ WRow w' B v n (clrB f i 1) ∧ Chg (fun g => v.ownBlock = some g) w w' := by
  obtain ⟨p, cap, rfl, hnc, hcm, hp⟩ := h.form
  have hfew := h.few
  have hb := and63 i hi
  rcases hp with hp | ⟨g, rfl, -, -, -, hc, hfr⟩
  · omega
  have hc1 := hc (i / 64) hlt
  have hfr1 := hfr (i / 64)
  clear hc hfr
  have HN := Lib.hid (h.set1 (f' := clrB f i 1) (i / 64) hlt (word f (i / 64) &&& (18446744073709551615 - maskN (i % 64) 1)) (by
    rw [word_andNot f (i / 64) (i % 64) 1 (by omega), show 64 * (i / 64) + i % 64 = i by omega]) (fun j hj => by unfold clrB inB; rw [decide_eq_false (by omega)]; simp))
  have HM := Lib.hid (bit_is (i % 64) (by omega))
  have HA := Lib.hid (u64_andNot_nat (word f (i / 64)) (maskN (i % 64) 1) (word_lt _ _) (maskN_lt _ _ (by omega)))
  clear h
  generalize word f (i / 64) = x at *
  generalize maskN (i % 64) 1 = m at *
  have HMM := HM.out
  have hlt2 : (i : Int) / 64 < n := by omega
  have h63 : (i : Int) % 64 < 64 := by omega
  go_enter Tryd.func35, Tryd.ntmps35
  go_wp2_with fail
  refine wp_region_head 10 (by kernel_rfl) (by kernel_rfl) ?_
  simp only [List.take_succ_cons, List.take_zero, List.drop_succ_cons, List.drop_zero]
  repeat (go_big_quiet_step (fail))
  refine wpQuiet_nil ?_
  go_wp2_with fail
  go_end0
  refine ⟨rfl, ?_, ?_⟩
  · rw [HA.out]
    exact HN.out.later (Ext.refl _).drew
  · exact ((Chg.refl (fun k => (Value.slice (some ⟨g, 0, none⟩) n cap).ownBlock = some k) w).setCell (p := ⟨g, i / 64, none⟩) (.inl rfl) _).drew

/-! ### free -/
/-- the first place from i on whose bit is not set. -/
def freeAt (f : Nat → Bool) (i r : Nat) : Prop := i ≤ r ∧ f r = false ∧ ∀ j, i ≤ j → j < r → f j = true

theorem ctz_spec (x : Nat) (hx : x < 18446744073709551616) (h0 : x ≠ 0) : Lib.ctz 64 x < 64 ∧ x.testBit (Lib.ctz 64 x) = true ∧ ∀ j, j < Lib.ctz 64 x → x.testBit j = false := by
  have e : Lib.ctz 64 x = Lib.ctzFrom 64 x := by unfold Lib.ctz; rw [if_neg h0]
  rw [e]
  obtain ⟨m, hm, hlt⟩ := Lib.ctzFrom_spec 64 x (by omega) (by simpa using hx)
  generalize Lib.ctzFrom 64 x = c at *
  refine ⟨hlt, ?_, fun j hj => ?_⟩
  · rw [hm, Nat.testBit_two_pow_mul]
    simp
  · rw [hm, Nat.testBit_two_pow_mul, decide_eq_false (by omega)]; rfl

end Go.Proofs.YticaamdghjfifaaDoor
