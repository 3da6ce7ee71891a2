/- The contracts of bits: right, Get, the ones of a number, what is done to a word. -/
import Derived.Test.YtahabnepjjcgoaaRows
import Derived.Test.YtahabnepjjcgoaaChg
import Derived.Test.YtahabnepjjcgoaaPop
import Derived.Test.YtahabnepjjcgoaaHead
import Derived.WalkSpells
import Derived.ProofKit
import Derived.Handy
import Derived.Outline
import Derived.IntWalk
import Derived.Deep.QuietTactic
import Derived.BigQuiet
namespace Go.Proofs.Ytahabnepjjcgoaa
open Go.RowKit
set_option linter.unusedVariables false

/-- a row of bits at a place. -/
structure RowAt (w : World) (b o : Nat) (f : Nat → Bool) : Prop where
  lt : b < w.heap.size
  cell : ∀ k, k < 8 → w.cell? ⟨b, o + k, none⟩ = some (.int .u64 (word f k : Nat))
  frozen : ∀ j, w.frozen? ⟨b, j, none⟩ = false

theorem RowAt.congr {w : World} {b o : Nat} {f g : Nat → Bool} (h : RowAt w b o f) (e : ∀ j, j < 512 → f j = g j) : RowAt w b o g :=
  ⟨h.lt, fun k hk => by rw [h.cell k hk, word_congr fun j hj => e _ (by omega)], h.frozen⟩
theorem RowAt.later {w w' : World} {b o : Nat} {f : Nat → Bool} (h : RowAt w b o f) (hx : Ext w w') : RowAt w' b o f :=
  ⟨Nat.lt_of_lt_of_le h.lt hx.size, fun k hk => (hx.cell _ _ h.lt).trans (h.cell k hk), fun j => (hx.frozen _).trans (h.frozen j)⟩
theorem RowAt.chg {w w' : World} {b o : Nat} {f : Nat → Bool} {F : Nat → Prop} (h : RowAt w b o f) (hc : Chg F w w') (hF : ¬ F b) : RowAt w' b o f :=
  ⟨Nat.lt_of_lt_of_le h.lt hc.size, fun k hk => (hc.cell h.lt hF).trans (h.cell k hk), fun j => (hc.frozen _).trans (h.frozen j)⟩

def rightB (i n : Int) : Bool := decide (0 ≤ i ∧ 0 ≤ n ∧ i ≤ 512 ∧ n ≤ 512 - i)
def getB (f : Nat → Bool) (i : Int) : Bool := decide (0 ≤ i ∧ i < 512) && f i.toNat

theorem right_any (i n : Int) (w : World) : Calls Try.prog 30 #[.int .i64 i, .int .i64 n] w fun r w' => r = .returned (.bool (rightB i n)) ∧ w = w' := by
  by_cases h1 : 0 ≤ i
  · by_cases h2 : 0 ≤ n
    · by_cases h3 : i ≤ 512
      · have HR := Lib.hid (show rightB i n = decide (n ≤ 512 - i) by unfold rightB; rw [decide_eq_decide]; omega)
        go_enter Try.func30, Try.ntmps30
        go_wp2
        go_ret
        exact ⟨by rw [HR.out]; rfl, rfl⟩
      · have k3 : decide (i ≤ 512) = false := decide_eq_false h3
        have HR := Lib.hid (show rightB i n = false by unfold rightB; exact decide_eq_false (by omega))
        go_enter Try.func30, Try.ntmps30
        go_wp2
        go_ret
        exact ⟨by rw [HR.out]; rfl, rfl⟩
    · have k3 : decide (0 ≤ n) = false := decide_eq_false h2
      have HR := Lib.hid (show rightB i n = false by unfold rightB; exact decide_eq_false (by omega))
      go_enter Try.func30, Try.ntmps30
      go_wp2
      go_ret
      exact ⟨by rw [HR.out]; rfl, rfl⟩
  · have k3 : decide (0 ≤ i) = false := decide_eq_false h1
    have HR := Lib.hid (show rightB i n = false by unfold rightB; exact decide_eq_false (by omega))
    go_enter Try.func30, Try.ntmps30
    go_wp2
    go_ret
    exact ⟨by rw [HR.out]; rfl, rfl⟩

set_option maxRecDepth 20000 in
theorem get_in (b o : Nat) (i : Nat) (f : Nat → Bool) (w : World) (hi : i < 512) (h : RowAt w b o f) :
    Calls Try.prog 19 #[.pointer (some ⟨b, o, none⟩), .int .i64 i] w fun r w' => r = .returned (.bool (f i)) ∧ w = w' := by
  have hc := h.cell (i / 64) (by omega)
  have h2 : ((i / 64 : Nat) : Int) < 8 := by omega
  have HG := Lib.hid (word_get f (i / 64) (i % 64) (by omega))
  rw [show 64 * (i / 64) + i % 64 = i by omega] at HG
  clear h
  generalize word f (i / 64) = x at *
  go_enter Try.func19, Try.ntmps19
  go_wp2
  go_ret
  exact ⟨by rw [← HG.out]; rfl, rfl⟩

theorem get_any (b o : Nat) (i : Int) (f : Nat → Bool) (w : World) (h : RowAt w b o f) :
    Calls Try.prog 19 #[.pointer (some ⟨b, o, none⟩), .int .i64 i] w fun r w' => r = .returned (.bool (getB f i)) ∧ w = w' := by
  by_cases h1 : 0 ≤ i ∧ i < 512
  · have := get_in b o i.toNat f w (by omega) h
    rw [show ((i.toNat : Nat) : Int) = i by omega] at this
    unfold getB
    rw [decide_eq_true h1, Bool.true_and]
    exact this
  · have HR := Lib.hid (show getB f i = false by unfold getB; rw [decide_eq_false h1]; rfl)
    clear h
    by_cases h2 : 0 ≤ i
    · have k2 : decide (i < 512) = false := decide_eq_false (by omega)
      clear h1
      go_enter Try.func19, Try.ntmps19
      go_wp2
      go_ret
      exact ⟨by rw [HR.out]; rfl, rfl⟩
    · have k2 : decide (0 ≤ i) = false := decide_eq_false h2
      clear h1
      go_enter Try.func19, Try.ntmps19
      go_wp2
      go_ret
      exact ⟨by rw [HR.out]; rfl, rfl⟩

theorem nat_and (a b : Nat) (ha : a < 18446744073709551616) (hb : b < 18446744073709551616) : bits .and .u64 (a : Int) (b : Int) = ((a &&& b : Nat) : Int) := u64_and_nat a b ha hb

theorem ofInt_i64 (a : Nat) (ha : a < 9223372036854775808) : (BitVec.ofInt 64 (a : Int)).toNat = a := by
  rw [BitVec.ofInt_natCast, BitVec.toNat_ofNat]; exact Nat.mod_eq_of_lt (by omega)
theorem i64_and_nat (a b : Nat) (ha : a < 9223372036854775808) (hb : b < 9223372036854775808) : bits .and .i64 (a : Int) (b : Int) = ((a &&& b : Nat) : Int) := by
  have hx : a &&& b < 2 ^ 63 := Nat.and_lt_two_pow _ (by omega)
  show IntKind.i64.wrap ((BitVec.ofInt 64 (a : Int) &&& BitVec.ofInt 64 (b : Int)).toNat : Int) = _
  rw [BitVec.toNat_and, ofInt_i64 a ha, ofInt_i64 b hb, IntKind.wrap_i64]
  omega

theorem wrap_nat (a : Nat) (h : a < 2 ^ 64) : IntKind.u64.wrap (a : Int) = a := by rw [IntKind.wrap_u64]; omega
theorem wrap_add (a b c : Nat) (e : a + b = c) (h : c < 2 ^ 64) : IntKind.u64.wrap ((a : Int) + b) = c := by
  rw [← Int.natCast_add, e]; exact wrap_nat c h
theorem wrap_div (a d c : Nat) (e : a + a / d = c) (h : c < 2 ^ 64) : IntKind.u64.wrap ((a : Int) + (a : Int) / (d : Nat)) = c := by
  rw [← Int.natCast_ediv, ← Int.natCast_add, e]; exact wrap_nat c h
theorem wrap_div' (a d c : Nat) (e : a / d + a = c) (h : c < 2 ^ 64) : IntKind.u64.wrap ((a : Int) / (d : Nat) + (a : Int)) = c := by
  rw [← Int.natCast_ediv, ← Int.natCast_add, e]; exact wrap_nat c h
theorem i64_127 (g p : Nat) (h : g < 9223372036854775808) (hp : g % 128 = p) : bits .and .i64 (g : Int) 127 = (p : Int) := by
  have := i64_and_nat g 127 h (by omega)
  rw [show g &&& 127 = g % 128 from Nat.and_two_pow_sub_one_eq_mod g 7, hp] at this
  exact this
theorem and_div (x d m : Nat) (hx : x < 2 ^ 64) (hm : m < 2 ^ 64) : bits .and .u64 ((x : Int) / (d : Nat)) (m : Nat) = ((x / d &&& m : Nat) : Int) := by
  rw [← Int.natCast_ediv]; exact nat_and _ _ (Nat.lt_of_le_of_lt (Nat.div_le_self _ _) hx) hm
theorem fold_small (c : Nat) (h : c < 2 ^ 60) : c + c / 256 < 2 ^ 61 ∧ c + c / 256 + (c + c / 256) / 65536 < 2 ^ 62 ∧ c + c / 256 + (c + c / 256) / 65536 + (c + c / 256 + (c + c / 256) / 65536) / 4294967296 < 2 ^ 63 := by
  omega

theorem ones_any (x : Nat) (w : World) (hx : x < 2 ^ 64) : Calls Try.prog 33 #[.int .u64 x] w fun r w' => r = .returned (.int .i64 (popL x 64 : Nat)) ∧ w = w' := by
  obtain ⟨a, b, c, ea, eb, ec, ha, hb, hbb, hc, hp⟩ := pop64 x hx
  obtain ⟨s1, s2, s3⟩ := fold_small c hc
  have hb64 : b < 2 ^ 64 := Nat.lt_trans hb (by decide)
  have E1 : bits .and .u64 ((x : Int) / 2) 6148914691236517205 = _ := and_div x 2 6148914691236517205 hx (by decide)
  have E2 : bits .and .u64 (x : Int) 6148914691236517205 = _ := nat_and x 6148914691236517205 hx (by decide)
  have W1 := wrap_add _ _ _ ea ha
  have E3 : bits .and .u64 ((a : Int) / 4) 3689348814741910323 = _ := and_div a 4 3689348814741910323 ha (by decide)
  have E4 : bits .and .u64 (a : Int) 3689348814741910323 = _ := nat_and a 3689348814741910323 ha (by decide)
  have W2 := wrap_add _ _ _ eb hb64
  have W3 : IntKind.u64.wrap ((b : Int) / 16 + b) = _ := wrap_div' b 16 _ rfl hbb
  have E5 : bits .and .u64 ((b / 16 + b : Nat) : Int) 1085102592571150095 = _ := nat_and (b / 16 + b) 1085102592571150095 hbb (by decide)
  rw [ec] at E5
  have W4 : IntKind.u64.wrap ((c : Int) + (c : Int) / 256) = _ := wrap_div c 256 _ rfl (Nat.lt_trans s1 (by decide))
  generalize c + c / 256 = d at *
  have W5 : IntKind.u64.wrap ((d : Int) + (d : Int) / 65536) = _ := wrap_div d 65536 _ rfl (Nat.lt_trans s2 (by decide))
  generalize d + d / 65536 = e at *
  have W6 : IntKind.u64.wrap ((e : Int) + (e : Int) / 4294967296) = _ := wrap_div e 4294967296 _ rfl (Nat.lt_trans s3 (by decide))
  generalize e + e / 4294967296 = g at *
  have W7 : wrap64 (g : Int) = (g : Int) := by
    clear E1 E2 W1 E3 E4 W2 W3 E5 W4 W5 W6
    exact IntWalk.wrap64_in _ (by omega)
  have E6 := i64_127 g (popL x 64) s3 hp
  have EE := Lib.hid (And.intro E1 (And.intro E2 (And.intro W1 (And.intro E3 (And.intro E4 (And.intro W2 (And.intro W3 (And.intro E5 (And.intro W4 (And.intro W5 (And.intro W6 (And.intro W7 E6))))))))))))
  clear E1 E2 W1 E3 E4 W2 W3 E5 W4 W5 W6 W7 E6 ea eb ec ha hb hbb hb64 hc hp hx s1 s2 s3
  generalize x / 2 &&& 6148914691236517205 = a1 at *
  generalize x &&& 6148914691236517205 = a2 at *
  generalize a / 4 &&& 3689348814741910323 = b1 at *
  generalize a &&& 3689348814741910323 = b2 at *
  generalize b / 16 + b = s at *
  generalize popL x 64 = p at *
  obtain ⟨E1, E2, W1, E3, E4, W2, W3, E5, W4, W5, W6, W7, E6⟩ := EE.out
  clear EE
  go_enter Try.func33, Try.ntmps33
  go_wp2
  go_ret
  exact ⟨rfl, rfl⟩

/-! ### what is done to a word -/
theorem u64_or_nat' (a b : Nat) (ha : a < 18446744073709551616) (hb : b < 18446744073709551616) : bits .or .u64 (a : Int) (b : Int) = ((a ||| b : Nat) : Int) := u64_or_nat a b ha hb

theorem set1_any (b o : Nat) (x m : Nat) (w : World) (hx : x < 2 ^ 64) (hm : m < 2 ^ 64) (hc : w.cell? ⟨b, o, none⟩ = some (.int .u64 x)) (hf : w.frozen? ⟨b, o, none⟩ = false) :
    Calls Try.prog 44 #[.pointer (some ⟨b, o, none⟩), .int .u64 m] w fun r w' => r = .returned (.tuple #[]) ∧ w.setCell ⟨b, o, none⟩ (.int .u64 (x ||| m : Nat)) = w' := by
  have HE := Lib.hid (u64_or_nat' x m hx hm)
  clear hx hm
  go_enter Try.func44, Try.ntmps44
  go_wp2
  go_end0
  exact ⟨rfl, by rw [HE.out]⟩

theorem clr1_any (b o : Nat) (x m : Nat) (w : World) (hx : x < 2 ^ 64) (hm : m < 2 ^ 64) (hc : w.cell? ⟨b, o, none⟩ = some (.int .u64 x)) (hf : w.frozen? ⟨b, o, none⟩ = false) :
    Calls Try.prog 45 #[.pointer (some ⟨b, o, none⟩), .int .u64 m] w fun r w' => r = .returned (.tuple #[]) ∧ w.setCell ⟨b, o, none⟩ (.int .u64 (x &&& (18446744073709551615 - m) : Nat)) = w' := by
  have HE := Lib.hid (u64_andNot_nat x m hx hm)
  clear hx hm
  go_enter Try.func45, Try.ntmps45
  go_wp2
  go_end0
  exact ⟨rfl, by rw [HE.out]⟩

theorem cnt1_any (b o g : Nat) (x m : Nat) (s : Int) (w : World) (hx : x < 2 ^ 64) (hm : m < 2 ^ 64) (hc : w.cell? ⟨b, o, none⟩ = some (.int .u64 x)) (hs : w.cell? ⟨g, 0, none⟩ = some (.int .i64 s)) (hf : w.frozen? ⟨g, 0, none⟩ = false)
    (h0 : 0 ≤ s) (h1 : s ≤ 100000) :
    Calls Try.prog 32 #[.pointer (some ⟨b, o, none⟩), .int .u64 m, .pointer (some ⟨g, 0, none⟩)] w fun r w' => r = .returned (.tuple #[]) ∧ ∃ n, (w.setCell ⟨g, 0, none⟩ (.int .i64 (s + (popL (x &&& m) 64 : Nat)))).drewN n = w' := by
  have E1 := nat_and x m hx hm
  have hle : x &&& m < 2 ^ 64 := Nat.and_lt_two_pow _ hm
  have HO := Lib.hid (fun w => ones_any (x &&& m) w hle)
  have hp : popL (x &&& m) 64 ≤ 64 := by rw [popL_cnt]; exact cnt_le _ _ _
  clear hx hm hle
  generalize x &&& m = y at *
  generalize popL y 64 = p at *
  have W1 : IntKind.i64.wrap (s + (p : Int)) = s + p := IntWalk.i64_in _ (by omega)
  go_enter Try.func32, Try.ntmps32
  go_wp2_with fail
  refine wp_region_head 8 (by kernel_rfl) (by kernel_rfl) ?_
  simp only [List.take_succ_cons, List.take_zero, List.drop_succ_cons, List.drop_zero]
  repeat (go_big_quiet_step (fail))
  go_big_quiet_want
  go_big_quiet_op
  apply Exists.intro
  refine ⟨?_, ?_⟩
  · exact (HO.out _).mono fun _ _ ⟨a, b⟩ => ⟨a, b.symm⟩
  go_big_quiet_on
  repeat (go_big_quiet_step (fail))
  refine wpQuiet_nil ?_
  go_wp2
  go_end0
  exact ⟨rfl, 1, rfl⟩

end Go.Proofs.Ytahabnepjjcgoaa
