/- The reference's rows of truths: cells; what Right, Put, Count answer. -/
import Derived.Test.YtmiogoecjoldoaaBitsD
namespace Go.Proofs.Ytmiogoecjoldoaa
open Go.RowKit
set_option linter.unusedVariables false

/-- 512 truths in a block, from a place on. -/
structure TrueAt (w : World) (b o : Nat) (f : Nat → Bool) : Prop where
  lt : b < w.heap.size
  cell : ∀ j, j < 512 → w.cell? ⟨b, o + j, none⟩ = some (.bool (f j))
  frozen : ∀ j, w.frozen? ⟨b, j, none⟩ = false

theorem TrueAt.congr {w : World} {b o : Nat} {f g : Nat → Bool} (h : TrueAt w b o f) (e : ∀ j, j < 512 → f j = g j) : TrueAt w b o g :=
  ⟨h.lt, fun k hk => by rw [h.cell k hk, e k hk], h.frozen⟩
theorem TrueAt.later {w w' : World} {b o : Nat} {f : Nat → Bool} (h : TrueAt w b o f) (hx : Ext w w') : TrueAt w' b o f :=
  ⟨Nat.lt_of_lt_of_le h.lt hx.size, fun k hk => (hx.cell _ _ h.lt).trans (h.cell k hk), fun j => (hx.frozen _).trans (h.frozen j)⟩
theorem TrueAt.chg {w w' : World} {b o : Nat} {f : Nat → Bool} {F : Nat → Prop} (h : TrueAt w b o f) (hc : Chg F w w') (hF : ¬ F b) : TrueAt w' b o f :=
  ⟨Nat.lt_of_lt_of_le h.lt hc.size, fun k hk => (hc.cell h.lt hF).trans (h.cell k hk), fun j => (hc.frozen _).trans (h.frozen j)⟩
theorem TrueAt.drew {w : World} {b o : Nat} {f : Nat → Bool} (h : TrueAt w b o f) : TrueAt w.drew b o f := ⟨h.lt, h.cell, h.frozen⟩
theorem TrueAt.drewN {w : World} {b o : Nat} {f : Nat → Bool} (h : TrueAt w b o f) (n : Nat) : TrueAt (w.drewN n) b o f := ⟨h.lt, h.cell, h.frozen⟩
/-- one truth is laid down. -/
theorem TrueAt.put {w : World} {b o : Nat} {f : Nat → Bool} (h : TrueAt w b o f) (k : Nat) (hk : k < 512) (x : Bool) : TrueAt (w.setCell ⟨b, o + k, none⟩ (.bool x)) b o (fun j => if j = k then x else f j) where
  lt := by rw [World.size_setCell]; exact h.lt
  cell := fun j hj => by
    by_cases e : j = k
    · subst e
      simp only [if_true]
      exact set_same (h.cell j hj)
    · simp only [e, if_false]
      exact (set_other (ne_off (by omega))).trans (h.cell j hj)
  frozen := fun j => (World.frozen?_setCell _ _ _ _).trans (h.frozen j)

/-- only block b turns, and of it only 512 cells. -/
structure ChgT (b o : Nat) (w w' : World) : Prop where
  chg : Chg (· = b) w w'
  rest : ∀ j, (j < o ∨ o + 512 ≤ j) → w'.cell? ⟨b, j, none⟩ = w.cell? ⟨b, j, none⟩
theorem ChgT.refl (b o : Nat) (w : World) : ChgT b o w w := ⟨Chg.refl _ _, fun _ _ => rfl⟩
theorem ChgT.trans {b o : Nat} {u v w : World} (h : ChgT b o u v) (k : ChgT b o v w) : ChgT b o u w := ⟨h.chg.trans k.chg (fun _ h => .inl h), fun j hj => (k.rest j hj).trans (h.rest j hj)⟩
theorem ChgT.drew {b o : Nat} {w w' : World} (h : ChgT b o w w') : ChgT b o w w'.drew := ⟨h.chg.drew, h.rest⟩
theorem ChgT.setCell {b o k : Nat} {w w' : World} (h : ChgT b o w w') (hk : k < 512) (u : Value) : ChgT b o w (w'.setCell ⟨b, o + k, none⟩ u) :=
  ⟨h.chg.setCell (.inl rfl) u, fun j hj => (set_other (ne_off (by omega))).trans (h.rest j hj)⟩
theorem TrueAt.beside {w w' : World} {b o o' : Nat} {f : Nat → Bool} (h : TrueAt w b o f) (hc : ChgT b o' w w') (ho : o + 512 ≤ o' ∨ o' + 512 ≤ o) : TrueAt w' b o f :=
  ⟨Nat.lt_of_lt_of_le h.lt hc.chg.size, fun k hk => (hc.rest _ (by omega)).trans (h.cell k hk), fun j => (hc.chg.frozen _).trans (h.frozen j)⟩

/-! ### Right -/
theorem rright_any (i n : Int) (w : World) : Calls Try.prog 29 #[.int .i64 i, .int .i64 n] w fun r w' => r = .returned (.bool (rightB i n)) ∧ w = w' := by
  by_cases h1 : 0 ≤ i
  · by_cases h2 : 0 ≤ n
    · by_cases h3 : i ≤ 512
      · have HR := Lib.hid (show rightB i n = decide (n ≤ 512 - i) by unfold rightB; rw [decide_eq_decide]; omega)
        go_enter Try.func29, Try.ntmps29
        go_wp2
        go_ret
        exact ⟨by rw [HR.out]; rfl, rfl⟩
      · have k3 : decide (i ≤ 512) = false := decide_eq_false h3
        have HR := Lib.hid (show rightB i n = false by unfold rightB; exact decide_eq_false (by omega))
        go_enter Try.func29, Try.ntmps29
        go_wp2
        go_ret
        exact ⟨by rw [HR.out]; rfl, rfl⟩
    · have k3 : decide (0 ≤ n) = false := decide_eq_false h2
      have HR := Lib.hid (show rightB i n = false by unfold rightB; exact decide_eq_false (by omega))
      go_enter Try.func29, Try.ntmps29
      go_wp2
      go_ret
      exact ⟨by rw [HR.out]; rfl, rfl⟩
  · have k3 : decide (0 ≤ i) = false := decide_eq_false h1
    have HR := Lib.hid (show rightB i n = false by unfold rightB; exact decide_eq_false (by omega))
    go_enter Try.func29, Try.ntmps29
    go_wp2
    go_ret
    exact ⟨by rw [HR.out]; rfl, rfl⟩

/-! ### Put -/
/-- bits of a span all the same. -/
def putB (f : Nat → Bool) (i n : Nat) (x : Bool) (j : Nat) : Bool := if inB i n j = true then x else f j
def putF (f : Nat → Bool) (i n : Int) (x : Bool) : Nat → Bool := if rightB i n = true then putB f i.toNat n.toNat x else f
theorem putF_true (f : Nat → Bool) (i n : Int) : putF f i n true = setF f i n := by
  unfold putF setF
  split
  · funext j; unfold putB setB; cases inB i.toNat n.toNat j <;> simp
  · rfl
theorem putF_false (f : Nat → Bool) (i n : Int) : putF f i n false = clrF f i n := by
  unfold putF clrF
  split
  · funext j; unfold putB clrB; cases inB i.toNat n.toNat j <;> simp
  · rfl

set_option maxRecDepth 20000 in
theorem rput_in (b o i n : Nat) (x : Bool) (f : Nat → Bool) (w : World) (h : TrueAt w b o f) (hi : i + n ≤ 512) :
    Calls Try.prog 22 #[.pointer (some ⟨b, o, none⟩), .int .i64 i, .int .i64 n, .bool x] w fun r w' => r = .returned (.int .i64 0) ∧ TrueAt w' b o (putB f i n x) ∧ ChgT b o w w' := by
  have HH := Lib.hid h
  clear h
  have HR := Lib.hid (fun w => rright_any i n w)
  rw [show rightB i n = true from decide_eq_true (by omega)] at HR
  go_enter Try.func22, Try.ntmps22
  go_wp2_with (go_at_call 29; refine (HR.out _).mono ?_; rintro r w1 ⟨rfl, rfl⟩)
  go_loopw [9] (fun vk wr => ∃ k : Nat, vk = .int .i64 k ∧ i ≤ k ∧ k ≤ i + n ∧ Hid (TrueAt wr b o (putB f i (k - i) x)) ∧ Hid (ChgT b o w wr)) (fun vk _ => i + n - (intOf vk).toNat)
  case atStart => exact ⟨i, rfl, by omega, by omega, Lib.hid (HH.out.congr (fun j _ => by unfold putB inB; rw [if_neg (by simp)])), Lib.hid (ChgT.refl _ _ _)⟩
  case round =>
    obtain ⟨k, rfl, hk1, hk2, hT, hC⟩ := hrel
    clear HH HR
    by_cases hlt : k < i + n
    · have hc := hT.out.cell k (by omega)
      have hf := hT.out.frozen (o + k)
      have hlt2 : (k : Int) < i + n := by omega
      have h512 : (k : Int) < 512 := by omega
      have HT := Lib.hid ((hT.out.put k (by omega) x).congr (g := putB f i (k + 1 - i) x) (fun j _ => by
        show (if j = k then x else putB f i (k - i) x j) = _
        unfold putB inB
        by_cases e : j = k
        · subst e
          rw [if_pos rfl, if_pos (by simp; omega)]
        · rw [if_neg e]
          by_cases e2 : i ≤ j ∧ j < i + (k - i)
          · rw [if_pos (by simpa using e2), if_pos (by simp; omega)]
          · rw [if_neg (by simpa using e2), if_neg (by simp; omega)]))
      have HC := Lib.hid (hC.out.setCell (k := k) (by omega) (.bool x))
      clear hT hC
      go_wp2
      go_roundw
      case rel => exact ⟨k + 1, by go_num, by omega, by omega, HT, HC⟩
      case measure => simp [intOf]; omega
    · have hge : ¬ (k : Int) < i + n := by omega
      rw [show k - i = n by omega] at hT
      have hk3 : (i : Int) + n ≤ k := by omega
      clear hk2 hlt
      go_wp2
      go_ret
      exact ⟨rfl, hT.out, hC.out⟩

theorem rput_any (b o : Nat) (i n : Int) (x : Bool) (f : Nat → Bool) (w : World) (h : TrueAt w b o f) :
    Calls Try.prog 22 #[.pointer (some ⟨b, o, none⟩), .int .i64 i, .int .i64 n, .bool x] w fun r w' => r = .returned (.int .i64 (putE i n)) ∧ TrueAt w' b o (putF f i n x) ∧ ChgT b o w w' := by
  by_cases hr : rightB i n = true
  · have hp := right_parts hr
    obtain ⟨a, rfl⟩ : ∃ a : Nat, i = a := ⟨i.toNat, by omega⟩
    obtain ⟨m, rfl⟩ : ∃ m : Nat, n = m := ⟨n.toNat, by omega⟩
    unfold putE putF
    rw [if_pos hr, if_pos hr]
    exact rput_in b o a m x f w h (by omega)
  · have hr' : rightB i n = false := by simpa using hr
    unfold putE putF
    rw [if_neg hr, if_neg hr]
    have HR := Lib.hid (fun w => rright_any i n w)
    rw [hr'] at HR
    clear hr hr'
    have HH := Lib.hid h
    clear h
    go_enter Try.func22, Try.ntmps22
    go_wp2_with (go_at_call 29; refine (HR.out _).mono ?_; rintro r w1 ⟨rfl, rfl⟩)
    go_ret
    exact ⟨rfl, HH.out, ChgT.refl _ _ _⟩

/-! ### Count -/
theorem cnt_more (f : Nat → Bool) (i d : Nat) : cnt f i (d + 1) = cnt f i d + (f (i + d)).toNat := by
  rw [cnt_add]
  show _ + cnt f (i + d) 1 = _
  unfold cnt
  unfold cnt
  cases f (i + d) <;> rfl

set_option maxRecDepth 20000 in
theorem rcount_in (b o i n : Nat) (f : Nat → Bool) (w : World) (h : TrueAt w b o f) (hi : i + n ≤ 512) :
    Calls Try.prog 16 #[.pointer (some ⟨b, o, none⟩), .int .i64 i, .int .i64 n] w fun r w' => r = .returned (.int .i64 (cnt f i n : Nat)) ∧ w = w' := by
  have HH := Lib.hid h
  clear h
  have HR := Lib.hid (fun w => rright_any i n w)
  rw [show rightB i n = true from decide_eq_true (by omega)] at HR
  go_enter Try.func16, Try.ntmps16
  go_wp2_with (go_at_call 29; refine (HR.out _).mono ?_; rintro r w1 ⟨rfl, rfl⟩)
  go_loop [7, 8] (fun vc vk => ∃ k c : Nat, vk = .int .i64 k ∧ vc = .int .i64 c ∧ i ≤ k ∧ k ≤ i + n ∧ c ≤ 512 ∧ Hid (c = cnt f i (k - i))) (fun _ vk => i + n - (intOf vk).toNat)
  case atStart => exact ⟨i, 0, rfl, rfl, by omega, by omega, by omega, Lib.hid (by rw [Nat.sub_self]; rfl)⟩
  case round =>
    obtain ⟨k, c, rfl, rfl, hk1, hk2, hc5, hT⟩ := hrel
    clear HR
    by_cases hlt : k < i + n
    · have hc := HH.out.cell k (by omega)
      have hlt2 : (k : Int) < i + n := by omega
      have h512 : (k : Int) < 512 := by omega
      have hm := cnt_more f i (k - i)
      rw [show i + (k - i) = k by omega, show k - i + 1 = k + 1 - i by omega, ← hT.out] at hm
      have hle := cnt_le f (k + 1 - i) i
      cases hf : f k
      · rw [hf] at hc hm
        have HN := Lib.hid hm.symm
        have hc6 : c ≤ 512 := by omega
        clear hm hf hle hc5
        go_wp2
        go_round
        case rel => exact ⟨k + 1, c, by go_num, rfl, by omega, by omega, hc6, Lib.hid (by have := HN.out; simp at this; exact this)⟩
        case measure => simp [intOf]; omega
      · rw [hf] at hc hm
        have hc6 : c + 1 ≤ 512 := by simp at hm; omega
        have HN := Lib.hid hm.symm
        clear hm hf hle hc5
        go_wp2
        go_round
        case rel => exact ⟨k + 1, c + 1, by go_num, by go_num, by omega, by omega, hc6, Lib.hid (by have := HN.out; simp at this; exact this)⟩
        case measure => simp [intOf]; omega
    · have hge : ¬ (k : Int) < i + n := by omega
      rw [show k - i = n by omega] at hT
      have hk3 : (i : Int) + n ≤ k := by omega
      clear hk2 hlt
      go_wp2
      go_ret
      exact ⟨by rw [← hT.out]; rfl, rfl⟩

theorem rcount_any (b o : Nat) (i n : Int) (f : Nat → Bool) (w : World) (h : TrueAt w b o f) :
    Calls Try.prog 16 #[.pointer (some ⟨b, o, none⟩), .int .i64 i, .int .i64 n] w fun r w' => r = .returned (.int .i64 (cntF f i n)) ∧ w = w' := by
  by_cases hr : rightB i n = true
  · have hp := right_parts hr
    obtain ⟨a, rfl⟩ : ∃ a : Nat, i = a := ⟨i.toNat, by omega⟩
    obtain ⟨m, rfl⟩ : ∃ m : Nat, n = m := ⟨n.toNat, by omega⟩
    unfold cntF
    rw [if_pos hr]
    exact rcount_in b o a m f w h (by omega)
  · have hr' : rightB i n = false := by simpa using hr
    unfold cntF
    rw [if_neg hr]
    have HR := Lib.hid (fun w => rright_any i n w)
    rw [hr'] at HR
    clear hr hr' h
    go_enter Try.func16, Try.ntmps16
    go_wp2_with (go_at_call 29; refine (HR.out _).mono ?_; rintro r w1 ⟨rfl, rfl⟩)
    go_ret
    exact ⟨rfl, rfl⟩

end Go.Proofs.Ytmiogoecjoldoaa
