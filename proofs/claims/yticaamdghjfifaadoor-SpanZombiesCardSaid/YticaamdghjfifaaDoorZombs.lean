/- What SpanZombies asks of its span. -/
import Derived.Test.YticaamdghjfifaaDoorEnds
namespace Go.Proofs.YticaamdghjfifaaDoor
open Go.RowKit
set_option linter.unusedVariables false

/-- a span of class c when the first k slots are used. -/
def sZ (p c k : Nat) (np : Bool) : Sp := ⟨p * 8192, pgN c, 1, c, np, szN c, slN c, k, false, false, mgN c, k⟩
def ZoS (W w : World) (g p c k : Nat) (M : Nat → Bool) : Prop := AwS W w g (sZ p c k false) (ltB k) M

theorem zo_new (p c : Nat) (w : World) (hc0 : 1 ≤ c) (hc : c ≤ 67) (hp : p ≤ 1000000) :
    Calls Tryd.prog 11 #[.int .u64 p, .int .u64 (pgN c : Nat), .int .i64 c, .bool false] w fun r w' => ∃ g, r = .returned (.tuple #[.pointer (some ⟨g, 0, none⟩), .int .i64 0]) ∧ ZoS w w' g p c 0 noB := by
  have := (tabN_fit c (by omega)).2.1
  refine (aw_new p c false w hc0 hc (by omega)).mono ?_
  rintro r w' ⟨g, rfl, h⟩
  refine ⟨g, rfl, ?_⟩
  unfold ZoS
  rw [ltB_zero]
  exact h
theorem zo_next {W w : World} {g p c k : Nat} {M : Nat → Bool} (h : ZoS W w g p c k M) (ht : TzAt W) (hk : k < slN c) :
    Calls Tryd.prog 12 #[.pointer (some ⟨g, 0, none⟩)] w fun r w' => r = .returned (.tuple #[.int .i64 k, .int .i64 0]) ∧ ZoS W w' g p c (k + 1) M := by
  have := aw_next h ht k (by show (1 : Nat) ≠ 0; decide) (ltB_free k) (by show k < slN c; exact hk) (by show k < slN c; exact hk)
  rw [ltB_set] at this
  exact this
theorem zo_mark {W w : World} {g p c k : Nat} (h : ZoS W w g p c k noB) (n : Nat) (hn : n < slN c) :
    Calls Tryd.prog 14 #[.pointer (some ⟨g, 0, none⟩), .int .i64 n] w fun r w' => r = .returned (.int .i64 0) ∧ ZoS W w' g p c k (setB noB n 1) :=
  aw_mark h n rfl hn
theorem zo_sweep {W w : World} {g p c k : Nat} {n : Nat} (h : ZoS W w g p c k (setB noB n 1)) (hn : k ≤ n) :
    Calls Tryd.prog 15 #[.pointer (some ⟨g, 0, none⟩)] w fun r w' => r = .returned (.tuple #[.slice none 0 0, .int .i64 40]) ∧ w = w' := by
  obtain ⟨⟨F, h1, h2⟩, h3⟩ := h
  refine sweep_zombie g F _ _ _ w h1 rfl n ?_
  unfold zB setB noB inB ltB
  rw [decide_eq_false (show ¬ n < k by omega), decide_eq_true (show n ≤ n ∧ n < n + 1 by omega)]; rfl
theorem zo_marked {W w : World} {g p c k : Nat} {n : Nat} (h : ZoS W w g p c k (setB noB n 1)) (hn : n < slN c) :
    Calls Tryd.prog 17 #[.pointer (some ⟨g, 0, none⟩), .int .i64 n] w fun r w' => r = .returned (.bool true) ∧ w = w' := by
  obtain ⟨⟨F, h1, h2⟩, h3⟩ := h
  obtain ⟨uv, mv, nu, nm, h5, h6⟩ := h1.at_
  have := marked_any g _ uv mv nu nm _ _ n w h5 h1.fit
  rw [thereB_lt (s := sZ p c k false) (show n < slN c from hn), show (setB noB n 1) ((n : Int).toNat) = true by
    unfold setB noB inB; simp] at this
  exact this
theorem zo_used {W w : World} {g p c k : Nat} {M : Nat → Bool} (h : ZoS W w g p c k M) (n : Nat) (hk : n < k) (hn : n < slN c) :
    Calls Tryd.prog 13 #[.pointer (some ⟨g, 0, none⟩), .int .i64 n] w fun r w' => r = .returned (.bool true) ∧ w = w' := by
  obtain ⟨⟨F, h1, h2⟩, h3⟩ := h
  obtain ⟨uv, mv, nu, nm, h5, h6⟩ := h1.at_
  have := used_any g _ uv mv nu nm _ _ n w h5 h1.fit
  rw [thereB_lt (s := sZ p c k false) (show n < slN c from hn), show (ltB k) ((n : Int).toNat) = true by
    unfold ltB; simp; omega] at this
  exact this

end Go.Proofs.YticaamdghjfifaaDoor
