/- The contract of the reference's Go. -/
import Derived.Test.YtfgfbmmidijgoaaRefHLock
import Derived.Test.YtfgfbmmidijgoaaRefHFree
import Derived.Test.YtfgfbmmidijgoaaRefHAdd
import Derived.Test.YtfgfbmmidijgoaaRefHWait
import Derived.Test.YtfgfbmmidijgoaaRefHSay
import Derived.Test.YtfgfbmmidijgoaaRefHBad
namespace Go.Proofs.Ytfgfbmmidijgoaa
open Go.RowKit
set_option linter.unusedVariables false

theorem rturned_self {w w' : World} {b : Nat} {F : Nat → Prop} {r : Rf} (h : RIs w b F r) (hx : Ext w w') : RTurned w b F (absS r) w' := ⟨r, F, h.later hx, rfl, Chg.of_ext hx F, fun k hk => .inl hk⟩
theorem rgo_any (b : Nat) (F : Nat → Prop) (r : Rf) (pick : Int) (wp : (Lit.int .i64 pick).wf = true) (w : World) (h : RIs w b F r) :
    Calls Try.prog 22 #[.pointer (some ⟨b, 0, none⟩), .int .i64 pick] w fun e w' => e = .returned (.tuple #[.int .i64 (goR (absS r) pick).1, .int .i64 (goR (absS r) pick).2.1]) ∧ RTurned w b F (goR (absS r) pick).2.2 w' := by
  have hok : ∀ i x rest, i < r.T.length → (absS r).ts.getD i [] = x :: rest → x.Ok := fun i x rest hi hx => by
    obtain ⟨⟨tv, av, lv, cv, ov, vals, h1⟩, -⟩ := h
    refine h1.ok i x ?_
    have : (absT r.T r.A).getD i [] = x :: rest := hx
    rw [absT_get _ _ hi] at this
    exact List.mem_of_mem_drop (this ▸ List.mem_cons_self)
  unfold goR
  by_cases ho : (absS r).over = true
  · rw [if_pos ho]
    exact (rgo_over b F r pick w h ho).mono fun e w' he => ⟨he.1, rturned_self h he.2⟩
  rw [if_neg ho]
  have ho : r.over = false := by cases h9 : r.over with | false => rfl | true => exact absurd h9 ho
  by_cases hl : leftB (absS r).ts = false
  · rw [if_pos hl]
    have h0 : total (absT r.T r.A) = 0 := by
      refine Classical.byContradiction fun hh => ?_
      have : leftB (absS r).ts = true := leftB_total (ts := absT r.T r.A) (by omega)
      rw [this] at hl; cases hl
    exact (rgo_idle b F r pick w h ho (.inl h0)).mono fun e w' he => ⟨by rw [he.1, if_pos h0], rturned_self h he.2⟩
  rw [if_neg hl]
  have h0 : total (absT r.T r.A) ≠ 0 := fun h0 => hl (left_total (ts := (absS r).ts) h0)
  cases hk : (enL (absS r) (absS r).ts.length)[(pick % ((enL (absS r) (absS r).ts.length).length : Int)).toNat]? with
  | none =>
    have he : enL (absS r) (absS r).ts.length = [] := by
      cases hE : enL (absS r) (absS r).ts.length with
      | nil => rfl
      | cons x q =>
        rw [hE] at hk
        rw [List.getElem?_eq_none_iff] at hk
        have h1 := Int.emod_lt_of_pos pick (b := (((x :: q).length : Nat) : Int)) (by rw [List.length_cons]; omega)
        have h2 := Int.emod_nonneg pick (b := (((x :: q).length : Nat) : Int)) (by rw [List.length_cons]; omega)
        omega
    exact (rgo_idle b F r pick w h ho (.inr he)).mono fun e w' he => ⟨by rw [he.1, if_neg h0], rturned_self h he.2⟩
  | some i =>
    obtain ⟨hen, hiN, hkn⟩ := enL_mem hk
    obtain ⟨x, q, hx, -, -, -⟩ := enB_head hen
    have hxo := hok i x q (by have e : (absS r).ts.length = r.T.length := absT_len _ _; omega) hx
    dsimp only
    rw [hx]
    dsimp only
    by_cases hb : x.op = 2 ∧ (absS r).lk x.a ≠ some (i : Int)
    · rw [if_pos hb]
      exact rgo_bad b F r pick wp w h ho _ _ i rfl rfl hk x q hx hb.1 hb.2
    · rw [if_neg hb]
      have o1 := hxo.op1
      have o5 := hxo.op5
      by_cases e1 : x.op = 1
      · exact rgo_lock b F r pick wp w h ho _ _ i rfl rfl hk x q hx e1
      by_cases e2 : x.op = 2
      · exact rgo_free b F r pick wp w h ho _ _ i rfl rfl hk x q hx e2 (Classical.byContradiction fun hh => hb ⟨e2, hh⟩)
      by_cases e3 : x.op = 3
      · exact rgo_add b F r pick wp w h ho _ _ i rfl rfl hk x q hx e3
      by_cases e4 : x.op = 4
      · exact rgo_wait b F r pick wp w h ho _ _ i rfl rfl hk x q hx e4
      · exact rgo_say b F r pick wp w h ho _ _ i rfl rfl hk x q hx (by omega)

end Go.Proofs.Ytfgfbmmidijgoaa
