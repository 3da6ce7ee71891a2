/- The contracts of a scheduler's left and Enabled. -/
import Derived.Test.YtfgfbmmidijgoaaWaits
namespace Go.Proofs.Ytfgfbmmidijgoaa
open Go.RowKit
set_option linter.unusedVariables false

theorem SchAt.open_ {w : World} {b : Nat} {F : Nat → Prop} {s : Sc} {tv sv : Value} {vals : List Value} {bl bc nl nc : Nat} (h : SchAt w b F s tv sv vals bl bc nl nc) :
    ∃ pt capt, tv = .slice pt s.ts.length capt ∧ ∀ i, i < s.ts.length → ∃ gt p cap, pt = some ⟨gt, 0, none⟩ ∧ b < gt ∧ gt < w.heap.size ∧ w.cell? ⟨gt, i, none⟩ = some (.slice p (s.ts.getD i []).length cap) ∧ StRow w F (.slice p (s.ts.getD i []).length cap) (s.ts.getD i []) := by
  obtain ⟨pt, capt, rfl, -, -, hp⟩ := owns_form h.ts
  refine ⟨pt, capt, rfl, fun i hi => ?_⟩
  rcases hp with hp | ⟨gt, rfl, h1, h2⟩
  · omega
  · obtain ⟨p, cap, e, -⟩ := h.rows i hi
    have hr := h.rows i hi
    rw [e] at hr
    refine ⟨gt, p, cap, rfl, h1, h2, ?_, hr⟩
    have hc := h.ts.cellAt i (by omega)
    have hl : vals.length = s.ts.length := by have := h.ts.1; omega
    rw [hc, ← e, List.getD_eq_getElem?_getD]
    rw [List.getElem?_eq_getElem (by omega)]
    rfl

def leftB (ts : List (List St)) : Bool := ts.any fun t => decide (0 < t.length)
theorem leftB_no {ts : List (List St)} (h : ∀ i, i < ts.length → (ts.getD i []).length = 0) : leftB ts = false := by
  unfold leftB
  rw [List.any_eq_false]
  intro t ht
  obtain ⟨i, hi, rfl⟩ := List.getElem_of_mem ht
  have := h i hi
  rw [List.getD_eq_getElem?_getD, List.getElem?_eq_getElem hi] at this
  have : ts[i].length = 0 := this
  simp [this]
theorem leftB_yes {ts : List (List St)} {i : Nat} (hi : i < ts.length) (h : 0 < (ts.getD i []).length) : leftB ts = true := by
  unfold leftB
  rw [List.any_eq_true]
  refine ⟨ts[i], List.getElem_mem hi, ?_⟩
  rw [List.getD_eq_getElem?_getD, List.getElem?_eq_getElem hi] at h
  simpa using h

theorem some_any (p : Option Addr) (n cap : Nat) (w : World) (hn : n ≤ 20000) :
    Calls Try.prog 40 #[.slice p n cap] w fun r w' => r = .returned (.bool (decide (0 < (n : Int)))) ∧ w = w' := by
  go_enter Try.func40, Try.ntmps40
  go_wp2
  go_ret
  exact ⟨by simp, rfl⟩

theorem total_le : ∀ (ts : List (List St)) (i : Nat), (ts.getD i []).length ≤ total ts
  | [], i => by simp
  | t :: r, 0 => by show t.length ≤ t.length + total r; omega
  | t :: r, i + 1 => by
    have := total_le r i
    show (r.getD i []).length ≤ t.length + total r
    omega

def IdxPost (s : Sc) (w : World) (r : Ending) (w' : World) : Prop := ∃ z : Int, r = .returned (.int .i64 z) ∧ decide (0 ≤ z) = leftB s.ts ∧ w = w'
set_option maxHeartbeats 800000 in
theorem idx_any (b : Nat) (F : Nat → Prop) (s : Sc) (tv sv : Value) (vals : List Value) (bl bc nl nc : Nat) (w : World) (h : SchAt w b F s tv sv vals bl bc nl nc) :
    Calls Try.prog 42 #[tv, .func (.func 40) #[] #[]] w (IdxPost s w) := by
  obtain ⟨pt, capt, rfl, hrow⟩ := h.open_
  have hw := h.fits.wide
  have hf := h.fits.few
  have hpn := h.fits.pend
  have HR := Lib.hid hrow
  have HLn : ∀ i, (s.ts.getD i []).length ≤ 20000 := fun i => by have := total_le s.ts i; omega
  have HL := Lib.hid HLn
  have HY := Lib.hid (fun i hi h => leftB_yes (ts := s.ts) (i := i) hi h)
  have HNo := Lib.hid (fun h => leftB_no (ts := s.ts) h)
  clear h hrow hf hpn HLn
  go_enter Try.func42, Try.ntmps42
  go_wp2
  go_loop [8] (fun i => ∃ k : Nat, k ≤ s.ts.length ∧ i = .int .i64 k ∧ Hid (∀ j, j < k → (s.ts.getD j []).length = 0)) (fun i => s.ts.length - (intOf i).toNat)
  case atStart => exact ⟨0, by omega, rfl, Lib.hid fun j hj => by omega⟩
  case round =>
    obtain ⟨k, hk, rfl, hA⟩ := hrel
    by_cases hlt : k < s.ts.length
    · obtain ⟨gt, p, cap, rfl, -, -, hc, -⟩ := HR.out k hlt
      have hl := HL.out k
      have HYk := Lib.hid (HY.out k hlt)
      have HA2 := Lib.hid (fun (h0 : (s.ts.getD k []).length = 0) => show ∀ j, j < k + 1 → (s.ts.getD j []).length = 0 from fun j hj => by
        by_cases e : j = k
        · rw [e, h0]
        · exact hA.out j (by omega))
      generalize (s.ts.getD k []).length = m at *
      by_cases hm : 0 < m
      · have k1 : decide (0 < (m : Int)) = true := decide_eq_true (by omega)
        have HE := Lib.hid (HYk.out hm)
        clear HY HYk HNo HA2
        go_wp2_with (first | (go_at_call 40; refine (some_any _ m _ _ hl).mono ?_; rintro r w1 ⟨rfl, rfl⟩))
        go_ret
        exact ⟨k, rfl, by rw [HE.out]; simp, rfl⟩
      · obtain rfl : m = 0 := by omega
        have HE := Lib.hid (HA2.out rfl)
        clear HY HYk HNo HA2 hA
        go_wp2_with (first | (go_at_call 40; refine (some_any _ 0 _ _ hl).mono ?_; rintro r w1 ⟨rfl, rfl⟩))
        go_round
        case rel => exact ⟨k + 1, by omega, by go_num, HE⟩
        case measure => simp [intOf]; omega
    · obtain rfl : k = s.ts.length := by omega
      have HE := Lib.hid (HNo.out hA.out)
      go_wp2
      go_ret
      exact ⟨-1, rfl, by rw [HE.out]; rfl, rfl⟩

theorem has_any (b : Nat) (F : Nat → Prop) (s : Sc) (tv sv : Value) (vals : List Value) (bl bc nl nc : Nat) (w : World) (h : SchAt w b F s tv sv vals bl bc nl nc) :
    Calls Try.prog 39 #[tv, .func (.func 40) #[] #[]] w fun r w' => r = .returned (.bool (leftB s.ts)) ∧ w = w' := by
  have HI := Lib.hid (idx_any b F s tv sv vals bl bc nl nc w h)
  clear h
  go_enter Try.func39, Try.ntmps39
  go_wp2_with (first | (go_at_call 42; refine HI.out.mono ?_; rintro r w1 ⟨z, rfl, hz, rfl⟩; have HZ := Lib.hid hz; clear hz))
  go_ret
  exact ⟨by rw [← HZ.out]; rfl, rfl⟩

theorem left_any (b : Nat) (F : Nat → Prop) (s : Sc) (w : World) (h : SchIs w b F s) :
    Calls Try.prog 29 #[.pointer (some ⟨b, 0, none⟩)] w fun r w' => r = .returned (.bool (leftB s.ts)) ∧ w = w' := by
  obtain ⟨⟨tv, sv, vals, bl, bc, nl, nc, h1⟩, h2⟩ := h
  have c0 : w.cell? ⟨b, 0, none⟩ = some tv := h1.blk.cell 0
  have HI := Lib.hid (has_any b F s tv sv vals bl bc nl nc w h1)
  clear h1 h2
  go_enter Try.func29, Try.ntmps29
  go_wp2_with (first | (go_at_call 39; refine HI.out.mono ?_; rintro r w1 ⟨rfl, rfl⟩))
  go_ret
  exact ⟨rfl, rfl⟩

end Go.Proofs.Ytfgfbmmidijgoaa
