/- The walk of the law ChunkFirst. -/
import Derived.Test.YtahabnepjjcgoaaCounts
import Derived.Test.YtahabnepjjcgoaaFindF
import Derived.Test.YtahabnepjjcgoaaZs
namespace Go.Proofs.Ytahabnepjjcgoaa
open Go.RowKit
set_option linter.unusedVariables false

theorem cnt_pos {f : Nat → Bool} {q n j : Nat} (h : q + n ≤ 512) (h1 : q ≤ j) (h2 : j < q + n) (h3 : f j = true) : cntF f q n ≠ 0 := fun e => by
  rw [cntF_nat f q n h] at e
  rw [cnt_eq_zero f n q (by omega) j h1 h2] at h3
  cases h3

/-- the first place behind so many used pages. -/
theorem find_row (x n : Nat) (hx : x ≤ 512) (h1 : 1 ≤ n) (h2 : n ≤ 512) : (x + n ≤ 512 ∧ findI (inB 0 x) n 0 = x ∧ findB (inB 0 x) n 0 = true) ∨ (512 < x + n ∧ findB (inB 0 x) n 0 = false) := by
  have clear : x + n ≤ 512 → cntF (inB 0 x) x n = 0 := fun h => by
    rw [cntF_nat _ x n h, cnt_zero n x (fun j h3 h4 => by unfold inB; simp; omega)]; rfl
  rcases find_form (inB 0 x) n 0 h1 h2 (by omega) with ⟨p, e1, e2, e3, e4, e5, e6⟩ | ⟨e1, e2, e3⟩
  · left
    have hp : x ≤ p := by
      by_cases h : x ≤ p
      · exact h
      · exact absurd e5 (cnt_pos (j := p) e4 (Nat.le_refl _) (by omega) (by unfold inB; simp; omega))
    have hp2 : p = x := by
      by_cases h : x < p
      · exact absurd (clear (by omega)) (e6 x (by omega) h)
      · omega
    subst hp2
    exact ⟨e4, e1, e2⟩
  · right
    refine ⟨?_, e2⟩
    by_cases h : 512 < x + n
    · exact h
    · exact absurd (clear (by omega)) (e3 x (by omega) (by omega))

theorem find_behind (x y : Nat) (h : x ≤ y) (hy : y ≤ 512) : findB (inB 0 y) 1 x = false ∨ (findB (inB 0 y) 1 x = true ∧ (y : Int) ≤ findI (inB 0 y) 1 x) := by
  rcases find_form (inB 0 y) 1 x (by omega) (by omega) (by omega) with ⟨p, e1, e2, e3, e4, e5, e6⟩ | ⟨e1, e2, e3⟩
  · right
    refine ⟨e2, ?_⟩
    have e1' : findI (inB 0 y) 1 x = p := e1
    rw [e1']
    by_cases h : y ≤ p
    · omega
    · exact absurd e5 (cnt_pos (j := p) e4 (Nat.le_refl _) (by omega) (by unfold inB; simp; omega))
  · exact .inl e2

theorem set_more (x n : Nat) : setB (inB 0 x) x n = inB 0 (x + n) := by
  funext j; unfold setB inB; rw [Bool.eq_iff_iff]; simp; omega
theorem clr_more (x n : Nat) : clrB (notB (inB 0 x)) x n = notB (inB 0 (x + n)) := by
  funext j; unfold clrB notB inB; rw [Bool.eq_iff_iff]; simp; omega

set_option maxRecDepth 100000 in
set_option maxHeartbeats 2000000 in
theorem cfirst_any (p : Option Addr) (zs : List Int) (cap : Nat) (W : World) (hz : ZsAt W .i64 p zs) (hl : zs.length ≤ 100) :
    Calls Try.prog 3 #[.slice p zs.length cap] W fun r w' => r = .returned (.bool true) ∧ Ext W w' := by
  have HZ := Lib.hid hz
  clear hz
  go_enter Try.func3, Try.ntmps3
  go_wp2_with fail
  refine (chunk_new W).mono ?_
  rintro r w1 ⟨rfl, hc, hx⟩
  have HC := Lib.hid (show ChunkAt w1 W.heap.size (inB 0 0) (notB (inB 0 0)) from hc.congr (fun j _ => by unfold noB inB; simp) (fun j _ => by unfold allB notB inB; simp))
  have HX := Lib.hid hx
  clear hc hx
  go_wp2_with fail
  go_loopw [4, 5] (fun vx vi wr => ∃ i x : Nat, i ≤ zs.length ∧ x ≤ 512 ∧ vi = .int .i64 i ∧ vx = .int .i64 x ∧ Hid (ChunkAt wr W.heap.size (inB 0 x) (notB (inB 0 x))) ∧ Hid (Ext W wr)) (fun _ vi _ => zs.length - (intOf vi).toNat)
  case atStart => exact ⟨0, 0, Nat.zero_le _, by omega, rfl, rfl, HC, HX⟩
  case round =>
    obtain ⟨i, x, hi, hx5, rfl, rfl, hC, hX⟩ := hrel
    clear HC HX
    by_cases hlt : i < zs.length
    · obtain ⟨b, off, rfl, hb, hcell⟩ := HZ.out.get hlt hX.out
      generalize zs.getD i 0 = n at *
      by_cases hn1 : n < 1
      · go_wp2
        go_ret
        exact ⟨rfl, hX.out⟩
      by_cases hn2 : 100 < n
      · go_wp2
        go_ret
        exact ⟨rfl, hX.out⟩
      have k1 : decide (n < 1) = false := decide_eq_false hn1
      have k2 : decide (100 < n) = false := decide_eq_false hn2
      obtain ⟨m, rfl⟩ : ∃ m : Nat, n = m := ⟨n.toNat, by omega⟩
      have HF := Lib.hid (cfind_any W.heap.size _ _ m 0 wr hC.out (by omega))
      rcases find_row x m hx5 (by omega) (by omega) with ⟨hxm, e1, e2⟩ | ⟨hxm, e2⟩
      · rw [e1, e2] at HF
        have e3 : lookE (inB 0 x) x m 0 32 = 0 := by
          rw [look_is hxm (by omega), cnt_zero m x (fun j h3 h4 => by unfold inB; simp; omega)]; rfl
        have e4 : cntF (notB (inB 0 x)) x m = m := by
          rw [cntF_is hxm, cnt_all m x (fun j h3 h4 => by unfold notB inB; simp; omega)]
        have HT := Lib.hid (take_any W.heap.size _ _ x m wr hC.out)
        rw [e3, e4, setF_is hxm, clrF_is hxm, set_more, clr_more] at HT
        simp only [if_true] at HT
        have HB := Lib.hid (find_behind x (x + m) (by omega) (by omega))
        have hmm : ((m : Int) != (m : Int)) = false := by simp
        have hxx : ((x : Int) != (x : Int)) = false := by simp
        clear e1 e2 e3 e4
        go_wp2_with fail
        refine HF.out.mono ?_
        rintro r w2 ⟨rfl, rfl⟩
        go_wp2_with fail
        refine HT.out.mono ?_
        rintro r w3 ⟨rfl, hc, hx⟩
        have HC3 := Lib.hid hc
        have HX3 := Lib.hid (hx.ext hX.out (fun i hi => by rw [hi]; exact Nat.le_refl _))
        clear hc hx
        go_wp2_with fail
        refine (cfind_any W.heap.size _ _ 1 x _ HC3.out (by omega)).mono ?_
        rcases HB.out with e | ⟨e, hle⟩
        · rw [e]
          rintro r w4 ⟨rfl, rfl⟩
          go_wp2_with fail
          go_roundw
          case rel => exact ⟨i + 1, x + m, hlt, hxm, by go_num, by go_num, HC3, HX3⟩
          case measure => simp [intOf]; omega
        · rw [e]
          rintro r w4 ⟨rfl, rfl⟩
          have hle2 : ¬ findI (inB 0 (x + m)) 1 x < (x : Int) + m := by omega
          clear hle
          go_wp2_with fail
          go_roundw
          case rel => exact ⟨i + 1, x + m, hlt, hxm, by go_num, by go_num, HC3, HX3⟩
          case measure => simp [intOf]; omega
      · rw [e2] at HF
        have k3 : decide ((x : Int) + m ≤ 512) = false := decide_eq_false (by omega)
        clear e2
        go_wp2_with fail
        refine HF.out.mono ?_
        rintro r w2 ⟨rfl, rfl⟩
        go_wp2_with fail
        go_roundw
        case rel => exact ⟨i + 1, x, hlt, hx5, by go_num, rfl, hC, hX⟩
        case measure => simp [intOf]; omega
    · have HFr := Lib.hid (free_any W.heap.size _ _ wr hC.out)
      rw [cnt5_is, cnt_inB 0 x (by omega)] at HFr
      have hb : ∀ z : Int, (z == z) = true := fun z => by simp
      have hb2 := hb (512 - (x : Int))
      clear hb
      go_wp2_with fail
      refine HFr.out.mono ?_
      rintro r w2 ⟨rfl, hx⟩
      have HX2 := Lib.hid (hX.out.trans hx)
      clear hx
      go_wp2_with fail
      refine (awake_any _).mono ?_
      rintro r w3 ⟨rfl, hx⟩
      go_wp2_with fail
      go_ret
      exact ⟨rfl, HX2.out.trans hx⟩

theorem walk_ChunkFirst {W : World} (v : Value) (zs : List Int) (hl : ZsIn W .i64 v zs) :
    Calls Try.prog 3 #[v] W fun r w' => r = .returned (.bool true) ∧ Ext W w' := by
  obtain ⟨p, cap, rfl, hz, hm⟩ := hl.open_
  by_cases h : zs.length ≤ 100
  · exact cfirst_any p zs cap W hz h
  · have k : decide (100 < (zs.length : Int)) = true := decide_eq_true (by omega)
    go_enter Try.func3, Try.ntmps3
    go_wp2
    go_ret
    exact ⟨rfl, Ext.refl _⟩

end Go.Proofs.Ytahabnepjjcgoaa
