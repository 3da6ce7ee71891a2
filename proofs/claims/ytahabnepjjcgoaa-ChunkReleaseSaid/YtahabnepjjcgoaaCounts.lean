/- The walk of the law ChunkCounts. -/
import Derived.Test.YtahabnepjjcgoaaAwake
namespace Go.Proofs.Ytahabnepjjcgoaa
open Go.RowKit
set_option linter.unusedVariables false

theorem cnt_not (f : Nat → Bool) : ∀ (n i : Nat), cnt (fun j => !f j) i n + cnt f i n = n
  | 0, _ => rfl
  | n + 1, i => by
    have ih := cnt_not f n (i + 1)
    show ((!f i).toNat + cnt (fun j => !f j) (i + 1) n) + ((f i).toNat + cnt f (i + 1) n) = n + 1
    cases f i <;> simp <;> omega
theorem cnt_inB (i n : Nat) (h : i + n ≤ 512) : cnt (inB i n) 0 512 = n := by
  obtain ⟨r, hr⟩ : ∃ r, i + (n + r) = 512 := ⟨512 - (i + n), by omega⟩
  have e := cnt_add (inB i n) i 0 (n + r)
  rw [cnt_add _ n (0 + i) r, hr] at e
  rw [e, cnt_zero i 0 (fun j h1 h2 => by unfold inB; simp; omega), cnt_all n (0 + i) (fun j h1 h2 => by unfold inB; simp; omega), cnt_zero r (0 + i + n) (fun j h1 h2 => by unfold inB; simp; omega)]
  omega

def notB (f : Nat → Bool) : Nat → Bool := fun j => !f j

theorem right_nat {i n : Nat} (h : i + n ≤ 512) : rightB (i : Int) (n : Int) = true := by unfold rightB; simp; omega
theorem pages_nat {i n : Nat} (h : i + n ≤ 512) (hn : 1 ≤ n) : pagesB (i : Int) (n : Int) = true := by unfold pagesB; simp; omega
theorem cntF_is {f : Nat → Bool} {i n : Nat} (h : i + n ≤ 512) : cntF f (i : Int) (n : Int) = (cnt f i n : Nat) := by
  unfold cntF; rw [if_pos (right_nat h)]; rfl
theorem look_is {u : Nat → Bool} {i n : Nat} {used e : Int} (h : i + n ≤ 512) (hn : 1 ≤ n) : lookE u (i : Int) (n : Int) used e = if ((cnt u i n : Nat) : Int) = used then 0 else e := by
  unfold lookE; rw [if_pos (pages_nat h hn), cntF_is h]
theorem cnt5_is (f : Nat → Bool) : cnt5 f = (cnt f 0 512 : Nat) := cntF_is (i := 0) (n := 512) (by omega)
theorem setF_is {f : Nat → Bool} {i n : Nat} (h : i + n ≤ 512) : setF f (i : Int) (n : Int) = setB f i n := by unfold setF; rw [if_pos (right_nat h)]; rfl
theorem clrF_is {f : Nat → Bool} {i n : Nat} (h : i + n ≤ 512) : clrF f (i : Int) (n : Int) = clrB f i n := by unfold clrF; rw [if_pos (right_nat h)]; rfl

theorem set_no (i n : Nat) : setB noB i n = inB i n := by funext j; unfold setB noB; simp
theorem clr_all (i n : Nat) : clrB allB i n = notB (inB i n) := by funext j; unfold clrB allB notB; simp
theorem cnt_noB (i n : Nat) : cnt noB i n = 0 := cnt_zero n i (fun _ _ _ => rfl)
theorem cnt_allB (i n : Nat) : cnt allB i n = n := cnt_all n i (fun _ _ _ => rfl)

theorem clr_head (i n k : Nat) (h : k ≤ n) : clrB (inB i n) i k = inB (i + k) (n - k) := by
  funext j; unfold clrB inB; rw [Bool.eq_iff_iff]; simp; omega
theorem clr_self (i n : Nat) : clrB (inB i n) i n = noB := by
  funext j; unfold clrB noB; cases inB i n j <;> rfl
theorem set_tail (i n k : Nat) (h : k ≤ n) : setB (notB (inB i n)) (i + k) (n - k) = notB (inB i k) := by
  funext j; unfold setB notB inB; rw [Bool.eq_iff_iff]; simp; omega

set_option maxRecDepth 20000 in
set_option maxHeartbeats 2000000 in
theorem counts_any (i n k : Nat) (w : World) (h1 : 1 ≤ n) (h2 : n ≤ 512) (h3 : i + n ≤ 512) (h4 : k ≤ n) :
    Calls Try.prog 5 #[.int .i64 i, .int .i64 n, .int .i64 k] w fun r w' => r = .returned (.bool true) ∧ Ext w w' := by
  have A1 := Lib.hid (show lookE noB i n 0 32 = 0 by rw [look_is h3 h1, cnt_noB]; rfl)
  have A2 := Lib.hid (show cntF allB i n = n by rw [cntF_is h3, cnt_allB])
  have A3 := Lib.hid (show setF noB i n = inB i n by rw [setF_is h3, set_no])
  have A4 := Lib.hid (show clrF allB i n = notB (inB i n) by rw [clrF_is h3, clr_all])
  have A5 := Lib.hid (show cnt5 (inB i n) = n by rw [cnt5_is, cnt_inB i n h3])
  have A6 := Lib.hid (show cnt5 (notB (inB i n)) = 512 - n by
    rw [cnt5_is]
    have := cnt_not (inB i n) 512 0
    rw [cnt_inB i n h3] at this
    have e : cnt (notB (inB i n)) 0 512 = cnt (fun j => !inB i n j) 0 512 := rfl
    omega)
  have A7 := Lib.hid (show lookE (inB i n) ((i : Int) + n - 1) 1 0 32 = 32 by
    rw [show (i : Int) + n - 1 = ((i + n - 1 : Nat) : Int) by omega, show (1 : Int) = ((1 : Nat) : Int) from rfl, look_is (by omega) (by omega), cnt_all 1 _ (fun j h5 h6 => by unfold inB; simp; omega)]
    rfl)
  have A8 := Lib.hid (show 1 ≤ k → lookE (inB i n) i k k 31 = 0 from fun hk => by
    rw [look_is (by omega) hk, cnt_all k i (fun j h5 h6 => by unfold inB; simp; omega), if_pos rfl])
  have A9 := Lib.hid (show clrF (inB i n) i k = inB (i + k) (n - k) by rw [clrF_is (by omega), clr_head i n k h4])
  have A10 := Lib.hid (show k < n → lookE (inB (i + k) (n - k)) ((i : Int) + k) ((n : Int) - k) ((n : Int) - k) 31 = 0 from fun hk => by
    rw [show (i : Int) + k = ((i + k : Nat) : Int) by omega, show (n : Int) - k = ((n - k : Nat) : Int) by omega, look_is (by omega) (by omega), cnt_all (n - k) (i + k) (fun j h5 h6 => by unfold inB; simp; omega), if_pos rfl])
  have A11 := Lib.hid (show clrF (inB (i + k) (n - k)) ((i : Int) + k) ((n : Int) - k) = noB by
    rw [show (i : Int) + k = ((i + k : Nat) : Int) by omega, show (n : Int) - k = ((n - k : Nat) : Int) by omega, clrF_is (by omega), clr_self])
  have A12 := Lib.hid (show setF (notB (inB i n)) ((i : Int) + k) ((n : Int) - k) = notB (inB i k) by
    rw [show (i : Int) + k = ((i + k : Nat) : Int) by omega, show (n : Int) - k = ((n - k : Nat) : Int) by omega, setF_is (by omega), set_tail i n k h4])
  have A13 := Lib.hid (show cnt5 noB = 0 by rw [cnt5_is, cnt_noB]; rfl)
  have A14 := Lib.hid (show cnt5 (notB (inB i k)) = 512 - k by
    rw [cnt5_is]
    have := cnt_not (inB i k) 512 0
    rw [cnt_inB i k (by omega)] at this
    have e : cnt (notB (inB i k)) 0 512 = cnt (fun j => !inB i k j) 0 512 := rfl
    omega)
  have A15 := Lib.hid (show lookE noB i 1 1 31 = 31 by
    rw [show (1 : Int) = ((1 : Nat) : Int) from rfl, look_is (by omega) (by omega), cnt_noB]; rfl)
  have A16 := Lib.hid (show lookE noB 0 512 0 32 = 0 by decide +kernel)
  have A17 := Lib.hid (show cntF (notB (inB i k)) 0 512 = 512 - k from A14.out)
  have A18 := Lib.hid (show setF noB 0 512 = inB 0 512 by
    have := setF_is (f := noB) (i := 0) (n := 512) (by omega)
    rw [set_no] at this
    exact this)
  have A19 := Lib.hid (show cnt5 (inB 0 512) = 512 by rw [cnt5_is, cnt_inB 0 512 (by omega)]; rfl)
  have A20 := Lib.hid (show sumV (inB 0 512) = .agg #[.int .i64 0, .int .i64 0, .int .i64 0] by
    unfold sumV
    rw [show startS (inB 0 512) 512 = 0 by decide +kernel, show maxS (inB 0 512) 512 = 0 by decide +kernel, show endS (inB 0 512) 512 = 0 by decide +kernel]
    rfl)
  go_enter Try.func5, Try.ntmps5
  go_wp2_with fail
  refine (chunk_new w).mono ?_
  rintro r w1 ⟨rfl, hc, hx⟩
  have HC := Lib.hid hc
  have HX := Lib.hid hx
  clear hc hx
  go_wp2_with fail
  refine (take_any w.heap.size noB allB i n _ HC.out).mono ?_
  rw [A1.out, A2.out, A3.out, A4.out]
  simp only [if_true]
  rintro r w2 ⟨rfl, hc, hx⟩
  have HC2 := Lib.hid hc
  have HX2 := Lib.hid (hx.ext HX.out (fun i hi => by rw [hi]; exact Nat.le_refl _))
  clear hc hx
  go_wp2_with fail
  refine (free_any w.heap.size _ _ _ HC2.out).mono ?_
  rw [A5.out]
  rintro r w3 ⟨rfl, hx⟩
  have HC3 := Lib.hid (HC2.out.later hx)
  have HX3 := Lib.hid (HX2.out.trans hx)
  clear hx
  go_wp2_with fail
  refine (released_any w.heap.size _ _ _ HC3.out).mono ?_
  rw [A6.out]
  rintro r w4 ⟨rfl, hx⟩
  have HC4 := Lib.hid (HC3.out.later hx)
  have HX4 := Lib.hid (HX3.out.trans hx)
  clear hx
  go_wp2_with fail
  refine (take_any w.heap.size _ _ _ 1 _ HC4.out).mono ?_
  rw [A7.out]
  rintro r w5 ⟨rfl, hc, hx⟩
  have HC5 := Lib.hid (show ChunkAt w5 w.heap.size (inB i n) (notB (inB i n)) from hc)
  have HX5 := Lib.hid (hx.ext HX4.out (fun i hi => by rw [hi]; exact Nat.le_refl _))
  clear hc hx
  have hk1 : (k : Int) ≤ 0 ∨ (0 : Int) < (k : Int) := by omega
  rcases hk1 with hk1 | hk1
  · have HC6 := Lib.hid (show ChunkAt w5 w.heap.size (inB (i + k) (n - k)) (notB (inB i n)) by rw [show k = 0 by omega]; exact HC5.out)
    have HX6 := HX5
    have hk2 : k < n := by omega
    clear HC5 HX5
    go_wp2_with fail
    refine (back_any w.heap.size _ _ _ _ _ HC6.out).mono ?_
    rw [A10.out hk2, A11.out, A12.out]
    simp only [if_true]
    rintro r w7 ⟨rfl, hc, hx⟩
    have HC7 := Lib.hid hc
    have HX7 := Lib.hid (hx.ext HX6.out (fun i hi => by rw [hi]; exact Nat.le_refl _))
    clear hc hx
    go_wp2_with fail
    refine (free_any w.heap.size _ _ _ HC7.out).mono ?_
    rw [A13.out]
    rintro r w8 ⟨rfl, hx⟩
    have HC8 := Lib.hid (HC7.out.later hx)
    have HX8 := Lib.hid (HX7.out.trans hx)
    clear hx
    go_wp2_with fail
    refine (released_any w.heap.size _ _ _ HC8.out).mono ?_
    rw [A14.out]
    rintro r w9 ⟨rfl, hx⟩
    have HC9 := Lib.hid (HC8.out.later hx)
    have HX9 := Lib.hid (HX8.out.trans hx)
    clear hx
    go_wp2_with fail
    refine (give_any w.heap.size _ _ i 1 _ HC9.out).mono ?_
    rw [A15.out]
    rintro r w10 ⟨rfl, hc, hx⟩
    have HC10 := Lib.hid (show ChunkAt w10 w.heap.size noB (notB (inB i k)) from hc)
    have HX10 := Lib.hid (hx.ext HX9.out (fun i hi => by rw [hi]; exact Nat.le_refl _))
    clear hc hx
    go_wp2_with fail
    refine (take_any w.heap.size _ _ 0 512 _ HC10.out).mono ?_
    rw [A16.out, A17.out, A18.out]
    simp only [if_true]
    rintro r w11 ⟨rfl, hc, hx⟩
    have HC11 := Lib.hid hc
    have HX11 := Lib.hid (hx.ext HX10.out (fun i hi => by rw [hi]; exact Nat.le_refl _))
    clear hc hx
    go_wp2_with fail
    refine (free_any w.heap.size _ _ _ HC11.out).mono ?_
    rw [A19.out]
    rintro r w12 ⟨rfl, hx⟩
    have HC12 := Lib.hid (HC11.out.later hx)
    have HX12 := Lib.hid (HX11.out.trans hx)
    clear hx
    go_wp2_with fail
    refine (csum_any w.heap.size _ _ _ HC12.out).mono ?_
    rw [A20.out]
    rintro r w13 ⟨rfl, hx⟩
    have HX13 := Lib.hid (HX12.out.trans hx)
    clear hx
    go_wp2_with fail
    refine (awake_any _).mono ?_
    rintro r w14 ⟨rfl, hx⟩
    have HX14 := Lib.hid (HX13.out.trans hx)
    clear hx
    go_wp2_with fail
    go_ret
    exact ⟨rfl, HX14.out⟩
  · have hk2 : n ≤ k ∨ k < n := by omega
    rcases hk2 with hk2 | hk2
    · go_wp2_with fail
      refine (give_any w.heap.size _ _ i k _ HC5.out).mono ?_
      rw [A8.out (by omega), A9.out]
      simp only [if_true]
      rintro r w6 ⟨rfl, hc, hx⟩
      have HC6 := Lib.hid hc
      have HX6 := Lib.hid (hx.ext HX5.out (fun i hi => by rw [hi]; exact Nat.le_refl _))
      clear hc hx
      have HC7 := Lib.hid (show ChunkAt w6 w.heap.size noB (notB (inB i k)) by
        have := HC6.out
        rw [show n = k by omega, Nat.sub_self] at this
        refine this.congr (fun j _ => ?_) (fun j _ => rfl)
        unfold inB noB; simp)
      have HX7 := HX6
      clear HC6 HX6
      go_wp2_with fail
      refine (free_any w.heap.size _ _ _ HC7.out).mono ?_
      rw [A13.out]
      rintro r w8 ⟨rfl, hx⟩
      have HC8 := Lib.hid (HC7.out.later hx)
      have HX8 := Lib.hid (HX7.out.trans hx)
      clear hx
      go_wp2_with fail
      refine (released_any w.heap.size _ _ _ HC8.out).mono ?_
      rw [A14.out]
      rintro r w9 ⟨rfl, hx⟩
      have HC9 := Lib.hid (HC8.out.later hx)
      have HX9 := Lib.hid (HX8.out.trans hx)
      clear hx
      go_wp2_with fail
      refine (give_any w.heap.size _ _ i 1 _ HC9.out).mono ?_
      rw [A15.out]
      rintro r w10 ⟨rfl, hc, hx⟩
      have HC10 := Lib.hid (show ChunkAt w10 w.heap.size noB (notB (inB i k)) from hc)
      have HX10 := Lib.hid (hx.ext HX9.out (fun i hi => by rw [hi]; exact Nat.le_refl _))
      clear hc hx
      go_wp2_with fail
      refine (take_any w.heap.size _ _ 0 512 _ HC10.out).mono ?_
      rw [A16.out, A17.out, A18.out]
      simp only [if_true]
      rintro r w11 ⟨rfl, hc, hx⟩
      have HC11 := Lib.hid hc
      have HX11 := Lib.hid (hx.ext HX10.out (fun i hi => by rw [hi]; exact Nat.le_refl _))
      clear hc hx
      go_wp2_with fail
      refine (free_any w.heap.size _ _ _ HC11.out).mono ?_
      rw [A19.out]
      rintro r w12 ⟨rfl, hx⟩
      have HC12 := Lib.hid (HC11.out.later hx)
      have HX12 := Lib.hid (HX11.out.trans hx)
      clear hx
      go_wp2_with fail
      refine (csum_any w.heap.size _ _ _ HC12.out).mono ?_
      rw [A20.out]
      rintro r w13 ⟨rfl, hx⟩
      have HX13 := Lib.hid (HX12.out.trans hx)
      clear hx
      go_wp2_with fail
      refine (awake_any _).mono ?_
      rintro r w14 ⟨rfl, hx⟩
      have HX14 := Lib.hid (HX13.out.trans hx)
      clear hx
      go_wp2_with fail
      go_ret
      exact ⟨rfl, HX14.out⟩
    · go_wp2_with fail
      refine (give_any w.heap.size _ _ i k _ HC5.out).mono ?_
      rw [A8.out (by omega), A9.out]
      simp only [if_true]
      rintro r w6 ⟨rfl, hc, hx⟩
      have HC6 := Lib.hid hc
      have HX6 := Lib.hid (hx.ext HX5.out (fun i hi => by rw [hi]; exact Nat.le_refl _))
      clear hc hx
      go_wp2_with fail
      refine (back_any w.heap.size _ _ _ _ _ HC6.out).mono ?_
      rw [A10.out hk2, A11.out, A12.out]
      simp only [if_true]
      rintro r w7 ⟨rfl, hc, hx⟩
      have HC7 := Lib.hid hc
      have HX7 := Lib.hid (hx.ext HX6.out (fun i hi => by rw [hi]; exact Nat.le_refl _))
      clear hc hx
      go_wp2_with fail
      refine (free_any w.heap.size _ _ _ HC7.out).mono ?_
      rw [A13.out]
      rintro r w8 ⟨rfl, hx⟩
      have HC8 := Lib.hid (HC7.out.later hx)
      have HX8 := Lib.hid (HX7.out.trans hx)
      clear hx
      go_wp2_with fail
      refine (released_any w.heap.size _ _ _ HC8.out).mono ?_
      rw [A14.out]
      rintro r w9 ⟨rfl, hx⟩
      have HC9 := Lib.hid (HC8.out.later hx)
      have HX9 := Lib.hid (HX8.out.trans hx)
      clear hx
      go_wp2_with fail
      refine (give_any w.heap.size _ _ i 1 _ HC9.out).mono ?_
      rw [A15.out]
      rintro r w10 ⟨rfl, hc, hx⟩
      have HC10 := Lib.hid (show ChunkAt w10 w.heap.size noB (notB (inB i k)) from hc)
      have HX10 := Lib.hid (hx.ext HX9.out (fun i hi => by rw [hi]; exact Nat.le_refl _))
      clear hc hx
      go_wp2_with fail
      refine (take_any w.heap.size _ _ 0 512 _ HC10.out).mono ?_
      rw [A16.out, A17.out, A18.out]
      simp only [if_true]
      rintro r w11 ⟨rfl, hc, hx⟩
      have HC11 := Lib.hid hc
      have HX11 := Lib.hid (hx.ext HX10.out (fun i hi => by rw [hi]; exact Nat.le_refl _))
      clear hc hx
      go_wp2_with fail
      refine (free_any w.heap.size _ _ _ HC11.out).mono ?_
      rw [A19.out]
      rintro r w12 ⟨rfl, hx⟩
      have HC12 := Lib.hid (HC11.out.later hx)
      have HX12 := Lib.hid (HX11.out.trans hx)
      clear hx
      go_wp2_with fail
      refine (csum_any w.heap.size _ _ _ HC12.out).mono ?_
      rw [A20.out]
      rintro r w13 ⟨rfl, hx⟩
      have HX13 := Lib.hid (HX12.out.trans hx)
      clear hx
      go_wp2_with fail
      refine (awake_any _).mono ?_
      rintro r w14 ⟨rfl, hx⟩
      have HX14 := Lib.hid (HX13.out.trans hx)
      clear hx
      go_wp2_with fail
      go_ret
      exact ⟨rfl, HX14.out⟩

theorem counts_out (i n k : Int) (w : World) (h : i < 0 ∨ n < 1 ∨ 512 < n ∨ 512 - n < i ∨ k < 0 ∨ n < k) :
    Calls Try.prog 5 #[.int .i64 i, .int .i64 n, .int .i64 k] w fun r w' => r = .returned (.bool true) ∧ Ext w w' := by
  by_cases h1 : i < 0
  · have k1 : decide (i < 0) = true := decide_eq_true h1
    clear h
    go_enter Try.func5, Try.ntmps5
    go_wp2
    go_ret
    exact ⟨rfl, Ext.refl _⟩
  have k1 : decide (i < 0) = false := decide_eq_false h1
  by_cases h2 : n < 1
  · have k2 : decide (n < 1) = true := decide_eq_true h2
    clear h
    go_enter Try.func5, Try.ntmps5
    go_wp2
    go_ret
    exact ⟨rfl, Ext.refl _⟩
  have k2 : decide (n < 1) = false := decide_eq_false h2
  by_cases h3 : 512 < n
  · have k3 : decide (512 < n) = true := decide_eq_true h3
    clear h
    go_enter Try.func5, Try.ntmps5
    go_wp2
    go_ret
    exact ⟨rfl, Ext.refl _⟩
  have k3 : decide (512 < n) = false := decide_eq_false h3
  by_cases h4 : 512 - n < i
  · have k4 : decide (512 - n < i) = true := decide_eq_true h4
    clear h
    go_enter Try.func5, Try.ntmps5
    go_wp2
    go_ret
    exact ⟨rfl, Ext.refl _⟩
  have k4 : decide (512 - n < i) = false := decide_eq_false h4
  by_cases h5 : k < 0
  · have k5 : decide (k < 0) = true := decide_eq_true h5
    clear h
    go_enter Try.func5, Try.ntmps5
    go_wp2
    go_ret
    exact ⟨rfl, Ext.refl _⟩
  have k5 : decide (k < 0) = false := decide_eq_false h5
  have k6 : decide (n < k) = true := decide_eq_true (by omega)
  clear h
  go_enter Try.func5, Try.ntmps5
  go_wp2
  go_ret
  exact ⟨rfl, Ext.refl _⟩

theorem walk_ChunkCounts {W : World} (i : Int) (wi : (Lit.int .i64 i).wf = true) (n : Int) (wn : (Lit.int .i64 n).wf = true) (k : Int) (wk : (Lit.int .i64 k).wf = true) :
    Calls Try.prog 5 #[.int .i64 i, .int .i64 n, .int .i64 k] W fun r w' => r = .returned (.bool true) ∧ Ext W w' := by
  by_cases h : i < 0 ∨ n < 1 ∨ 512 < n ∨ 512 - n < i ∨ k < 0 ∨ n < k
  · exact counts_out i n k W h
  · have := counts_any i.toNat n.toNat k.toNat W (by omega) (by omega) (by omega) (by omega)
    rwa [show ((i.toNat : Nat) : Int) = i by omega, show ((n.toNat : Nat) : Int) = n by omega, show ((k.toNat : Nat) : Int) = k by omega] at this

end Go.Proofs.Ytahabnepjjcgoaa
