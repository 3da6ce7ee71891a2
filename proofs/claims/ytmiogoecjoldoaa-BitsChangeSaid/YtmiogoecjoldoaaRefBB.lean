/- The reference's rows of truths: Find, Last. -/
import Derived.Test.YtmiogoecjoldoaaRefBA
namespace Go.Proofs.Ytmiogoecjoldoaa
open Go.RowKit
set_option linter.unusedVariables false

theorem rfind_no (b o : Nat) (n frm : Int) (f : Nat → Bool) (w : World) (h : n < 1 ∨ 512 < n) :
    Calls Try.prog 12 #[.pointer (some ⟨b, o, none⟩), .int .i64 n, .int .i64 frm] w fun r w' => r = .returned (.tuple #[.int .i64 (findI f n frm), .bool (findB f n frm)]) ∧ w = w' := by
  have HI := Lib.hid (show findI f n frm = 0 by unfold findI findO; rw [if_pos h]; rfl)
  have HB := Lib.hid (show findB f n frm = false by unfold findB findO; rw [if_pos h]; rfl)
  rcases h with h | h
  all_goals
    go_enter Try.func12, Try.ntmps12
    go_wp2
    go_ret2
    exact ⟨by rw [HI.out, HB.out]; rfl, rfl⟩

set_option maxRecDepth 20000 in
set_option maxHeartbeats 1000000 in
theorem rfind_yes (b o : Nat) (n : Nat) (frm : Int) (f : Nat → Bool) (w : World) (h : TrueAt w b o f) (h1 : 1 ≤ n) (h2 : n ≤ 512) (hfr : frm ≤ 9223372036854775807) :
    Calls Try.prog 12 #[.pointer (some ⟨b, o, none⟩), .int .i64 n, .int .i64 frm] w fun r w' => r = .returned (.tuple #[.int .i64 (findI f n frm), .bool (findB f n frm)]) ∧ w = w' := by
  have HH := Lib.hid h
  clear h
  have HO := Lib.hid (show findO f n frm = findG f n (512 - frm.toNat) frm.toNat 0 by unfold findO; rw [if_neg (by omega)]; rfl)
  have HI := Lib.hid (show findI f n frm = ((findO f n frm).getD 0 : Nat) from rfl)
  have HB := Lib.hid (show findB f n frm = (findO f n frm).isSome from rfl)
  have HF := Lib.hid hfr
  clear hfr
  have hfr2 : frm < 0 ∨ 0 ≤ frm := by omega
  rcases hfr2 with hle | hgt
  all_goals
    go_enter Try.func12, Try.ntmps12
    go_wp2
    go_loop [8, 9] (fun vr vi => ∃ i run : Nat, vi = .int .i64 i ∧ vr = .int .i64 run ∧ run < n ∧ run ≤ i ∧ i ≤ 9223372036854775807 ∧ Hid (findO f n frm = findG f n (512 - i) i run)) (fun _ vi => 512 - (intOf vi).toNat)
    case atStart =>
      refine ⟨frm.toNat, 0, ?_, rfl, by omega, Nat.zero_le _, by have := HF.out; omega, HO⟩
      first
        | exact congrArg (Value.int IntKind.i64) (by omega)
    case round =>
      obtain ⟨i, run, rfl, rfl, hrn, hri, him, hG⟩ := hrel
      clear HO
      by_cases hlt : i < 512
      · have hc := HH.out.cell i hlt
        have hlt2 : (i : Int) < 512 := by omega
        have hG2 := hG.out
        rw [show 512 - i = (512 - (i + 1)) + 1 by omega] at hG2
        cases hf : f i
        · rw [hf] at hc
          by_cases he : run + 1 = n
          · rw [findG_end f n _ i run hf he] at hG2
            have H1 := Lib.hid (show findI f n frm = (i : Int) - n + 1 by rw [HI.out, hG2]; show ((i + 1 - n : Nat) : Int) = _; omega)
            have H2 := Lib.hid (show findB f n frm = true by rw [HB.out, hG2]; rfl)
            have heb : ((run : Int) + 1 == (n : Int)) = true := by simp; omega
            clear hG hG2 hf he
            go_wp2
            go_ret2
            exact ⟨by rw [H1.out, H2.out]; rfl, rfl⟩
          · rw [findG_on f n _ i run hf he] at hG2
            have HN := Lib.hid hG2
            have heb : ((run : Int) + 1 == (n : Int)) = false := by simp; omega
            have hrn2 : run + 1 < n := by omega
            clear hG hG2 hf he
            go_wp2
            go_round
            case rel => exact ⟨i + 1, run + 1, by go_num, by go_num, hrn2, by omega, by omega, HN⟩
            case measure => simp [intOf]; omega
        · rw [hf] at hc
          rw [findG_hit f n _ i run hf] at hG2
          have HN := Lib.hid hG2
          clear hG hG2 hf
          go_wp2
          go_round
          case rel => exact ⟨i + 1, 0, by go_num, rfl, by omega, by omega, by omega, HN⟩
          case measure => simp [intOf]; omega
      · have hge : ¬ (i : Int) < 512 := by omega
        have hG2 := hG.out
        rw [show 512 - i = 0 by omega] at hG2
        have H1 := Lib.hid (show findI f n frm = 0 by rw [HI.out, hG2]; rfl)
        have H2 := Lib.hid (show findB f n frm = false by rw [HB.out, hG2]; rfl)
        clear hG hG2
        go_wp2
        go_ret2
        exact ⟨by rw [H1.out, H2.out]; rfl, rfl⟩

theorem rfind_any (b o : Nat) (n frm : Int) (f : Nat → Bool) (w : World) (h : TrueAt w b o f) (hfr : frm ≤ 9223372036854775807) :
    Calls Try.prog 12 #[.pointer (some ⟨b, o, none⟩), .int .i64 n, .int .i64 frm] w fun r w' => r = .returned (.tuple #[.int .i64 (findI f n frm), .bool (findB f n frm)]) ∧ w = w' := by
  by_cases h1 : n < 1 ∨ 512 < n
  · exact rfind_no b o n frm f w h1
  · have := rfind_yes b o n.toNat frm f w h (by omega) (by omega) hfr
    rwa [show ((n.toNat : Nat) : Int) = n by omega] at this

/-! ### Last -/
theorem rlast_no (b o : Nat) (n to : Int) (f : Nat → Bool) (w : World) (h : n < 1 ∨ to < 1) :
    Calls Try.prog 14 #[.pointer (some ⟨b, o, none⟩), .int .i64 n, .int .i64 to] w fun r w' => r = .returned (.tuple #[.int .i64 (lastI f n to : Nat), .int .i64 (lastN f n to : Nat)]) ∧ w = w' := by
  have hn : lastN f n to = 0 := by
    unfold lastN
    split
    · rfl
    · have : lastT to = 0 := by unfold lastT; rw [if_pos (by omega)]; omega
      rw [this]
      show runz f 0 _ = 0
      rfl
  have HN := Lib.hid hn
  have HI := Lib.hid (show lastI f n to = 0 by unfold lastI; rw [if_pos hn])
  clear hn
  by_cases ht : to < 1
  · have k1 : decide (512 < to) = false := decide_eq_false (by omega)
    have k2 : decide (to < 1) = true := decide_eq_true ht
    clear h ht
    go_enter Try.func14, Try.ntmps14
    go_wp2
    go_ret2
    exact ⟨by rw [HI.out, HN.out]; rfl, rfl⟩
  · have k3 : decide (n < 1) = true := decide_eq_true (by omega)
    clear h
    by_cases h5 : 512 < to
    · have k1 : decide (512 < to) = true := decide_eq_true h5
      go_enter Try.func14, Try.ntmps14
      go_wp2
      go_ret2
      exact ⟨by rw [HI.out, HN.out]; rfl, rfl⟩
    · have k1 : decide (512 < to) = false := decide_eq_false h5
      have k2 : decide (to < 1) = false := decide_eq_false ht
      go_enter Try.func14, Try.ntmps14
      go_wp2
      go_ret2
      exact ⟨by rw [HI.out, HN.out]; rfl, rfl⟩

/-- what Last comes to, by the places at which its loops end. -/
theorem last_end {f : Nat → Bool} {n : Nat} {to : Int} {t1 i r : Nat} (h1 : 1 ≤ n) (ht : topz f (lastT to) = t1 + 1) (hr : 1 ≤ r) (hi : i + r = t1 + 1) (h : runz f (t1 + 1) n = runz f i (n - r) + r) (he : i = 0 ∨ r = n ∨ f (i - 1) = true) : lastN f n to = r ∧ lastI f n to = i := by
  have hz : runz f i (n - r) = 0 := by
    rcases he with rfl | rfl | he
    · rfl
    · rw [Nat.sub_self]; exact runz_none f i
    · cases i with
      | zero => rfl
      | succ j => exact runz_hit f j _ he
  have hN : lastN f n to = r := by
    unfold lastN
    rw [if_neg (by omega), Int.toNat_natCast, ht, h, hz, Nat.zero_add]
  refine ⟨hN, ?_⟩
  unfold lastI
  rw [hN, if_neg (by omega), ht]
  omega

set_option maxRecDepth 20000 in
set_option maxHeartbeats 2000000 in
theorem rlast_yes (b o : Nat) (n : Nat) (to : Int) (f : Nat → Bool) (w : World) (h : TrueAt w b o f) (h1 : 1 ≤ n) (hn : n ≤ 9223372036854775807) (hto : 1 ≤ to) :
    Calls Try.prog 14 #[.pointer (some ⟨b, o, none⟩), .int .i64 n, .int .i64 to] w fun r w' => r = .returned (.tuple #[.int .i64 (lastI f n to : Nat), .int .i64 (lastN f n to : Nat)]) ∧ w = w' := by
  have HH := Lib.hid h
  clear h
  have k3 : decide ((n : Int) < 1) = false := decide_eq_false (by omega)
  have HN := Lib.hid hn
  have HE := Lib.hid (fun t1 i r => @last_end f n to t1 i r h1)
  have hT : ∃ T : Nat, lastT to = T ∧ 1 ≤ T ∧ T ≤ 512 ∧ ((512 < to ∧ T = 512) ∨ (¬ 512 < to ∧ to = T)) := by
    refine ⟨lastT to, rfl, ?_⟩
    unfold lastT
    split <;> omega
  obtain ⟨T, hT1, hT2, hT3, hT4⟩ := hT
  have HZ := Lib.hid (show lastN f n to = runz f (topz f T) n by unfold lastN; rw [if_neg (by omega), hT1]; rfl)
  rw [hT1] at HE
  have HI0 := Lib.hid (show lastN f n to = 0 → lastI f n to = 0 by intro e; unfold lastI; rw [if_pos e])
  clear hT1 hn
  generalize lastI f n to = LI at *
  generalize lastN f n to = LN at *
  rcases hT4 with ⟨hb, rfl⟩ | ⟨hb, rfl⟩
  · have k1 : decide (512 < to) = true := decide_eq_true hb
    clear hb hto
    go_enter Try.func14, Try.ntmps14
    go_wp2
    go_loop [8] (fun ve => ∃ t : Nat, ve = .int .i64 ((t : Int) - 1) ∧ t ≤ 512 ∧ Hid (topz f 512 = topz f t)) (fun ve => (intOf ve + 1).toNat)
    case atStart => exact ⟨512, rfl, by omega, Lib.hid rfl⟩
    case round =>
      obtain ⟨t, rfl, ht, hG⟩ := hrel
      cases t with
      | zero =>
        have e1 : LN = 0 := by rw [HZ.out, hG.out]; rfl
        have e2 : LI = 0 := by
          rw [HI0.out e1]
        clear hG HE HZ HI0 HH
        subst e1 e2
        go_wp2
        go_ret2
        exact ⟨rfl, rfl⟩
      | succ t1 =>
        have hc := HH.out.cell t1 (by omega)
        have ht2 : (t1 : Int) < 512 := by omega
        rw [show (((t1 + 1 : Nat) : Int) - 1) = (t1 : Int) by omega]
        cases hf : f t1
        · have HT := Lib.hid (hG.out.trans (topz_miss f t1 hf))
          have start := Lib.hid (show runz f (t1 + 1) n = runz f t1 (n - 1) + 1 by rw [show n = (n - 1) + 1 by omega, runz_on f t1 _ hf]; rfl)
          rw [hf] at hc
          clear hG hf HZ HI0
          go_wp2
          go_loop [9] (fun vi => ∃ i r : Nat, vi = .int .i64 i ∧ i + r = t1 + 1 ∧ 1 ≤ r ∧ r ≤ n ∧ Hid (runz f (t1 + 1) n = runz f i (n - r) + r)) (fun vi => (intOf vi).toNat)
          case atStart => exact ⟨t1, 1, rfl, by omega, by omega, by omega, start⟩
          case round =>
            obtain ⟨i, r, rfl, hir, hr1, hrn, hR⟩ := hrel
            clear start
            have hE := Lib.hid (HE.out t1 i r HT.out hr1 hir hR.out)
            clear HE
            cases i with
            | zero =>
              obtain ⟨e1, e2⟩ := hE.out (.inl rfl)
              clear hE hR HT
              obtain rfl : r = t1 + 1 := by omega
              subst e1 e2
              go_wp2
              go_ret2
              exact ⟨by go_num, rfl⟩
            | succ j =>
              have hcj := HH.out.cell j (by omega)
              have hj5 : (j : Int) < 512 := by omega
              cases hfj : f j
              · rw [hfj] at hcj
                by_cases hrl : r < n
                · have HR2 := Lib.hid (show runz f (t1 + 1) n = runz f j (n - (r + 1)) + (r + 1) by
                    rw [hR.out, show n - r = (n - (r + 1)) + 1 by omega, runz_on f j _ hfj]; omega)
                  have hlt : (t1 : Int) - (j + 1) + 1 < n := by omega
                  clear hR hE hfj
                  go_wp2
                  go_round
                  case rel => exact ⟨j, r + 1, by go_num, by omega, by omega, by omega, HR2⟩
                  case measure => simp [intOf]
                · obtain ⟨e1, e2⟩ := hE.out (.inr (.inl (by omega)))
                  have hge : ¬ (t1 : Int) - (j + 1) + 1 < n := by omega
                  have e3 : (r : Int) = t1 - (j + 1) + 1 := by omega
                  have E := Lib.hid (show LN = r from e1)
                  have E2 := Lib.hid (show LI = j + 1 from e2)
                  have E3 := Lib.hid e3
                  clear hE hR hfj e1 e2 e3
                  go_wp2
                  go_ret2
                  exact ⟨by rw [E.out, E2.out, E3.out]; rfl, rfl⟩
              · rw [hfj] at hcj
                obtain ⟨e1, e2⟩ := hE.out (.inr (.inr (by simpa using hfj)))
                have E := Lib.hid (show LN = r from e1)
                have E2 := Lib.hid (show LI = j + 1 from e2)
                have E3 := Lib.hid (show (r : Int) = t1 - (j + 1) + 1 by omega)
                clear hE hR hfj e1 e2
                go_wp2
                go_ret2
                exact ⟨by rw [E.out, E2.out, E3.out]; rfl, rfl⟩
        · have HT := Lib.hid (hG.out.trans (topz_hit f t1 hf))
          rw [hf] at hc
          clear hG hf
          go_wp2
          go_round
          case rel => exact ⟨t1, rfl, by omega, HT⟩
          case measure => simp [intOf]
  · have k1 : decide (512 < (T : Int)) = false := decide_eq_false hb
    have k2 : decide ((T : Int) < 1) = false := decide_eq_false (by omega)
    clear hb hto
    go_enter Try.func14, Try.ntmps14
    go_wp2
    go_loop [8] (fun ve => ∃ t : Nat, ve = .int .i64 ((t : Int) - 1) ∧ t ≤ 512 ∧ Hid (topz f T = topz f t)) (fun ve => (intOf ve + 1).toNat)
    case atStart => exact ⟨T, rfl, by omega, Lib.hid rfl⟩
    case round =>
      obtain ⟨t, rfl, ht, hG⟩ := hrel
      cases t with
      | zero =>
        have e1 : LN = 0 := by rw [HZ.out, hG.out]; rfl
        have e2 : LI = 0 := by
          rw [HI0.out e1]
        clear hG HE HZ HI0 HH
        subst e1 e2
        go_wp2
        go_ret2
        exact ⟨rfl, rfl⟩
      | succ t1 =>
        have hc := HH.out.cell t1 (by omega)
        have ht2 : (t1 : Int) < 512 := by omega
        rw [show (((t1 + 1 : Nat) : Int) - 1) = (t1 : Int) by omega]
        cases hf : f t1
        · have HT := Lib.hid (hG.out.trans (topz_miss f t1 hf))
          have start := Lib.hid (show runz f (t1 + 1) n = runz f t1 (n - 1) + 1 by rw [show n = (n - 1) + 1 by omega, runz_on f t1 _ hf]; rfl)
          rw [hf] at hc
          clear hG hf HZ HI0
          go_wp2
          go_loop [9] (fun vi => ∃ i r : Nat, vi = .int .i64 i ∧ i + r = t1 + 1 ∧ 1 ≤ r ∧ r ≤ n ∧ Hid (runz f (t1 + 1) n = runz f i (n - r) + r)) (fun vi => (intOf vi).toNat)
          case atStart => exact ⟨t1, 1, rfl, by omega, by omega, by omega, start⟩
          case round =>
            obtain ⟨i, r, rfl, hir, hr1, hrn, hR⟩ := hrel
            clear start
            have hE := Lib.hid (HE.out t1 i r HT.out hr1 hir hR.out)
            clear HE
            cases i with
            | zero =>
              obtain ⟨e1, e2⟩ := hE.out (.inl rfl)
              clear hE hR HT
              obtain rfl : r = t1 + 1 := by omega
              subst e1 e2
              go_wp2
              go_ret2
              exact ⟨by go_num, rfl⟩
            | succ j =>
              have hcj := HH.out.cell j (by omega)
              have hj5 : (j : Int) < 512 := by omega
              cases hfj : f j
              · rw [hfj] at hcj
                by_cases hrl : r < n
                · have HR2 := Lib.hid (show runz f (t1 + 1) n = runz f j (n - (r + 1)) + (r + 1) by
                    rw [hR.out, show n - r = (n - (r + 1)) + 1 by omega, runz_on f j _ hfj]; omega)
                  have hlt : (t1 : Int) - (j + 1) + 1 < n := by omega
                  clear hR hE hfj
                  go_wp2
                  go_round
                  case rel => exact ⟨j, r + 1, by go_num, by omega, by omega, by omega, HR2⟩
                  case measure => simp [intOf]
                · obtain ⟨e1, e2⟩ := hE.out (.inr (.inl (by omega)))
                  have hge : ¬ (t1 : Int) - (j + 1) + 1 < n := by omega
                  have e3 : (r : Int) = t1 - (j + 1) + 1 := by omega
                  have E := Lib.hid (show LN = r from e1)
                  have E2 := Lib.hid (show LI = j + 1 from e2)
                  have E3 := Lib.hid e3
                  clear hE hR hfj e1 e2 e3
                  go_wp2
                  go_ret2
                  exact ⟨by rw [E.out, E2.out, E3.out]; rfl, rfl⟩
              · rw [hfj] at hcj
                obtain ⟨e1, e2⟩ := hE.out (.inr (.inr (by simpa using hfj)))
                have E := Lib.hid (show LN = r from e1)
                have E2 := Lib.hid (show LI = j + 1 from e2)
                have E3 := Lib.hid (show (r : Int) = t1 - (j + 1) + 1 by omega)
                clear hE hR hfj e1 e2
                go_wp2
                go_ret2
                exact ⟨by rw [E.out, E2.out, E3.out]; rfl, rfl⟩
        · have HT := Lib.hid (hG.out.trans (topz_hit f t1 hf))
          rw [hf] at hc
          clear hG hf
          go_wp2
          go_round
          case rel => exact ⟨t1, rfl, by omega, HT⟩
          case measure => simp [intOf]

theorem rlast_any (b o : Nat) (n to : Int) (f : Nat → Bool) (w : World) (h : TrueAt w b o f) (hn : n ≤ 9223372036854775807) :
    Calls Try.prog 14 #[.pointer (some ⟨b, o, none⟩), .int .i64 n, .int .i64 to] w fun r w' => r = .returned (.tuple #[.int .i64 (lastI f n to : Nat), .int .i64 (lastN f n to : Nat)]) ∧ w = w' := by
  by_cases h1 : n < 1 ∨ to < 1
  · exact rlast_no b o n to f w h1
  · have := rlast_yes b o n.toNat to f w h (by omega) (by omega) (by omega)
    rwa [show ((n.toNat : Nat) : Int) = n by omega] at this

end Go.Proofs.Ytmiogoecjoldoaa
