/- The contract of the reference's Fits. -/
import Derived.Test.YtbfnadfbanhgcaaRefRight
import Derived.Test.YtbfnadfbanhgcaaOther
import Derived.Deep.QuietTactic
import Derived.BigQuiet
import Derived.RegionTactic
namespace Go.Proofs.Ytbfnadfbanhgcaa
open Go.RowKit
set_option linter.unusedVariables false


theorem rfits_no (v : Value) (l : List Sm) (p n : Int) (w : World) (h : SlAt w v l) (hr : rightsB l p = false) :
    Calls Try.prog 14 #[v, .int .i64 p, .int .i64 n] w fun r w' => r = .returned (.tuple #[.int .i64 0, .bool false, .int .i64 1]) ∧ Ext w w' := by
  have H := Lib.hid h
  clear h
  go_enter Try.func14, Try.ntmps14
  go_wp2_with (go_at_call 24; refine (rrights_any _ l _ _ H.out).mono ?_; rintro e w1 ⟨rfl, hg1⟩)
  go_ret3
  exact ⟨rfl, hg1⟩

theorem rfits_low (v : Value) (l : List Sm) (p n : Int) (w : World) (h : SlAt w v l) (hr : rightsB l p = true) (hn : n < 1) :
    Calls Try.prog 14 #[v, .int .i64 p, .int .i64 n] w fun r w' => r = .returned (.tuple #[.int .i64 0, .bool false, .int .i64 1]) ∧ Ext w w' := by
  have H := Lib.hid h
  clear h
  go_enter Try.func14, Try.ntmps14
  go_wp2_with (go_at_call 24; refine (rrights_any _ l _ _ H.out).mono ?_; rintro e w1 ⟨rfl, hg1⟩)
  go_ret3
  exact ⟨rfl, hg1⟩

theorem rfits_nil (p n : Int) (w : World) (hr : rightsB [] p = true) (hn : 1 ≤ n) :
    Calls Try.prog 14 #[.slice none 0 0, .int .i64 p, .int .i64 n] w fun r w' => r = .returned (.tuple #[.int .i64 0, .bool false, .int .i64 0]) ∧ Ext w w' := by
  have H : Hid (SlAt w (.slice none 0 0) []) := Lib.hid (Or.inl ⟨rfl, rfl⟩)
  go_enter Try.func14, Try.ntmps14
  go_wp2_with (go_at_call 24; refine (rrights_any _ [] _ _ H.out).mono ?_; rintro e w1 ⟨rfl, hg1⟩)
  refine wp_loop_rounds 1 ?_
  rw [rounds_succ]
  go_wp2
  go_ret3
  exact ⟨rfl, hg1⟩

theorem refRec_own {p n i : Int} {x : Sm} {r : List Sm} (h : n ≤ x.m) : refRec p n (x :: r) i = some (i * p) := by
  show (if n ≤ x.m then some (i * p) else _) = _; rw [if_pos h]
theorem refRec_none {p n i : Int} {x : Sm} {r : List Sm} (h : ¬ n ≤ x.m) (h2 : x.e = 0) : refRec p n (x :: r) i = refRec p n r (i + 1) := by
  show (if n ≤ x.m then some (i * p) else if x.e = 0 then refRec p n r (i + 1) else _) = _; rw [if_neg h, if_pos h2]
theorem refRec_hit {p n i : Int} {x : Sm} {r : List Sm} (h : ¬ n ≤ x.m) (h2 : ¬ x.e = 0) (h3 : n ≤ x.e + tailRun p r) : refRec p n (x :: r) i = some (i * p + p - x.e) := by
  show (if n ≤ x.m then some (i * p) else if x.e = 0 then refRec p n r (i + 1) else if n ≤ x.e + tailRun p r then _ else _) = _; rw [if_neg h, if_neg h2, if_pos h3]
theorem refRec_on {p n i : Int} {x : Sm} {r : List Sm} (h : ¬ n ≤ x.m) (h2 : ¬ x.e = 0) (h3 : ¬ n ≤ x.e + tailRun p r) : refRec p n (x :: r) i = refRec p n r (i + 1) := by
  show (if n ≤ x.m then some (i * p) else if x.e = 0 then refRec p n r (i + 1) else if n ≤ x.e + tailRun p r then _ else _) = _; rw [if_neg h, if_neg h2, if_neg h3]
theorem tail_break {p : Int} {x : Sm} {r : List Sm} (h : x.s < p) : tailRun p (x :: r) = x.s := by
  show (if x.s < p then x.s else _) = _; rw [if_pos h]
theorem tail_on {p : Int} {x : Sm} {r : List Sm} (h : ¬ x.s < p) : tailRun p (x :: r) = x.s + tailRun p r := by
  show (if x.s < p then x.s else _) = _; rw [if_neg h]

set_option maxHeartbeats 4000000 in
theorem rfits_yes (b off cap : Nat) (l : List Sm) (p n : Int) (w : World) (hb : b < w.heap.size) (h : SumsAt w b off l) (hr : rightsB l p = true) (hp : 1 ≤ p) (hp2 : p ≤ 2097152) (hl : l.length ≤ 64) (hn : 1 ≤ n) (hn2 : n ≤ 9223372036854775807) :
    Calls Try.prog 14 #[.slice (some ⟨b, off, none⟩) l.length cap, .int .i64 p, .int .i64 n] w fun r w' => r = .returned (fitsTuple (refRec p n l 0)) ∧ Ext w w' := by
  have H : Hid (SlAt w (.slice (some ⟨b, off, none⟩) l.length cap) l) := Lib.hid (Or.inr ⟨b, off, cap, rfl, hb, h⟩)
  have HF := Lib.hid (fit_of hr)
  have HC := Lib.hid h
  clear h
  go_enter Try.func14, Try.ntmps14
  go_wp2_with (go_at_call 24; refine (rrights_any _ l _ _ H.out).mono ?_; rintro e w1 ⟨rfl, hg1⟩)
  have HS := Lib.hid (HC.out.ext hb hg1)
  clear HC
  have HG := Lib.hid hg1
  clear hg1
  go_loop [9] (fun i => ∃ k : Nat, k ≤ l.length ∧ i = .int .i64 k ∧ Hid (refRec p n l 0 = refRec p n (l.drop k) k)) (fun i => l.length - (intOf i).toNat)
  case atStart => exact ⟨0, Nat.zero_le _, rfl, Lib.hid rfl⟩
  case round =>
    obtain ⟨k, hk, rfl, hf⟩ := hrel
    by_cases hlt : k < l.length
    · obtain ⟨c1, c2, c3⟩ := HS.out k hlt
      obtain ⟨v0, v1, v2, v3, v4, v5⟩ := HF.out k hlt
      have hkp : (k : Int) * p ≤ 64 * 2097152 := Int.mul_le_mul (by omega) hp2 (by omega) (by omega)
      have hkp0 : 0 ≤ (k : Int) * p := Int.mul_nonneg (by omega) (by omega)
      have HD := Lib.hid hf.out
      rw [drop_cons hlt] at HD
      clear hf
      generalize l[k] = x at *
      obtain ⟨xs, xm, xe⟩ := x
      dsimp only at *
      by_cases h1 : n ≤ xm
      · have HT := Lib.hid (HD.out.trans (refRec_own h1))
        clear HD
        go_wp2
        go_ret3
        exact ⟨by rw [HT.out]; rfl, HG.out⟩
      · by_cases h2 : xe = 0
        · have t2 : (xe == 0) = true := by simpa using h2
          have HT : Hid (refRec p n l 0 = refRec p n (l.drop (k + 1)) ((k + 1 : Nat) : Int)) := Lib.hid (HD.out.trans (refRec_none h1 h2))
          clear HD h2
          go_wp2
          go_round
          case rel => exact ⟨k + 1, hlt, by go_num, HT⟩
          case measure => simp [intOf]; omega
        · have t2 : (xe == 0) = false := by simpa using h2
          have HH := Lib.hid (fun h3 => HD.out.trans (refRec_hit (i := (k : Int)) (r := l.drop (k + 1)) h1 h2 h3))
          have HN : Hid (¬ n ≤ xe + tailRun p (l.drop (k + 1)) → refRec p n l 0 = refRec p n (l.drop (k + 1)) ((k + 1 : Nat) : Int)) := Lib.hid (fun h3 => HD.out.trans (refRec_on h1 h2 h3))
          clear HD h2
          go_wp2
          go_loop [10, 11] (fun run j' => ∃ (j : Nat) (r : Int), j ≤ l.length ∧ run = .int .i64 r ∧ j' = .int .i64 j ∧ 0 ≤ r ∧ r ≤ j * 2097152 ∧ Hid (xe + tailRun p (l.drop (k + 1)) = r + tailRun p (l.drop j))) (fun _ j' => l.length - (intOf j').toNat)
          case atStart => exact ⟨k + 1, xe, by omega, rfl, by go_num, by omega, by omega, Lib.hid rfl⟩
          case round =>
            obtain ⟨j, r, hj, rfl, rfl, r0, r1, hT⟩ := hrel
            by_cases hjl : j < l.length
            · obtain ⟨d1, d2, d3⟩ := HS.out j hjl
              obtain ⟨u0, u1, -, -, -, -⟩ := HF.out j hjl
              have HE := Lib.hid hT.out
              rw [drop_cons hjl] at HE
              clear hT
              generalize l[j] = y at *
              obtain ⟨ys, ym, ye⟩ := y
              dsimp only at *
              by_cases h3 : ys < p
              · have HE2 : Hid (xe + tailRun p (l.drop (k + 1)) = r + ys) := Lib.hid (by rw [HE.out, tail_break h3])
                clear HE
                by_cases h4 : n ≤ r + ys
                · have HT := Lib.hid (HH.out (by rw [HE2.out]; exact h4))
                  clear HH HN HE2
                  go_wp2
                  go_ret3
                  exact ⟨by rw [HT.out]; rfl, HG.out⟩
                · have HT := Lib.hid (HN.out (by rw [HE2.out]; omega))
                  clear HH HN HE2
                  go_wp2
                  go_round
                  case rel => exact ⟨k + 1, hlt, by go_num, HT⟩
                  case measure => simp [intOf]; omega
              · have HE2 : Hid (xe + tailRun p (l.drop (k + 1)) = (r + ys) + tailRun p (l.drop (j + 1))) := Lib.hid (by rw [HE.out, tail_on h3]; dsimp only; omega)
                clear HE
                go_wp2
                go_round
                case rel => exact ⟨j + 1, r + ys, hjl, rfl, by go_num, by omega, by omega, HE2⟩
                case measure => simp [intOf]; omega
            · obtain rfl : j = l.length := by omega
              have HE2 : Hid (xe + tailRun p (l.drop (k + 1)) = r) := Lib.hid (by rw [hT.out, List.drop_length]; show r + 0 = r; omega)
              clear hT
              by_cases h4 : n ≤ r
              · have HT := Lib.hid (HH.out (by rw [HE2.out]; exact h4))
                clear HH HN HE2
                go_wp2
                go_ret3
                exact ⟨by rw [HT.out]; rfl, HG.out⟩
              · have HT := Lib.hid (HN.out (by rw [HE2.out]; omega))
                clear HH HN HE2
                go_wp2
                go_round
                case rel => exact ⟨k + 1, hlt, by go_num, HT⟩
                case measure => simp [intOf]; omega
    · obtain rfl : k = l.length := by omega
      have HE : Hid (refRec p n l 0 = none) := Lib.hid (by rw [hf.out, List.drop_length]; rfl)
      clear hf
      go_wp2
      go_ret3
      exact ⟨by rw [HE.out]; rfl, HG.out⟩

theorem rfits_any (v : Value) (l : List Sm) (p n : Int) (w : World) (h : SlAt w v l) (hn : n ≤ 9223372036854775807) :
    Calls Try.prog 14 #[v, .int .i64 p, .int .i64 n] w fun r w' => r = .returned (fitsT l p n) ∧ Ext w w' := by
  unfold fitsT
  cases hr : rightsB l p
  · rw [if_neg (by simp)]; exact rfits_no v l p n w h hr
  · by_cases h1 : 1 ≤ n
    · rw [if_pos ⟨rfl, h1⟩, fits_is_ref l p n hr h1]
      obtain ⟨a1, a2, a3, -⟩ := rights_of hr
      rcases h with ⟨rfl, rfl⟩ | ⟨b, off, cap, rfl, hb, hc⟩
      · exact rfits_nil p n w hr h1
      · exact rfits_yes b off cap l p n w hb hc hr a1 a2 a3 h1 hn
    · rw [if_neg (by simp [h1])]; exact rfits_low v l p n w h hr (by omega)

end Go.Proofs.Ytbfnadfbanhgcaa
