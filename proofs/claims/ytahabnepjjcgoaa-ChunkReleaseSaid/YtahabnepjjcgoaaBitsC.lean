/- The contracts of bits: Find, Last, Sum. -/
import Derived.Test.YtahabnepjjcgoaaBitsB
import Derived.Test.YtahabnepjjcgoaaFindP
import Derived.WalkLawsBesides
namespace Go.Proofs.Ytahabnepjjcgoaa
open Go.RowKit
set_option linter.unusedVariables false

theorem word_full {f : Nat → Bool} {k : Nat} (h : word f k = 18446744073709551615) : ∀ j, 64 * k ≤ j → j < 64 * k + 64 → f j = true := fun j h1 h2 => by
  have := word_bit f k (j - 64 * k) (by omega)
  rw [h, show 64 * k + (j - 64 * k) = j by omega, show (18446744073709551615 : Nat) = 2 ^ 64 - 1 from rfl, Nat.testBit_two_pow_sub_one] at this
  rw [← this]; simp; omega

theorem find_no (b o : Nat) (n frm : Int) (f : Nat → Bool) (w : World) (h : n < 1 ∨ 512 < n) :
    Calls Try.prog 25 #[.pointer (some ⟨b, o, none⟩), .int .i64 n, .int .i64 frm] w fun r w' => r = .returned (.tuple #[.int .i64 (findI f n frm), .bool (findB f n frm)]) ∧ w = w' := by
  have HI := Lib.hid (show findI f n frm = 0 by unfold findI findO; rw [if_pos h]; rfl)
  have HB := Lib.hid (show findB f n frm = false by unfold findB findO; rw [if_pos h]; rfl)
  rcases h with h | h
  all_goals
    go_enter Try.func25, Try.ntmps25
    go_wp2
    go_step3
    go_wp2
    (try rw [Exit.noGoto_ret])
    go_ret2
    exact ⟨by rw [HI.out, HB.out]; rfl, rfl⟩

theorem findG_hit (f : Nat → Bool) (n k i run : Nat) (hf : f i = true) : findG f n (k + 1) i run = findG f n k (i + 1) 0 := by
  show (if f i = true then _ else _) = _; rw [if_pos hf]
theorem findG_end (f : Nat → Bool) (n k i run : Nat) (hf : f i = false) (h : run + 1 = n) : findG f n (k + 1) i run = some (i + 1 - n) := by
  show (if f i = true then _ else if run + 1 = n then _ else _) = _; rw [if_neg (by rw [hf]; decide), if_pos h]
theorem findG_on (f : Nat → Bool) (n k i run : Nat) (hf : f i = false) (h : run + 1 ≠ n) : findG f n (k + 1) i run = findG f n k (i + 1) (run + 1) := by
  show (if f i = true then _ else if run + 1 = n then _ else _) = _; rw [if_neg (by rw [hf]; decide), if_neg h]

set_option maxRecDepth 20000 in
set_option maxHeartbeats 1000000 in
theorem find_yes (b o : Nat) (n : Nat) (frm : Int) (f : Nat → Bool) (w : World) (h : RowAt w b o f) (h1 : 1 ≤ n) (h2 : n ≤ 512) (hfr : frm ≤ 9223372036854775807) :
    Calls Try.prog 25 #[.pointer (some ⟨b, o, none⟩), .int .i64 n, .int .i64 frm] w fun r w' => r = .returned (.tuple #[.int .i64 (findI f n frm), .bool (findB f n frm)]) ∧ w = w' := by
  have HH := Lib.hid h
  clear h
  have HO := Lib.hid (show findO f n frm = findG f n (512 - frm.toNat) frm.toNat 0 by unfold findO; rw [if_neg (by omega)]; rfl)
  have HI := Lib.hid (show findI f n frm = ((findO f n frm).getD 0 : Nat) from rfl)
  have HB := Lib.hid (show findB f n frm = (findO f n frm).isSome from rfl)
  have HF := Lib.hid hfr
  clear hfr
  have hfr2 : frm < 0 ∨ 0 ≤ frm := by omega
  rcases hfr2 with hle | hgt
  all_goals
    go_enter Try.func25, Try.ntmps25
    go_wp2
    go_step3
    go_wp2
    go_step3
    go_wp2
    go_loop [8, 9] (fun vi vr => ∃ i run : Nat, vi = .int .i64 i ∧ vr = .int .i64 run ∧ run ≤ i ∧ i ≤ 9223372036854775807 ∧ Hid (findO f n frm = findG f n (512 - i) i run)) (fun vi _ => 512 - (intOf vi).toNat)
    case atStart =>
      refine ⟨frm.toNat, 0, ?_, rfl, Nat.zero_le _, by have := HF.out; omega, HO⟩
      first
        | exact congrArg (Value.int IntKind.i64) (by omega)
    case round =>
      obtain ⟨i, run, rfl, rfl, hri, hib, hG⟩ := hrel
      by_cases hlt : i < 512
      · obtain ⟨k, hk⟩ : ∃ k, 512 - i = k + 1 := ⟨511 - i, by omega⟩
        rw [hk] at hG
        have HK := Lib.hid hk
        clear hk
        by_cases hfull : i % 64 = 0 ∧ word f (i / 64) = 18446744073709551615
        · have b1 : ((i : Int) % 64 == 0) = true := by simp; omega
          have hc := HH.out.cell (i / 64) (by omega)
          have h8 : ((i / 64 : Nat) : Int) < 8 := by omega
          have b2 : (((word f (i / 64) : Nat) : Int) == 18446744073709551615) = true := by rw [hfull.2]; decide
          have HN := Lib.hid (show findO f n frm = findG f n (512 - (i + 64)) (i + 64) 0 by
            rw [hG.out, show k + 1 = 63 + 1 + (512 - (i + 64)) by have := HK.out; omega]
            exact findG_skip f n 63 _ i run (fun j h3 h4 => word_full hfull.2 j (by omega) (by omega)))
          clear hfull hG
          generalize word f (i / 64) = x at *
          go_wp2_with fail
          go_round
          case rel => exact ⟨i + 64, 0, by go_num, rfl, by omega, by omega, HN⟩
          case measure => simp [intOf]; omega
        · have hc := HH.out.cell (i / 64) (by omega)
          have h8 : ((i / 64 : Nat) : Int) < 8 := by omega
          have HGet := Lib.hid (fun w (h : RowAt w b o f) => get_in b o i f w hlt h)
          have hb : (((i : Int) % 64 == 0) = true ∧ (((word f (i / 64) : Nat) : Int) == 18446744073709551615) = false) ∨ ((i : Int) % 64 == 0) = false := by
            by_cases h0 : i % 64 = 0
            · left
              refine ⟨by simp; omega, ?_⟩
              have : word f (i / 64) ≠ 18446744073709551615 := fun e => hfull ⟨h0, e⟩
              simp; omega
            · right; simp; omega
          clear hfull
          generalize word f (i / 64) = x at *
          have HX := Lib.hid hb
          clear hb
          cases hfi : f i
          · by_cases hr : run + 1 = n
            · have HN := Lib.hid (show findO f n frm = some (i + 1 - n) by rw [hG.out, findG_end f n k i run hfi hr])
              have hrb : (((run : Int) + 1) == (n : Int)) = true := by simp; omega
              have HR := Lib.hid hr
              rw [hfi] at HGet
              clear hG hr
              rcases HX.out with ⟨b1, b2⟩ | b1
              all_goals
                go_wp2_with (go_at_call 19; refine (HGet.out _ HH.out).mono ?_; rintro r w1 ⟨rfl, rfl⟩)
                rw [Exit.noGoto_ret]
                go_ret2
                refine ⟨?_, rfl⟩
                rw [HI.out, HB.out, HN.out]
                show Ending.returned (Value.tuple #[.int .i64 ((i : Int) + 1 - n), .bool true]) = Ending.returned (Value.tuple #[.int .i64 ((i + 1 - n : Nat) : Int), .bool true])
                have := HR.out
                rw [show ((i + 1 - n : Nat) : Int) = (i : Int) + 1 - n by omega]
            · have HN := Lib.hid (show findO f n frm = findG f n (512 - (i + 1)) (i + 1) (run + 1) by rw [hG.out, findG_on f n k i run hfi hr, show k = 512 - (i + 1) by have := HK.out; omega])
              have hrb : (((run : Int) + 1) == (n : Int)) = false := by simp; omega
              rw [hfi] at HGet
              clear hG hr
              rcases HX.out with ⟨b1, b2⟩ | b1
              all_goals
                go_wp2_with (go_at_call 19; refine (HGet.out _ HH.out).mono ?_; rintro r w1 ⟨rfl, rfl⟩)
                go_round
                case rel => exact ⟨i + 1, run + 1, by go_num, by go_num, by omega, by omega, HN⟩
                case measure => simp [intOf]; omega
          · have HN := Lib.hid (show findO f n frm = findG f n (512 - (i + 1)) (i + 1) 0 by rw [hG.out, findG_hit f n k i run hfi, show k = 512 - (i + 1) by have := HK.out; omega])
            have hrb : ((0 : Int) == (n : Int)) = false := by simp; omega
            rw [hfi] at HGet
            clear hG
            rcases HX.out with ⟨b1, b2⟩ | b1
            all_goals
              go_wp2_with (go_at_call 19; refine (HGet.out _ HH.out).mono ?_; rintro r w1 ⟨rfl, rfl⟩)
              go_round
              case rel => exact ⟨i + 1, 0, by go_num, rfl, by omega, by omega, HN⟩
              case measure => simp [intOf]; omega
      · have HN := Lib.hid (show findO f n frm = none by rw [hG.out, show 512 - i = 0 by omega]; rfl)
        clear hG
        go_wp2
        (try rw [Exit.noGoto_ret])
        go_ret2
        exact ⟨by rw [HI.out, HB.out, HN.out]; rfl, rfl⟩

theorem find_any (b o : Nat) (n frm : Int) (f : Nat → Bool) (w : World) (h : RowAt w b o f) (hfr : frm ≤ 9223372036854775807) :
    Calls Try.prog 25 #[.pointer (some ⟨b, o, none⟩), .int .i64 n, .int .i64 frm] w fun r w' => r = .returned (.tuple #[.int .i64 (findI f n frm), .bool (findB f n frm)]) ∧ w = w' := by
  by_cases h1 : n < 1 ∨ 512 < n
  · exact find_no b o n frm f w h1
  · have := find_yes b o n.toNat frm f w h (by omega) (by omega) hfr
    rwa [show ((n.toNat : Nat) : Int) = n by omega] at this

/-! ### Last -/
theorem last_no (b o : Nat) (n to : Int) (f : Nat → Bool) (w : World) (h : n < 1) :
    Calls Try.prog 29 #[.pointer (some ⟨b, o, none⟩), .int .i64 n, .int .i64 to] w fun r w' => r = .returned (.tuple #[.int .i64 (lastI f n to : Nat), .int .i64 (lastN f n to : Nat)]) ∧ w = w' := by
  have HN := Lib.hid (show lastN f n to = 0 by unfold lastN; rw [if_pos h])
  have HI := Lib.hid (show lastI f n to = 0 by unfold lastI; rw [if_pos HN.out])
  go_enter Try.func29, Try.ntmps29
  go_wp2
  go_ret2
  exact ⟨by rw [HI.out, HN.out]; rfl, rfl⟩

theorem topz_hit (f : Nat → Bool) (t : Nat) (h : f t = true) : topz f (t + 1) = topz f t := by
  show (if f t = true then _ else _) = _; rw [if_pos h]
theorem topz_miss (f : Nat → Bool) (t : Nat) (h : f t = false) : topz f (t + 1) = t + 1 := by
  show (if f t = true then _ else _) = _; rw [if_neg (by rw [h]; decide)]
theorem runz_none (f : Nat → Bool) (t : Nat) : runz f t 0 = 0 := by
  cases t with
  | zero => rfl
  | succ t => show (if (0 : Nat) = 0 then 0 else _) = 0; rw [if_pos rfl]
theorem runz_hit (f : Nat → Bool) (t n : Nat) (h : f t = true) : runz f (t + 1) n = 0 := by
  show (if n = 0 then 0 else if f t = true then 0 else _) = 0; rw [if_pos h]; split <;> rfl
theorem runz_on (f : Nat → Bool) (t n : Nat) (h : f t = false) : runz f (t + 1) (n + 1) = runz f t n + 1 := by
  show (if n + 1 = 0 then 0 else if f t = true then 0 else runz f t (n + 1 - 1) + 1) = _; rw [if_neg (by omega), if_neg (by rw [h]; decide)]; rfl

set_option maxRecDepth 20000 in
set_option maxHeartbeats 1000000 in
theorem last_yes (b o : Nat) (n : Nat) (to : Int) (f : Nat → Bool) (w : World) (h : RowAt w b o f) (h1 : 1 ≤ n) (hn : n ≤ 9223372036854775807) :
    Calls Try.prog 29 #[.pointer (some ⟨b, o, none⟩), .int .i64 n, .int .i64 to] w fun r w' => r = .returned (.tuple #[.int .i64 (lastI f n to : Nat), .int .i64 (lastN f n to : Nat)]) ∧ w = w' := by
  have HH := Lib.hid h
  clear h
  have HN := Lib.hid (show lastN f n to = runz f (topz f (lastT to)) n by unfold lastN; rw [if_neg (by omega)]; rfl)
  have HI := Lib.hid (show lastI f n to = if lastN f n to = 0 then 0 else topz f (lastT to) - lastN f n to from rfl)
  have hT : lastT to ≤ 512 := by unfold lastT; split <;> omega
  have HT1 : Hid (to < 0 → lastT to = 0) := Lib.hid (fun h => by unfold lastT; rw [if_pos (by omega)]; omega)
  have HT2 : Hid (0 ≤ to → to ≤ 512 → (lastT to : Int) = to) := Lib.hid (fun h h' => by unfold lastT; split <;> omega)
  have HT3 : Hid (512 < to → lastT to = 512) := Lib.hid (fun h => by unfold lastT; rw [if_neg (by omega)]; omega)
  have hcase : to < 0 ∨ (0 ≤ to ∧ to ≤ 512) ∨ 512 < to := by omega
  generalize lastT to = T at *
  have HTT : Hid ((to < 0 ∧ T = 0) ∨ (0 ≤ to ∧ to ≤ 512 ∧ (T : Int) = to) ∨ (512 < to ∧ T = 512)) := Lib.hid (by
    rcases hcase with hc | ⟨hc, hc'⟩ | hc
    · exact .inl ⟨hc, HT1.out hc⟩
    · exact .inr (.inl ⟨hc, hc', HT2.out hc hc'⟩)
    · exact .inr (.inr ⟨hc, HT3.out hc⟩))
  clear HT1 HT2 HT3
  rcases hcase with hc | ⟨hc, hc'⟩ | hc
  all_goals
    go_enter Try.func29, Try.ntmps29
    go_wp2
    go_loop [8] (fun vi => ∃ t : Nat, vi = .int .i64 ((t : Int) - 1) ∧ t ≤ 512 ∧ Hid (topz f T = topz f t)) (fun vi => (intOf vi + 1).toNat)
    case atStart => exact ⟨T, congrArg (Value.int IntKind.i64) (by have := HTT.out; omega), hT, Lib.hid rfl⟩
    case round =>
      obtain ⟨t, rfl, ht, hG⟩ := hrel
      by_cases hgo : ∃ t1, t = t1 + 1 ∧ f t1 = true
      · obtain ⟨t1, rfl, hf⟩ := hgo
        have HGet := Lib.hid (fun w (h : RowAt w b o f) => get_in b o t1 f w (by omega) h)
        rw [hf] at HGet
        have HN2 := Lib.hid (show topz f T = topz f t1 by rw [hG.out, topz_hit f t1 hf])
        rw [show (((t1 + 1 : Nat) : Int) - 1) = (t1 : Int) by omega]
        clear hf hG
        go_wp2_with (go_at_call 19; refine (HGet.out _ HH.out).mono ?_; rintro r w1 ⟨rfl, rfl⟩)
        go_round
        case rel => exact ⟨t1, rfl, by omega, HN2⟩
        case measure => simp [intOf]
      · have HE := Lib.hid (show topz f T = t by
          rw [hG.out]
          cases t with
          | zero => rfl
          | succ t1 => exact topz_miss f t1 (by cases h : f t1; rfl; exact absurd ⟨t1, rfl, h⟩ hgo))
        have hway : t = 0 ∨ ∃ t1, t = t1 + 1 ∧ f t1 = false := by
          cases t with
          | zero => exact .inl rfl
          | succ t1 => exact .inr ⟨t1, rfl, by cases h : f t1; rfl; exact absurd ⟨t1, rfl, h⟩ hgo⟩
        clear hgo hG
        have step : Hid (∀ r t', runz f t n = runz f t' (n - r) + r → r ≤ n → t' = 0 ∨ r = n ∨ (∃ t1, t' = t1 + 1 ∧ f t1 = true) → runz f t n = r) := Lib.hid (by
          intro r t' h3 h4 h5
          rw [h3]
          rcases h5 with rfl | rfl | ⟨t1, rfl, hf⟩
          · show 0 + r = r; omega
          · rw [Nat.sub_self, runz_none]; omega
          · rw [runz_hit f t1 _ hf]; omega)
        have fin : Hid (∀ r, runz f t n = r → lastN f n to = r ∧ lastI f n to = if r = 0 then 0 else t - r) := Lib.hid (by
          intro r h3
          have h4 : lastN f n to = r := by rw [HN.out, HE.out, h3]
          refine ⟨h4, ?_⟩
          rw [HI.out, h4, HE.out])
        have start : Hid (runz f t n = runz f t (n - 0) + 0) := Lib.hid rfl
        rcases hway with rfl | ⟨t1, rfl, hf⟩
        case inl =>
          go_wp2
          go_loop [8, 9] (fun vi vr => ∃ t' r : Nat, vi = .int .i64 ((t' : Int) - 1) ∧ vr = .int .i64 r ∧ t' + r = 0 ∧ r ≤ n ∧ r ≤ 512 ∧ t' ≤ 512 ∧ Hid (runz f (0) n = runz f t' (n - r) + r)) (fun vi _ => (intOf vi + 1).toNat)
          case atStart => exact ⟨0, 0, congrArg (Value.int IntKind.i64) (by omega), rfl, by omega, by omega, by omega, by omega, start⟩
          case round =>
            obtain ⟨t', r, rfl, rfl, htr, hrn, hr512, ht', hG⟩ := hrel
            clear start
            have HTR := Lib.hid htr
            clear htr
            by_cases hgo2 : ∃ t2, t' = t2 + 1 ∧ r < n ∧ f t2 = false
            · obtain ⟨t2, rfl, hrl, hf2⟩ := hgo2
              have HGet2 := Lib.hid (fun w (h : RowAt w b o f) => get_in b o t2 f w (by omega) h)
              rw [hf2] at HGet2
              have HN3 := Lib.hid (show runz f (0) n = runz f t2 (n - (r + 1)) + (r + 1) by
                rw [hG.out, show n - r = (n - (r + 1)) + 1 by omega, runz_on f t2 _ hf2]; omega)
              rw [show (((t2 + 1 : Nat) : Int) - 1) = (t2 : Int) by omega]
              clear hf2 hG
              go_wp2_with (go_at_call 19; refine (HGet2.out _ HH.out).mono ?_; rintro r w1 ⟨rfl, rfl⟩)
              go_round
              case rel => exact ⟨t2, r + 1, rfl, by go_num, by have := HTR.out; omega, by omega, by have := HTR.out; omega, by omega, HN3⟩
              case measure => simp [intOf]
            · have hex : t' = 0 ∨ r = n ∨ (∃ t2, t' = t2 + 1 ∧ f t2 = true) := by
                cases t' with
                | zero => exact .inl rfl
                | succ t2 =>
                  by_cases hrl : r < n
                  · exact .inr (.inr ⟨t2, rfl, by cases h : f t2; exact absurd ⟨t2, rfl, hrl, h⟩ hgo2; rfl⟩)
                  · exact .inr (.inl (by omega))
              have HF := Lib.hid (fin.out r (step.out r t' hG.out hrn hex))
              clear hgo2 hG
              by_cases hr0 : r = 0
              · subst hr0
                have H1 := Lib.hid (show lastN f n to = 0 from HF.out.1)
                have H2 := Lib.hid (show lastI f n to = 0 by rw [HF.out.2]; rfl)
                clear HF
                rcases hex with rfl | hrn2 | ⟨t2, rfl, hf2⟩
                · go_wp2
                  go_ret2
                  exact ⟨by rw [H1.out, H2.out]; rfl, rfl⟩
                · omega
                · exfalso; have := HTR.out; omega
              · have H1 := Lib.hid (show lastN f n to = r from HF.out.1)
                have H2 := Lib.hid (show lastI f n to = t' by rw [HF.out.2, if_neg hr0]; have := HTR.out; omega)
                have hrb : ((r : Int) == 0) = false := by simp; omega
                clear HF hr0
                rcases hex with rfl | rfl | ⟨t2, rfl, hf2⟩
                · exfalso; have := HTR.out; simp at hrb; omega
                · exfalso; have := HTR.out; omega
                · exfalso; have := HTR.out; omega
        case inr =>
          have HGet := Lib.hid (fun w (h : RowAt w b o f) => get_in b o t1 f w (by omega) h)
          rw [hf] at HGet
          rw [show (((t1 + 1 : Nat) : Int) - 1) = (t1 : Int) by omega]
          clear hf
          go_wp2_with (go_at_call 19; refine (HGet.out _ HH.out).mono ?_; rintro r w1 ⟨rfl, rfl⟩)
          go_loop [8, 9] (fun vi vr => ∃ t' r : Nat, vi = .int .i64 ((t' : Int) - 1) ∧ vr = .int .i64 r ∧ t' + r = t1 + 1 ∧ r ≤ n ∧ r ≤ 512 ∧ t' ≤ 512 ∧ Hid (runz f (t1 + 1) n = runz f t' (n - r) + r)) (fun vi _ => (intOf vi + 1).toNat)
          case atStart => exact ⟨t1 + 1, 0, congrArg (Value.int IntKind.i64) (by omega), rfl, by omega, by omega, by omega, by omega, start⟩
          case round =>
            obtain ⟨t', r, rfl, rfl, htr, hrn, hr512, ht', hG⟩ := hrel
            clear start
            have HTR := Lib.hid htr
            clear htr
            by_cases hgo2 : ∃ t2, t' = t2 + 1 ∧ r < n ∧ f t2 = false
            · obtain ⟨t2, rfl, hrl, hf2⟩ := hgo2
              have HGet2 := Lib.hid (fun w (h : RowAt w b o f) => get_in b o t2 f w (by omega) h)
              rw [hf2] at HGet2
              have HN3 := Lib.hid (show runz f (t1 + 1) n = runz f t2 (n - (r + 1)) + (r + 1) by
                rw [hG.out, show n - r = (n - (r + 1)) + 1 by omega, runz_on f t2 _ hf2]; omega)
              rw [show (((t2 + 1 : Nat) : Int) - 1) = (t2 : Int) by omega]
              clear hf2 hG
              go_wp2_with (go_at_call 19; refine (HGet2.out _ HH.out).mono ?_; rintro r w1 ⟨rfl, rfl⟩)
              go_round
              case rel => exact ⟨t2, r + 1, rfl, by go_num, by have := HTR.out; omega, by omega, by have := HTR.out; omega, by omega, HN3⟩
              case measure => simp [intOf]
            · have hex : t' = 0 ∨ r = n ∨ (∃ t2, t' = t2 + 1 ∧ f t2 = true) := by
                cases t' with
                | zero => exact .inl rfl
                | succ t2 =>
                  by_cases hrl : r < n
                  · exact .inr (.inr ⟨t2, rfl, by cases h : f t2; exact absurd ⟨t2, rfl, hrl, h⟩ hgo2; rfl⟩)
                  · exact .inr (.inl (by omega))
              have HF := Lib.hid (fin.out r (step.out r t' hG.out hrn hex))
              clear hgo2 hG
              by_cases hr0 : r = 0
              · subst hr0
                have H1 := Lib.hid (show lastN f n to = 0 from HF.out.1)
                have H2 := Lib.hid (show lastI f n to = 0 by rw [HF.out.2]; rfl)
                clear HF
                rcases hex with rfl | hrn2 | ⟨t2, rfl, hf2⟩
                · go_wp2
                  go_ret2
                  exact ⟨by rw [H1.out, H2.out]; rfl, rfl⟩
                · omega
                · have HGet2 := Lib.hid (fun w (h : RowAt w b o f) => get_in b o t2 f w (by omega) h)
                  rw [hf2] at HGet2
                  rw [show (((t2 + 1 : Nat) : Int) - 1) = (t2 : Int) by omega]
                  clear hf2
                  go_wp2_with (go_at_call 19; refine (HGet2.out _ HH.out).mono ?_; rintro r w1 ⟨rfl, rfl⟩)
                  go_ret2
                  exact ⟨by rw [H1.out, H2.out]; rfl, rfl⟩
              · have H1 := Lib.hid (show lastN f n to = r from HF.out.1)
                have H2 := Lib.hid (show lastI f n to = t' by rw [HF.out.2, if_neg hr0]; have := HTR.out; omega)
                have hrb : ((r : Int) == 0) = false := by simp; omega
                clear HF hr0
                rcases hex with rfl | rfl | ⟨t2, rfl, hf2⟩
                · go_wp2
                  go_ret2
                  refine ⟨?_, rfl⟩
                  rw [H1.out, H2.out]; rfl
                · cases t' with
                  | zero =>
                    go_wp2
                    go_ret2
                    refine ⟨?_, rfl⟩
                    rw [H1.out, H2.out]; rfl
                  | succ t2 =>
                    rw [show (((t2 + 1 : Nat) : Int) - 1) = (t2 : Int) by omega]
                    go_wp2
                    go_ret2
                    refine ⟨?_, rfl⟩
                    rw [H1.out, H2.out]; rfl
                · have HGet2 := Lib.hid (fun w (h : RowAt w b o f) => get_in b o t2 f w (by omega) h)
                  rw [hf2] at HGet2
                  rw [show (((t2 + 1 : Nat) : Int) - 1) = (t2 : Int) by omega]
                  clear hf2
                  have hrl : r < n ∨ r = n := by omega
                  rcases hrl with hrl | rfl
                  all_goals
                    go_wp2_with (go_at_call 19; refine (HGet2.out _ HH.out).mono ?_; rintro r w1 ⟨rfl, rfl⟩)
                    go_ret2
                    refine ⟨?_, rfl⟩
                    rw [H1.out, H2.out]; rfl

end Go.Proofs.Ytahabnepjjcgoaa
