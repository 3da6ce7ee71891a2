/- The walk of PackRows. -/
import Derived.Test.YtbfnadfbanhgcaaRowsP
import Derived.Test.YtbfnadfbanhgcaaBitsG
import Derived.Test.YtbfnadfbanhgcaaAlike
namespace Go.Proofs.Ytbfnadfbanhgcaa
open Go.RowKit
set_option linter.unusedVariables false

/-- three rows one behind the other. -/
def fun3 (f0 f1 f2 : Nat → Bool) : Nat → Bool := fun i => if i < 512 then f0 i else if i < 1024 then f1 (i - 512) else f2 (i - 1024)
theorem same_sum (f g : Nat → Bool) : ∀ k, (∀ j, j < k → f j = g j) → endS f k = endS g k ∧ startS f k = startS g k ∧ maxS f k = maxS g k
  | 0, _ => ⟨rfl, rfl, rfl⟩
  | k + 1, h => by
    obtain ⟨h1, h2, h3⟩ := same_sum f g k fun j hj => h j (by omega)
    have hk := h k (by omega)
    cases e : g k
    · rw [e] at hk
      rw [endS_o f k hk, endS_o g k e, maxS_o f k hk, maxS_o g k e, startS_o f k hk, startS_o g k e, h1, h2, h3]
      exact ⟨rfl, rfl, rfl⟩
    · rw [e] at hk
      rw [endS_h f k hk, endS_h g k e, maxS_h f k hk, maxS_h g k e, startS_h f k hk, startS_h g k e, h2, h3]
      exact ⟨rfl, rfl, rfl⟩
theorem smF_same {f g : Nat → Bool} {k : Nat} (h : ∀ j, j < k → f j = g j) : smF f k = smF g k := by
  obtain ⟨h1, h2, h3⟩ := same_sum f g k h
  unfold smF
  rw [h1, h2, h3]
theorem rows3 (f0 f1 f2 : Nat → Bool) : rowsL (fun3 f0 f1 f2) = [smF f0 512, smF f1 512, smF f2 512] := by
  have e0 : smF (from_ (fun3 f0 f1 f2) 0) 512 = smF f0 512 := smF_same fun j hj => by
    show (if 0 + j < 512 then _ else _) = _
    rw [if_pos (by omega), Nat.zero_add]
  have e1 : smF (from_ (fun3 f0 f1 f2) 512) 512 = smF f1 512 := smF_same fun j hj => by
    show (if 512 + j < 512 then _ else if 512 + j < 1024 then _ else _) = _
    rw [if_neg (by omega), if_pos (by omega), Nat.add_sub_cancel_left]
  have e2 : smF (from_ (fun3 f0 f1 f2) 1024) 512 = smF f2 512 := smF_same fun j hj => by
    show (if 1024 + j < 512 then _ else if 1024 + j < 1024 then _ else _) = _
    rw [if_neg (by omega), if_neg (by omega), Nat.add_sub_cancel_left]
  unfold rowsL
  rw [e0, e1, e2]

def pick3 (f0 f1 f2 : Nat → Bool) (r : Nat) : Nat → Bool := if r = 0 then f0 else if r = 1 then f1 else f2
theorem fun3_at (f0 f1 f2 : Nat → Bool) (k : Nat) (hk : k < 1536) : fun3 f0 f1 f2 k = pick3 f0 f1 f2 (k / 512) (k % 512) := by
  unfold fun3 pick3
  by_cases h1 : k < 512
  · rw [if_pos h1, if_pos (by omega), show k % 512 = k by omega]
  · by_cases h2 : k < 1024
    · rw [if_neg h1, if_pos h2, if_neg (by omega), if_pos (by omega), show k % 512 = k - 512 by omega]
    · rw [if_neg h1, if_neg h2, if_neg (by omega), if_neg (by omega), show k % 512 = k - 1024 by omega]
theorem pick3_at (f0 f1 f2 : Nat → Bool) (r : Nat) (hr : r < 3) : smF (pick3 f0 f1 f2 r) 512 = [smF f0 512, smF f1 512, smF f2 512].getD r ⟨0, 0, 0⟩ := by
  match r, hr with
  | 0, _ => rfl
  | 1, _ => rfl
  | 2, _ => rfl
def arr24 (f0 f1 f2 : Nat → Bool) : Array Value := #[.int .u64 (word f0 0 : Nat), .int .u64 (word f0 1 : Nat), .int .u64 (word f0 2 : Nat), .int .u64 (word f0 3 : Nat), .int .u64 (word f0 4 : Nat), .int .u64 (word f0 5 : Nat), .int .u64 (word f0 6 : Nat), .int .u64 (word f0 7 : Nat), .int .u64 (word f1 0 : Nat), .int .u64 (word f1 1 : Nat), .int .u64 (word f1 2 : Nat), .int .u64 (word f1 3 : Nat), .int .u64 (word f1 4 : Nat), .int .u64 (word f1 5 : Nat), .int .u64 (word f1 6 : Nat), .int .u64 (word f1 7 : Nat), .int .u64 (word f2 0 : Nat), .int .u64 (word f2 1 : Nat), .int .u64 (word f2 2 : Nat), .int .u64 (word f2 3 : Nat), .int .u64 (word f2 4 : Nat), .int .u64 (word f2 5 : Nat), .int .u64 (word f2 6 : Nat), .int .u64 (word f2 7 : Nat)]
theorem three_rows {w : World} {g : Nat} {t : TypeId} {f0 f1 f2 : Nat → Bool} (h : Blk w g t (arr24 f0 f1 f2)) (r : Nat) (hr : r < 3) : RowAt w g (r * 8) (pick3 f0 f1 f2 r) where
  lt := h.lt
  cell := fun k hk => by
    rw [h.cell]
    unfold arr24
    obtain rfl | rfl | rfl : r = 0 ∨ r = 1 ∨ r = 2 := by omega
    all_goals (
      obtain rfl | rfl | rfl | rfl | rfl | rfl | rfl | rfl : k = 0 ∨ k = 1 ∨ k = 2 ∨ k = 3 ∨ k = 4 ∨ k = 5 ∨ k = 6 ∨ k = 7 := by omega
      all_goals simp [pick3])
  frozen := h.frozen

theorem sl_later {w w' : World} {v : Value} {l : List Sm} (h : SlAt w v l) (hx : Ext w w') : SlAt w' v l := by
  rcases h with h | ⟨b, off, cap, e, hb, hc⟩
  · exact .inl h
  · exact .inr ⟨b, off, cap, e, Nat.lt_of_lt_of_le hb hx.size, hc.ext hb hx⟩
theorem i64_of0 {a : Int} (h : (Lit.int .i64 a).wf = true) : -9223372036854775808 ≤ a ∧ a ≤ 9223372036854775807 := by
  simp [Lit.wf, IntKind.min, IntKind.max, IntKind.signed, IntKind.bits] at h; omega
theorem sum_info : (Try.prog.info? 25).map (fun i => (i.zero, i.size, i.bytes)) = some (some (.agg #[.int .i64 0, .int .i64 0, .int .i64 0]), 3, 24) := by kernel_rfl
def sums3 (f0 f1 f2 : Nat → Bool) : List Sm := [smF f0 512, smF f1 512, smF f2 512]
theorem sums3_take (f0 f1 f2 : Nat → Bool) (k : Nat) (hk : k < 3) : (sums3 f0 f1 f2).take (k + 1) = (sums3 f0 f1 f2).take k ++ [smF (pick3 f0 f1 f2 k) 512] := by
  obtain rfl | rfl | rfl : k = 0 ∨ k = 1 ∨ k = 2 := by omega
  all_goals rfl
structure R3 (W w : World) (g : Nat) (f0 f1 f2 : Nat → Bool) (v : Value) (k : Nat) : Prop where
  ext : Ext W w
  rows : ∀ r, r < 3 → RowAt w g (r * 8) (pick3 f0 f1 f2 r)
  own : w.ownsRow W.heap.size 25 3 v k (rowCells ((sums3 f0 f1 f2).take k))
  lo : W.heap.size ≤ g
  ne : v.ownBlock ≠ some g
theorem R3.add {W w w1 w2 : World} {g k : Nat} {f0 f1 f2 : Nat → Bool} {v v' : Value} {cs : Array Value} (h : R3 W w g f0 f1 f2 v k) (hk : k < 3) (hx : Ext w w1) (hown : w2.ownsRow W.heap.size 25 3 v' (k + 1) (rowCells ((sums3 f0 f1 f2).take k) ++ Sm.three (smF (pick3 f0 f1 f2 k) 512)))
    (hc : Chg (fun b => v.ownBlock = some b) (w1.alloc (.cells cs 25)) w2) (hat : v'.ownBlock = v.ownBlock ∨ v'.ownBlock = some (w1.heap.size + 1)) : R3 W w2 g f0 f1 f2 v' (k + 1) := by
  have hg := (h.rows 0 (by omega)).lt
  have hsz := hx.size
  have hcw : Chg (fun b => v.ownBlock = some b) w w2 := ((Chg.of_ext (hx.alloc cs 25) (fun b => v.ownBlock = some b))).trans hc fun i hi => .inl hi
  refine ⟨hcw.ext h.ext fun i hi => (owns_lt h.own i hi).1, fun r hr => (h.rows r hr).chg hcw h.ne, ?_, h.lo, fun e => ?_⟩
  · rw [sums3_take _ _ _ _ hk, ← rowCells_snoc]; exact hown
  · rcases hat with e2 | e2
    · exact h.ne (e2 ▸ e)
    · rw [e2] at e
      injection e with e
      omega

set_option maxRecDepth 20000 in
set_option maxHeartbeats 4000000 in
theorem walk_PackRows {W : World} (v0 : Value) (f0 : Nat → Bool) (h0 : v0 = .agg (arr f0)) (v1 : Value) (f1 : Nat → Bool) (h1 : v1 = .agg (arr f1)) (v2 : Value) (f2 : Nat → Bool) (h2 : v2 = .agg (arr f2)) (n : Int) (wn : (Lit.int .i64 n).wf = true) :
    Calls Try.prog 9 #[v0, v1, v2, .int .i64 n] W fun e W' => e = .returned (.bool true) ∧ Ext W W' := by
  subst h0; subst h1; subst h2
  unfold arr
  go_enter Try.func9, Try.ntmps9
  go_wp2
  have hA : R3 W _ (W.heap.size + 1 + 1 + 1) f0 f1 f2 (.slice none 0 0) 0 := ⟨((((Ext.refl W).alloc _ _).alloc _ _).alloc _ _).alloc _ _, three_rows (f0 := f0) (f1 := f1) (f2 := f2) (by have := Blk.new (((W.alloc (.cells (arr f0) 41)).alloc (.cells (arr f1) 41)).alloc (.cells (arr f2) 41)) 42 (arr24 f0 f1 f2); rw [World.size_alloc, World.size_alloc, World.size_alloc] at this; exact this), owns_nil _ _ _ _, by omega, by simp [Value.ownBlock]⟩
  have HA := Lib.hid hA
  clear hA
  obtain ⟨i0, hi0, hz0, hz1, hz2⟩ := info_parts sum_info
  go_loopw [10, 11] (fun v i wr => ∃ k : Nat, k ≤ 3 ∧ i = .int .i64 k ∧ Hid (R3 W wr (W.heap.size + 1 + 1 + 1) f0 f1 f2 v k)) (fun _ i _ => 3 - (intOf i).toNat)
  case atStart => exact ⟨0, by omega, rfl, HA⟩
  case round =>
    obtain ⟨k, hk, rfl, hR⟩ := hrel
    clear HA
    obtain ⟨pv, capv, rfl, -, -, -⟩ := owns_form hR.out.own
    by_cases hlt : k < 3
    · obtain ⟨x, y, z, hs⟩ : ∃ x y z : Int, smF (pick3 f0 f1 f2 k) 512 = ⟨x, y, z⟩ := ⟨_, _, _, rfl⟩
      have hsv : sumV (pick3 f0 f1 f2 k) = .agg #[.int .i64 x, .int .i64 y, .int .i64 z] := by
        show (smF (pick3 f0 f1 f2 k) 512).val = _
        rw [hs]; rfl
      have hsum := sum_any _ _ (pick3 f0 f1 f2 k) wr (hR.out.rows k hlt)
      rw [hsv] at hsum
      have HS := Lib.hid hsum
      have HE := Lib.hid hs
      clear hs hsv hsum
      go_wp2_with (first
        | (go_at_call 21; refine HS.out.mono ?_; rintro r w1 ⟨rfl, hx⟩; have HX := Lib.hid hx; clear hx)
        | (at_builtin; refine wpList_append_all W.heap.size _ rfl (.tmp 30) (.tmp 35) 22 rfl 25 i0 _ 3 24 Try.underlying22 hi0 hz0 hz1 hz2 rfl (by decide) _ _ _ (by rfl) (by exact owns_later hR.out.own ((HX.out.alloc _ _).below)) (.slice (some ⟨w1.heap.size, 0, none⟩) 1 1) 1 [.int .i64 x, .int .i64 y, .int .i64 z] (by rfl) (by exact src_one w1 [.int .i64 x, .int .i64 y, .int .i64 z] _ 3 rfl) (by intro u hu; simp at hu; rcases hu with rfl | rfl | rfl <;> rfl) (by unfold maxLen; omega) (by omega) (by have := hR.out.ext.size; have := HX.out.size; simp; omega) ?_)
        | fail)
      intro v' w2 hown hc hat
      have HN := Lib.hid (hR.out.add hlt HX.out (by rw [HE.out]; exact hown) hc hat)
      obtain ⟨p', cap', rfl, -, -, -⟩ := owns_form hown
      clear hown hc hat hR HS
      go_wp2_with fail
      go_roundw
      case rel => exact ⟨k + 1, by omega, by go_num, HN⟩
      case measure => simp [intOf]; omega
    · obtain rfl : k = 3 := by omega
      have HSl : Hid (SlAt wr (.slice pv 3 capv) (sums3 f0 f1 f2)) := Lib.hid (sl_of_owns hR.out.own)
      have hmg : mergeT (sums3 f0 f1 f2) 512 = .tuple #[(smF (fun3 f0 f1 f2) 1536).val, .int .i64 0] := by
        unfold mergeT sums3
        rw [← rows3, if_pos (rows_right _)]
        show Value.tuple #[(mergeTo 512 _ 3).val, _] = _
        rw [rows_merge]
      have hft : fitsT (sums3 f0 f1 f2) 512 n = if 1 ≤ n then fitsTuple (fitsRec 512 n (rowsL (fun3 f0 f1 f2)) 0 0) else .tuple #[.int .i64 0, .bool false, .int .i64 1] := by
        unfold fitsT sums3
        rw [← rows3, rows_right]
        simp
      have HRows := Lib.hid hR.out.rows
      have HX0 := Lib.hid hR.out.ext
      have HF := Lib.hid (fun3_at f0 f1 f2)
      have HFT := Lib.hid hft
      have hmc := merge_any _ _ 512 wr HSl.out
      rw [hmg] at hmc
      generalize hF : fun3 f0 f1 f2 = F at *
      clear hF hmg hft hR
      obtain ⟨x, y, z, hs⟩ : ∃ x y z : Int, smF F 1536 = ⟨x, y, z⟩ := ⟨_, _, _, rfl⟩
      rw [hs] at hmc
      have hmc : Calls Try.prog 11 #[.slice pv 3 capv, .int .i64 512] wr fun r w' => r = .returned (.tuple #[.agg #[.int .i64 x, .int .i64 y, .int .i64 z], .int .i64 0]) ∧ Ext wr w' := hmc
      have HM := Lib.hid hmc
      have HE := Lib.hid hs
      clear hmc hs
      go_wp2_with (first
        | (go_at_call 11; refine HM.out.mono ?_; rintro r w1 ⟨rfl, hx⟩; have HX1 := Lib.hid hx; clear hx)
        | fail)
      have hb1 := Blk.new w1 25 #[.int .i64 x, .int .i64 y, .int .i64 z]
      have hx5 := HX1.out.alloc #[.int .i64 x, .int .i64 y, .int .i64 z] 25
      have HX5 := Lib.hid (HX0.out.trans hx5)
      have HR5 := Lib.hid fun r hr => (HRows.out r hr).later hx5
      have HL5 := Lib.hid (sl_later HSl.out hx5)
      have c0 := hb1.cell 0
      have c1 := hb1.cell 1
      have c2 := hb1.cell 2
      simp only [List.getElem?_toArray, List.getElem?_cons_succ, List.getElem?_cons_zero] at c0 c1 c2
      clear hx5 hb1 HSl HRows HX0 HX1 HM
      generalize w1.alloc (.cells #[.int .i64 x, .int .i64 y, .int .i64 z] 25) = W5 at *
      generalize w1.heap.size = g5 at *
      obtain ⟨W6, rfl⟩ : ∃ W6, W6 = W5 := ⟨_, rfl⟩
      go_loopw [14, 15, 16, 17, 18] (fun sv mv rv fv i wr => ∃ k : Nat, k ≤ 1536 ∧ i = .int .i64 k ∧ sv = .int .i64 (startS F k : Nat) ∧ mv = .int .i64 (maxS F k : Nat) ∧ rv = .int .i64 (endS F k : Nat) ∧ fv = .int .i64 (firstN F n k) ∧ wr = W6) (fun _ _ _ _ i _ => 1536 - (intOf i).toNat)
      case atStart => exact ⟨0, by omega, rfl, rfl, rfl, rfl, rfl, rfl⟩
      case round =>
        obtain ⟨k, hk, rfl, rfl, rfl, rfl, rfl, rfl⟩ := hrel
        by_cases hlt : k < 1536
        · have hG := get_in _ _ (k % 512) (pick3 f0 f1 f2 (k / 512)) wr (by omega) (HR5.out (k / 512) (by omega))
          rw [← HF.out k hlt] at hG
          have hd : ((k : Int)).tdiv 512 = ((k / 512 : Nat) : Int) := by rw [Int.tdiv_eq_ediv_of_nonneg (by omega)]; rfl
          have hd2 : ((k : Int)) / 512 = ((k / 512 : Nat) : Int) := rfl
          have hm : ((k : Int)).tmod 512 = ((k % 512 : Nat) : Int) := by rw [Int.tmod_eq_emod_of_nonneg (by omega)]; rfl
          have hm2 : ((k : Int)) % 512 = ((k % 512 : Nat) : Int) := rfl
          have hq : k / 512 < 3 := by omega
          have hme := maxS_le F k
          have hse := startS_le F k
          have hee := endS_le F k
          have HG := Lib.hid hG
          clear hG
          generalize k / 512 = q at *
          generalize k % 512 = t at *
          cases hf : F k
          · rw [hf] at HG
            have HE := Lib.hid (endS_o F k hf)
            have HM := Lib.hid (maxS_o F k hf)
            have HS := Lib.hid (startS_o F k hf)
            have HN := Lib.hid (show firstN F n (k + 1) = if ((endS F k + 1 : Nat) : Int) = n ∧ firstN F n k < 0 then (k : Int) - n + 1 else firstN F n k by show (if F k = true then _ else _) = _; rw [if_neg (by rw [hf]; decide)])
            clear hf
            generalize endS F k = e at *
            generalize maxS F k = m at *
            generalize startS F k = s at *
            generalize firstN F n k = fi at *
            by_cases hs : e = k
            · have k1 : ((e : Int) + 1 == (k : Int) + 1) = true := by simp; omega
              by_cases hmm : m < e + 1
              · have k2 : decide ((m : Int) < (e : Int) + 1) = true := decide_eq_true (by omega)
                by_cases hn : (e : Int) + 1 = n
                · have k3 : ((e : Int) + 1 == n) = true := by simpa using hn
                  by_cases hfi : fi < 0
                  · have k4 : decide (fi < 0) = true := decide_eq_true hfi
                    go_wp2_with (first | (go_at_call 22; refine HG.out.mono ?_; rintro r w3 ⟨rfl, rfl⟩) | fail)
                    go_roundw
                    case rel => exact ⟨k + 1, by omega, by go_num, by rw [HS.out]; rw [if_pos hs]; go_num, by rw [HM.out]; rw [show max m (e + 1) = e + 1 by omega]; go_num, by rw [HE.out]; go_num, by rw [HN.out]; rw [if_pos ⟨by omega, hfi⟩], trivial⟩
                    case measure => simp [intOf]; omega
                  · have k4 : decide (fi < 0) = false := decide_eq_false hfi
                    go_wp2_with (first | (go_at_call 22; refine HG.out.mono ?_; rintro r w3 ⟨rfl, rfl⟩) | fail)
                    go_roundw
                    case rel => exact ⟨k + 1, by omega, by go_num, by rw [HS.out]; rw [if_pos hs]; go_num, by rw [HM.out]; rw [show max m (e + 1) = e + 1 by omega]; go_num, by rw [HE.out]; go_num, by rw [HN.out]; rw [if_neg (fun h => by omega)], trivial⟩
                    case measure => simp [intOf]; omega
                · have k3 : ((e : Int) + 1 == n) = false := by simpa using hn
                  go_wp2_with (first | (go_at_call 22; refine HG.out.mono ?_; rintro r w3 ⟨rfl, rfl⟩) | fail)
                  go_roundw
                  case rel => exact ⟨k + 1, by omega, by go_num, by rw [HS.out]; rw [if_pos hs]; go_num, by rw [HM.out]; rw [show max m (e + 1) = e + 1 by omega]; go_num, by rw [HE.out]; go_num, by rw [HN.out]; rw [if_neg (fun h => by omega)], trivial⟩
                  case measure => simp [intOf]; omega
              · have k2 : decide ((m : Int) < (e : Int) + 1) = false := decide_eq_false (by omega)
                exfalso; omega
            · have k1 : ((e : Int) + 1 == (k : Int) + 1) = false := by simp; omega
              by_cases hmm : m < e + 1
              · have k2 : decide ((m : Int) < (e : Int) + 1) = true := decide_eq_true (by omega)
                by_cases hn : (e : Int) + 1 = n
                · have k3 : ((e : Int) + 1 == n) = true := by simpa using hn
                  by_cases hfi : fi < 0
                  · have k4 : decide (fi < 0) = true := decide_eq_true hfi
                    go_wp2_with (first | (go_at_call 22; refine HG.out.mono ?_; rintro r w3 ⟨rfl, rfl⟩) | fail)
                    go_roundw
                    case rel => exact ⟨k + 1, by omega, by go_num, by rw [HS.out]; rw [if_neg hs], by rw [HM.out]; rw [show max m (e + 1) = e + 1 by omega]; go_num, by rw [HE.out]; go_num, by rw [HN.out]; rw [if_pos ⟨by omega, hfi⟩], trivial⟩
                    case measure => simp [intOf]; omega
                  · have k4 : decide (fi < 0) = false := decide_eq_false hfi
                    go_wp2_with (first | (go_at_call 22; refine HG.out.mono ?_; rintro r w3 ⟨rfl, rfl⟩) | fail)
                    go_roundw
                    case rel => exact ⟨k + 1, by omega, by go_num, by rw [HS.out]; rw [if_neg hs], by rw [HM.out]; rw [show max m (e + 1) = e + 1 by omega]; go_num, by rw [HE.out]; go_num, by rw [HN.out]; rw [if_neg (fun h => by omega)], trivial⟩
                    case measure => simp [intOf]; omega
                · have k3 : ((e : Int) + 1 == n) = false := by simpa using hn
                  go_wp2_with (first | (go_at_call 22; refine HG.out.mono ?_; rintro r w3 ⟨rfl, rfl⟩) | fail)
                  go_roundw
                  case rel => exact ⟨k + 1, by omega, by go_num, by rw [HS.out]; rw [if_neg hs], by rw [HM.out]; rw [show max m (e + 1) = e + 1 by omega]; go_num, by rw [HE.out]; go_num, by rw [HN.out]; rw [if_neg (fun h => by omega)], trivial⟩
                  case measure => simp [intOf]; omega
              · have k2 : decide ((m : Int) < (e : Int) + 1) = false := decide_eq_false (by omega)
                by_cases hn : (e : Int) + 1 = n
                · have k3 : ((e : Int) + 1 == n) = true := by simpa using hn
                  by_cases hfi : fi < 0
                  · have k4 : decide (fi < 0) = true := decide_eq_true hfi
                    go_wp2_with (first | (go_at_call 22; refine HG.out.mono ?_; rintro r w3 ⟨rfl, rfl⟩) | fail)
                    go_roundw
                    case rel => exact ⟨k + 1, by omega, by go_num, by rw [HS.out]; rw [if_neg hs], by rw [HM.out]; rw [show max m (e + 1) = m by omega], by rw [HE.out]; go_num, by rw [HN.out]; rw [if_pos ⟨by omega, hfi⟩], trivial⟩
                    case measure => simp [intOf]; omega
                  · have k4 : decide (fi < 0) = false := decide_eq_false hfi
                    go_wp2_with (first | (go_at_call 22; refine HG.out.mono ?_; rintro r w3 ⟨rfl, rfl⟩) | fail)
                    go_roundw
                    case rel => exact ⟨k + 1, by omega, by go_num, by rw [HS.out]; rw [if_neg hs], by rw [HM.out]; rw [show max m (e + 1) = m by omega], by rw [HE.out]; go_num, by rw [HN.out]; rw [if_neg (fun h => by omega)], trivial⟩
                    case measure => simp [intOf]; omega
                · have k3 : ((e : Int) + 1 == n) = false := by simpa using hn
                  go_wp2_with (first | (go_at_call 22; refine HG.out.mono ?_; rintro r w3 ⟨rfl, rfl⟩) | fail)
                  go_roundw
                  case rel => exact ⟨k + 1, by omega, by go_num, by rw [HS.out]; rw [if_neg hs], by rw [HM.out]; rw [show max m (e + 1) = m by omega], by rw [HE.out]; go_num, by rw [HN.out]; rw [if_neg (fun h => by omega)], trivial⟩
                  case measure => simp [intOf]; omega
          · rw [hf] at HG
            have HE := Lib.hid (endS_h F k hf)
            have HM := Lib.hid (maxS_h F k hf)
            have HS := Lib.hid (startS_h F k hf)
            have HN := Lib.hid (show firstN F n (k + 1) = firstN F n k by show (if F k = true then _ else _) = _; rw [if_pos hf])
            clear hf
            generalize endS F k = e at *
            generalize maxS F k = m at *
            generalize startS F k = s at *
            generalize firstN F n k = fi at *
            go_wp2_with (first | (go_at_call 22; refine HG.out.mono ?_; rintro r w3 ⟨rfl, rfl⟩) | fail)
            go_roundw
            case rel => exact ⟨k + 1, by omega, by go_num, by rw [HS.out], by rw [HM.out], by rw [HE.out]; rfl, by rw [HN.out], trivial⟩
            case measure => simp [intOf]; omega
        · obtain rfl : k = 1536 := by omega
          have he := HE.out
          unfold smF at he
          injection he with e1 e2 e3
          rw [e1, e2, e3]
          clear e1 e2 e3
          have wn2 := i64_of0 wn
          have hfit := fits_any _ _ 512 n wr HL5.out wn2.2
          rw [HFT.out] at hfit
          by_cases hn : 1 ≤ n
          · rw [if_pos hn] at hfit
            obtain ⟨nn, rfl⟩ : ∃ m : Nat, n = m := ⟨n.toNat, by omega⟩
            have hok := rows_fit F nn (by omega)
            generalize firstN F nn 1536 = fi at *
            generalize fitsRec 512 nn (rowsL F) 0 0 = o at *
            rcases hok with ⟨rfl, rfl⟩ | ⟨a, b, rfl, rfl, hab, hb, hor⟩
            · skip
              have hfit : Calls Try.prog 13 #[.slice pv 3 capv, .int .i64 512, .int .i64 (nn : Nat)] wr fun r w' => r = .returned (.tuple #[.int .i64 0, .bool false, .int .i64 0]) ∧ Ext wr w' := hfit
              have HFi := Lib.hid hfit
              clear hfit
              go_wp2_with (first
                | (go_at_call 13; refine HFi.out.mono ?_; rintro r w7 ⟨rfl, hx⟩; have H7 := Lib.hid (HX5.out.trans hx); clear hx HX5)
                | (go_at_call 16; refine (awake_any _).mono ?_; rintro r w9 ⟨rfl, hx⟩; have H9 := Lib.hid (H7.out.trans hx); clear hx H7)
                | fail)
              go_ret
              exact ⟨rfl, H9.out⟩
            · by_cases hq : a = b
              · subst hq
                have hfit : Calls Try.prog 13 #[.slice pv 3 capv, .int .i64 512, .int .i64 (nn : Nat)] wr fun r w' => r = .returned (.tuple #[.int .i64 a, .bool true, .int .i64 0]) ∧ Ext wr w' := hfit
                have HFi := Lib.hid hfit
                clear hfit
                go_wp2_with (first
                  | (go_at_call 13; refine HFi.out.mono ?_; rintro r w7 ⟨rfl, hx⟩; have H7 := Lib.hid (HX5.out.trans hx); clear hx HX5)
                  | (go_at_call 16; refine (awake_any _).mono ?_; rintro r w9 ⟨rfl, hx⟩; have H9 := Lib.hid (H7.out.trans hx); clear hx H7)
                  | fail)
                go_ret
                exact ⟨rfl, H9.out⟩
              · have hor := hor.resolve_left hq
                have k1 : ((a : Int) == (b : Int)) = false := by simp; omega
                have k2 : ((a : Int)).tmod 512 = 0 := by rw [Int.tmod_eq_emod_of_nonneg (by omega)]; omega
                have k3 : ((a : Int)) % 512 = 0 := by omega
                have k4 : decide ((b : Int) < (a : Int) + 512) = true := decide_eq_true (by omega)
                have hfit : Calls Try.prog 13 #[.slice pv 3 capv, .int .i64 512, .int .i64 (nn : Nat)] wr fun r w' => r = .returned (.tuple #[.int .i64 a, .bool true, .int .i64 0]) ∧ Ext wr w' := hfit
                have HFi := Lib.hid hfit
                clear hfit
                go_wp2_with (first
                  | (go_at_call 13; refine HFi.out.mono ?_; rintro r w7 ⟨rfl, hx⟩; have H7 := Lib.hid (HX5.out.trans hx); clear hx HX5)
                  | (go_at_call 16; refine (awake_any _).mono ?_; rintro r w9 ⟨rfl, hx⟩; have H9 := Lib.hid (H7.out.trans hx); clear hx H7)
                  | fail)
                go_ret
                exact ⟨rfl, H9.out⟩
          · rw [if_neg hn] at hfit
            have hfit : Calls Try.prog 13 #[.slice pv 3 capv, .int .i64 512, .int .i64 n] wr fun r w' => r = .returned (.tuple #[.int .i64 0, .bool false, .int .i64 1]) ∧ Ext wr w' := hfit
            have HFi := Lib.hid hfit
            clear hfit
            go_wp2_with (first
              | (go_at_call 13; refine HFi.out.mono ?_; rintro r w7 ⟨rfl, hx⟩; have H7 := Lib.hid (HX5.out.trans hx); clear hx HX5)
              | (go_at_call 16; refine (awake_any _).mono ?_; rintro r w9 ⟨rfl, hx⟩; have H9 := Lib.hid (H7.out.trans hx); clear hx H7)
              | fail)
            go_ret
            exact ⟨rfl, H9.out⟩

end Go.Proofs.Ytbfnadfbanhgcaa
