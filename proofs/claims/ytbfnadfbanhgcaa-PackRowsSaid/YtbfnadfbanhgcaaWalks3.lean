/- The contract of pack.Fits. -/
import Derived.Test.YtbfnadfbanhgcaaWalks2
namespace Go.Proofs.Ytbfnadfbanhgcaa
open Go.RowKit
set_option linter.unusedVariables false

/-- where so many free pages are looked for, from row i on, 'run' free pages right ahead of it. -/
def fitsRec (p n : Int) : List Sm → Int → Int → Option Int
  | [], _, _ => none
  | x :: r, i, run => if 0 < run ∧ n - run ≤ x.s then some (i * p - run) else if n ≤ x.m then some (i * p) else fitsRec p n r (i + 1) (if x.s = p then run + p else x.e)

theorem fits_no (v : Value) (l : List Sm) (p n : Int) (w : World) (h : SlAt w v l) (hr : rightsB l p = false) :
    Calls Try.prog 13 #[v, .int .i64 p, .int .i64 n] w fun r w' => r = .returned (.tuple #[.int .i64 0, .bool false, .int .i64 1]) ∧ Ext w w' := by
  have H := Lib.hid h
  clear h
  go_enter Try.func13, Try.ntmps13
  go_wp2_with (go_at_call 23; refine (rights_any _ l _ _ H.out).mono ?_; rintro e w1 ⟨rfl, hg1⟩)
  go_ret3
  exact ⟨rfl, hg1⟩

theorem fits_low (v : Value) (l : List Sm) (p n : Int) (w : World) (h : SlAt w v l) (hr : rightsB l p = true) (hn : n < 1) :
    Calls Try.prog 13 #[v, .int .i64 p, .int .i64 n] w fun r w' => r = .returned (.tuple #[.int .i64 0, .bool false, .int .i64 1]) ∧ Ext w w' := by
  have H := Lib.hid h
  clear h
  go_enter Try.func13, Try.ntmps13
  go_wp2_with (go_at_call 23; refine (rights_any _ l _ _ H.out).mono ?_; rintro e w1 ⟨rfl, hg1⟩)
  go_ret3
  exact ⟨rfl, hg1⟩

theorem fits_nil (p n : Int) (w : World) (hr : rightsB [] p = true) (hn : 1 ≤ n) :
    Calls Try.prog 13 #[.slice none 0 0, .int .i64 p, .int .i64 n] w fun r w' => r = .returned (.tuple #[.int .i64 0, .bool false, .int .i64 0]) ∧ Ext w w' := by
  have H : Hid (SlAt w (.slice none 0 0) []) := Lib.hid (Or.inl ⟨rfl, rfl⟩)
  go_enter Try.func13, Try.ntmps13
  go_wp2_with (go_at_call 23; refine (rights_any _ [] _ _ H.out).mono ?_; rintro e w1 ⟨rfl, hg1⟩)
  refine wp_loop_rounds 1 ?_
  rw [rounds_succ]
  go_wp2
  go_ret3
  exact ⟨rfl, hg1⟩

def fitsTuple (o : Option Int) : Value := match o with
  | some i => .tuple #[.int .i64 i, .bool true, .int .i64 0]
  | none => .tuple #[.int .i64 0, .bool false, .int .i64 0]

theorem fits_hit {p n i run : Int} {x : Sm} {r : List Sm} (h : 0 < run ∧ n - run ≤ x.s) : fitsRec p n (x :: r) i run = some (i * p - run) := by
  show (if 0 < run ∧ n - run ≤ x.s then some (i * p - run) else _) = _; rw [if_pos h]
theorem fits_own {p n i run : Int} {x : Sm} {r : List Sm} (h : ¬ (0 < run ∧ n - run ≤ x.s)) (h2 : n ≤ x.m) : fitsRec p n (x :: r) i run = some (i * p) := by
  show (if 0 < run ∧ n - run ≤ x.s then some (i * p - run) else if n ≤ x.m then some (i * p) else _) = _; rw [if_neg h, if_pos h2]
theorem fits_on {p n i run : Int} {x : Sm} {r : List Sm} (h : ¬ (0 < run ∧ n - run ≤ x.s)) (h2 : ¬ n ≤ x.m) : fitsRec p n (x :: r) i run = fitsRec p n r (i + 1) (if x.s = p then run + p else x.e) := by
  show (if 0 < run ∧ n - run ≤ x.s then some (i * p - run) else if n ≤ x.m then some (i * p) else _) = _; rw [if_neg h, if_neg h2]

theorem drop_cons {l : List Sm} {k : Nat} (h : k < l.length) : l.drop k = l[k] :: l.drop (k + 1) := List.drop_eq_getElem_cons h

set_option maxHeartbeats 2000000 in
theorem fits_yes (b off cap : Nat) (l : List Sm) (p n : Int) (w : World) (hb : b < w.heap.size) (h : SumsAt w b off l) (hr : rightsB l p = true) (hp : 1 ≤ p) (hp2 : p ≤ 2097152) (hl : l.length ≤ 64) (hn : 1 ≤ n) (hn2 : n ≤ 9223372036854775807)
    (hfit : ∀ k, (hk : k < l.length) → 0 ≤ l[k].s ∧ l[k].s ≤ p ∧ 0 ≤ l[k].e ∧ l[k].e ≤ p ∧ 0 ≤ l[k].m ∧ l[k].m ≤ p) :
    Calls Try.prog 13 #[.slice (some ⟨b, off, none⟩) l.length cap, .int .i64 p, .int .i64 n] w fun r w' => r = .returned (fitsTuple (fitsRec p n l 0 0)) ∧ Ext w w' := by
  have H : Hid (SlAt w (.slice (some ⟨b, off, none⟩) l.length cap) l) := Lib.hid (Or.inr ⟨b, off, cap, rfl, hb, h⟩)
  have HF := Lib.hid hfit
  have HC := Lib.hid h
  clear h hfit
  go_enter Try.func13, Try.ntmps13
  go_wp2_with (go_at_call 23; refine (rights_any _ l _ _ H.out).mono ?_; rintro e w1 ⟨rfl, hg1⟩)
  go_loopw [9, 22] (fun u i wr => ∃ (k : Nat) (run : Int), k ≤ l.length ∧ u = .int .i64 run ∧ i = .int .i64 k ∧ Ext w wr ∧ 0 ≤ run ∧ run ≤ k * p ∧ Hid (fitsRec p n l 0 0 = fitsRec p n (l.drop k) k run)) (fun _ i _ => l.length - (intOf i).toNat)
  case atStart => exact ⟨0, 0, Nat.zero_le _, rfl, rfl, hg1, by omega, by omega, Lib.hid rfl⟩
  case round =>
    obtain ⟨k, run, hk, rfl, rfl, hx, r0, r1, hf⟩ := hrel
    by_cases hlt : k < l.length
    · obtain ⟨c1', c2', c3'⟩ := HC.out k hlt
      have c1 := (hx.cell b _ hb).trans c1'
      have c2 := (hx.cell b _ hb).trans c2'
      have c3 := (hx.cell b _ hb).trans c3'
      clear c1' c2' c3'
      have hzr : b < wr.heap.size := Nat.lt_of_lt_of_le hb hx.size
      have hnext : Ext w (wr.alloc (.cells #[.int .i64 l[k].s, .int .i64 l[k].m, .int .i64 l[k].e] 25)) := hx.alloc _ _
      obtain ⟨v0, v1, v2, v3, v4, v5⟩ := HF.out k hlt
      have hkp : (k : Int) * p ≤ 64 * 2097152 := Int.mul_le_mul (by omega) hp2 (by omega) (by omega)
      have hkp0 : 0 ≤ (k : Int) * p := Int.mul_nonneg (by omega) (by omega)
      have hkp1 : ((k + 1 : Nat) : Int) * p = k * p + p := by rw [Int.natCast_add, Int.add_mul]; simp
      have HK := Lib.hid hkp1
      clear hkp1
      have HD := Lib.hid hf.out
      rw [drop_cons hlt] at HD
      clear hf
      generalize l[k] = x at *
      obtain ⟨xs, xm, xe⟩ := x
      dsimp only at *
      by_cases h1 : 0 < run ∧ n - run ≤ xs
      · have HT := Lib.hid (HD.out.trans (fits_hit h1))
        obtain ⟨h1a, h1b⟩ := h1
        clear HD
        go_wp2
        go_ret3
        exact ⟨by rw [HT.out]; rfl, hnext⟩
      · by_cases h2 : n ≤ xm
        · have HT := Lib.hid (HD.out.trans (fits_own h1 h2))
          clear HD
          by_cases h3 : 0 < run
          · have h4 : xs < n - run := by omega
            clear h1
            go_wp2
            go_ret3
            exact ⟨by rw [HT.out]; rfl, hnext⟩
          · clear h1
            go_wp2
            go_ret3
            exact ⟨by rw [HT.out]; rfl, hnext⟩
        · have HT := Lib.hid (HD.out.trans (fits_on h1 h2))
          clear HD
          by_cases h5 : xs = p
          · have t5 : (xs == p) = true := by simpa using h5
            have HU : Hid (fitsRec p n l 0 0 = fitsRec p n (l.drop (k + 1)) ((k + 1 : Nat) : Int) (run + p)) := Lib.hid (by rw [HT.out, if_pos h5]; rfl)
            clear HT h5
            by_cases h3 : 0 < run
            · have h4 : xs < n - run := by omega
              clear h1
              go_wp2
              go_roundw
              case rel => exact ⟨k + 1, run + p, hlt, rfl, by go_num, hnext, by omega, by rw [HK.out]; omega, HU⟩
              case measure => simp [intOf]; omega
            · clear h1
              go_wp2
              go_roundw
              case rel => exact ⟨k + 1, run + p, hlt, rfl, by go_num, hnext, by omega, by rw [HK.out]; omega, HU⟩
              case measure => simp [intOf]; omega
          · have t5 : (xs == p) = false := by simpa using h5
            have HU : Hid (fitsRec p n l 0 0 = fitsRec p n (l.drop (k + 1)) ((k + 1 : Nat) : Int) xe) := Lib.hid (by rw [HT.out, if_neg h5]; rfl)
            clear HT h5
            by_cases h3 : 0 < run
            · have h4 : xs < n - run := by omega
              clear h1
              go_wp2
              go_roundw
              case rel => exact ⟨k + 1, xe, hlt, rfl, by go_num, hnext, by omega, by rw [HK.out]; omega, HU⟩
              case measure => simp [intOf]; omega
            · clear h1
              go_wp2
              go_roundw
              case rel => exact ⟨k + 1, xe, hlt, rfl, by go_num, hnext, by omega, by rw [HK.out]; omega, HU⟩
              case measure => simp [intOf]; omega
    · obtain rfl : k = l.length := by omega
      have HE : Hid (fitsRec p n l 0 0 = none) := Lib.hid (by rw [hf.out, List.drop_length]; rfl)
      clear hf
      go_wp2
      go_ret3
      exact ⟨by rw [HE.out]; rfl, hx⟩

end Go.Proofs.Ytbfnadfbanhgcaa
