/- The plain law of SchedEnds. -/
import Derived.Test.YtfgfbmmidijgoaaRowS
namespace Go.Proofs.Ytfgfbmmidijgoaa
open Go.RowKit
set_option linter.unusedVariables false

def adT (n : Nat) : List St := List.replicate n ⟨3, 1, 2⟩
def enT : List St := [⟨2, 1, 0⟩, ⟨5, 9, 0⟩]
def edT (n : Nat) : List St := adT n ++ enT
structure EndI (n k : Nat) (s : Sc) : Prop where
  ts : s.ts = [edT (n - k)]
  over : s.over = false
  lk : s.lk = noM
  out : s.out = []
  cl : (s.cl 1).getD 0 = 2 * k
theorem EndI.start (n : Nat) : EndI n 0 (sc0 [edT n]) := ⟨rfl, rfl, rfl, rfl, rfl⟩
theorem EndI.step {n k : Nat} {s : Sc} (h : EndI n k s) (hk : k < n) (hn : n ≤ 30) (pick : Int) : (goR s pick).1 = 0 ∧ (goR s pick).2.1 = 0 ∧ EndI n (k + 1) (goR s pick).2.2 := by
  obtain ⟨m, hm⟩ : ∃ m, n - k = m + 1 := ⟨n - k - 1, by omega⟩
  have e : edT (n - k) = ⟨3, 1, 2⟩ :: edT m := by rw [hm]; rfl
  have hts := h.ts
  rw [e] at hts
  have hg := goR_one hts h.over rfl pick
  rw [if_neg (by simp)] at hg
  rw [hg]
  refine ⟨rfl, rfl, ⟨?_, h.over, h.lk, h.out, ?_⟩⟩
  · show s.ts.set 0 (edT m) = _
    rw [hts, show n - (k + 1) = m by omega]; rfl
  · show (updM s.cl 1 (some (IntKind.i64.wrap ((s.cl 1).getD 0 + 2))) 1).getD 0 = _
    rw [h.cl]
    show IntKind.i64.wrap (2 * k + 2) = _
    rw [IntKind.wrap_i64]
    omega
theorem EndI.last {n : Nat} {s : Sc} (h : EndI n n s) (pick : Int) : goR s pick = (0, 20, { s with over := true }) := by
  have hts := h.ts
  rw [Nat.sub_self] at hts
  rw [goR_one (x := ⟨2, 1, 0⟩) (r := [⟨5, 9, 0⟩]) hts h.over rfl pick, h.lk]
  rfl
theorem ed_wf (n : Nat) : ∀ i x, x ∈ [edT n].getD i [] → (Lit.int .i64 x.a).wf = true ∧ (Lit.int .i64 x.b).wf = true := by
  intro i x hx
  match i with
  | 0 =>
    have hx : x ∈ adT n ++ enT := hx
    rcases List.mem_append.1 hx with hx | hx
    · obtain rfl := (List.mem_replicate.1 hx).2
      exact ⟨by decide, by decide⟩
    · simp [enT] at hx
      rcases hx with rfl | rfl <;> exact ⟨by decide, by decide⟩
  | i + 1 => simp at hx
theorem ed_ok (n : Nat) : okTs [edT n] = true := by
  unfold okTs edT adT
  simp [List.all_append, okSt, enT]
theorem ed_len (n : Nat) : (edT n).length = n + 2 := by simp [edT, adT, enT]
theorem ed_total (n : Nat) : total [edT n] = n + 2 := by show (edT n).length + 0 = _; rw [ed_len]

theorem ad_snoc (k : Nat) : stsL (adT k) ++ [.int .i64 3, .int .i64 1, .int .i64 2] = stsL (adT (k + 1)) := by
  have : adT (k + 1) = adT k ++ [⟨3, 1, 2⟩] := by unfold adT; rw [List.replicate_succ']
  rw [this, stsL_append]; rfl
theorem ad_len (k : Nat) : (adT k).length = k := by simp [adT]

def EndW (W w : World) (b n k : Nat) : Prop := ∃ s, SchG W w b (fun _ => False) s ∧ EndI n k s
def EndO (W w : World) (b n : Nat) : Prop := ∃ s, SchG W w b (fun _ => False) s ∧ s.over = true ∧ s.ts = [enT] ∧ s.out = [] ∧ (s.cl 1).getD 0 = 2 * n
theorem EndO.ext {W w : World} {b n : Nat} (h : EndO W w b n) : Ext W w := by obtain ⟨s, h, -⟩ := h; exact h.ext
theorem EndO.later {W w w' : World} {b n : Nat} (h : EndO W w b n) (hx : Ext w w') : EndO W w' b n := by obtain ⟨s, h, h1⟩ := h; exact ⟨s, h.later hx, h1⟩
section
variable {W w : World} {b n k : Nat}
theorem end_go (h : EndW W w b n k) (hk : k < n) (hn : n ≤ 30) (pick : Int) :
    Calls Try.prog 14 #[.pointer (some ⟨b, 0, none⟩), .int .i64 pick] w fun e w' => e = .returned (.tuple #[.int .i64 0, .int .i64 0]) ∧ EndW W w' b n (k + 1) := by
  obtain ⟨s, h, hi⟩ := h
  refine (g_go h pick).mono ?_
  rintro e w' ⟨rfl, h', -⟩
  obtain ⟨e1, e2, hi'⟩ := hi.step hk hn pick
  rw [e1, e2]
  exact ⟨rfl, _, h', hi'⟩
theorem end_last (h : EndW W w b n n) (pick : Int) :
    Calls Try.prog 14 #[.pointer (some ⟨b, 0, none⟩), .int .i64 pick] w fun e w' => e = .returned (.tuple #[.int .i64 0, .int .i64 20]) ∧ EndO W w' b n := by
  obtain ⟨s, h, hi⟩ := h
  refine (g_go h pick).mono ?_
  rintro e w' ⟨rfl, h', -⟩
  rw [hi.last pick] at h' ⊢
  exact ⟨rfl, _, h', rfl, by have := hi.ts; rw [Nat.sub_self] at this; exact this, hi.out, hi.cl⟩
theorem end_again (h : EndO W w b n) (pick : Int) :
    Calls Try.prog 14 #[.pointer (some ⟨b, 0, none⟩), .int .i64 pick] w fun e w' => e = .returned (.tuple #[.int .i64 0, .int .i64 20]) ∧ EndO W w' b n := by
  obtain ⟨s, h, ho, hr⟩ := h
  refine (g_go h pick).mono ?_
  rintro e w' ⟨rfl, h', -⟩
  rw [goR_over ho pick] at h' ⊢
  exact ⟨rfl, _, h', ho, hr⟩
theorem end_left (h : EndO W w b n) :
    Calls Try.prog 18 #[.pointer (some ⟨b, 0, none⟩), .int .i64 0] w fun e w' => e = .returned (.tuple #[.int .i64 2, .int .i64 0]) ∧ EndO W w' b n := by
  obtain ⟨s, h, ho, ht, hr⟩ := h
  refine (g_left h 0 (by decide)).mono ?_
  rintro e w' ⟨rfl, hx⟩
  have e : leftI s 0 = (2, 0) := by unfold leftI; rw [ht]; rfl
  rw [e]
  exact ⟨rfl, s, h.later hx, ho, ht, hr⟩
theorem own_len0 {w : World} {B : Nat} {e : TypeId} {v : Value} {xs : List Value} (h : w.ownsRow B e 1 v 0 xs) : ∃ p cap, v = .slice p 0 cap := by
  obtain ⟨p, cap, e, -⟩ := owns_form h
  exact ⟨p, cap, e⟩
theorem end_enabled (h : EndO W w b n) : Calls Try.prog 13 #[.pointer (some ⟨b, 0, none⟩)] w fun r w' => ∃ p cap, r = .returned (.slice p 0 cap) ∧ EndO W w' b n := by
  obtain ⟨s, h, ho, hr⟩ := h
  refine (g_enabled h).mono ?_
  rintro r w' ⟨v, rfl, hown, hx⟩
  rw [enL_none ho] at hown
  obtain ⟨p, cap, rfl⟩ := own_len0 hown
  exact ⟨p, cap, rfl, s, h.later hx, ho, hr⟩
theorem end_said (h : EndO W w b n) : Calls Try.prog 15 #[.pointer (some ⟨b, 0, none⟩)] w fun r w' => ∃ p cap, r = .returned (.slice p 0 cap) ∧ EndO W w' b n := by
  obtain ⟨s, h, ho, ht, hs, hr⟩ := h
  refine (g_said h).mono ?_
  rintro r w' ⟨v, rfl, hown, hx⟩
  rw [hs] at hown
  obtain ⟨p, cap, rfl⟩ := own_len0 hown
  exact ⟨p, cap, rfl, s, h.later hx, ho, ht, hs, hr⟩
theorem end_cell (h : EndO W w b n) : Calls Try.prog 17 #[.pointer (some ⟨b, 0, none⟩), .int .i64 1] w fun r w' => r = .returned (.int .i64 (2 * n)) ∧ EndO W w' b n := by
  obtain ⟨s, h, ho, ht, hs, hr⟩ := h
  refine (g_cell h 1 (by decide)).mono ?_
  rintro r w' ⟨rfl, hx⟩
  rw [hr]
  exact ⟨rfl, s, h.later hx, ho, ht, hs, hr⟩
end

set_option maxRecDepth 20000 in
set_option maxHeartbeats 8000000 in
theorem walk_SchedEnds (n : Int) (wn : (Lit.int .i64 n).wf = true) (pick : Int) (wp : (Lit.int .i64 pick).wf = true) (W : World) :
    Calls Try.prog 9 #[.int .i64 n, .int .i64 pick] W fun e W' => e = .returned (.bool true) ∧ Ext W W' := by
  obtain ⟨i0, hi0, hz0, hz1, hz2⟩ := info_parts step_info
  by_cases h0 : n < 0
  · go_enter Try.func9, Try.ntmps9
    go_wp2
    go_ret
    exact ⟨rfl, Ext.refl _⟩
  by_cases h30 : 30 < n
  · go_enter Try.func9, Try.ntmps9
    go_wp2
    go_ret
    exact ⟨rfl, Ext.refl _⟩
  obtain ⟨n, rfl⟩ : ∃ m : Nat, n = m := ⟨n.toNat, by omega⟩
  have h30 : n ≤ 30 := by omega
  clear h0 wn wp
  go_enter Try.func9, Try.ntmps9
  go_wp2
  go_loopw [5, 6] (fun v i wr => ∃ k : Nat, k ≤ n ∧ i = .int .i64 k ∧ Hid (Ext W wr ∧ wr.ownsRow W.heap.size 25 3 v k (stsL (adT k)))) (fun _ i _ => n - (intOf i).toNat)
  case atStart => exact ⟨0, by omega, rfl, Lib.hid ⟨Ext.refl _, owns_nil _ _ _ _⟩⟩
  case round =>
    obtain ⟨k, hk, rfl, hR⟩ := hrel
    obtain ⟨p, cap, rfl, -, -, -⟩ := owns_form hR.out.2
    by_cases hlt : k < n
    · go_wp2_with (first | (at_builtin; refine wpList_append_all W.heap.size _ rfl (.tmp 29) (.tmp 31) 23 rfl 25 i0 _ 3 24 Try.underlying23 hi0 hz0 hz1 hz2 rfl (by decide) _ _ _ (by rfl) (by exact owns_later hR.out.2 (((Ext.refl _).alloc _ _).below)) (.slice (some ⟨wr.heap.size, 0, none⟩) 1 1) 1 [.int .i64 3, .int .i64 1, .int .i64 2] (by rfl) (by exact src_one wr [.int .i64 3, .int .i64 1, .int .i64 2] _ 3 rfl) (by intro u hu; simp at hu; rcases hu with rfl | rfl | rfl <;> rfl) (by unfold maxLen; omega) (by omega) (by have := hR.out.1.size; simp; omega) ?_) | fail)
      intro v' w2 hown hc _
      rw [ad_snoc] at hown
      have HN := Lib.hid (show Ext W w2 ∧ w2.ownsRow W.heap.size 25 3 v' (k + 1) (stsL (adT (k + 1))) from ⟨hc.ext (hR.out.1.alloc _ _) fun i hi => (owns_lt hR.out.2 i hi).1, hown⟩)
      obtain ⟨p', cap', rfl, -, -, -⟩ := owns_form hown
      clear hown hc hR
      go_wp2_with fail
      go_roundw
      case rel => exact ⟨k + 1, by omega, by go_num, HN⟩
      case measure => simp [intOf]; omega
    · obtain rfl : k = n := by omega
      go_wp2_with (first | (at_builtin; refine wpList_append_all W.heap.size _ rfl (.tmp 33) (.tmp 36) 23 rfl 25 i0 _ 3 24 Try.underlying23 hi0 hz0 hz1 hz2 rfl (by decide) _ _ _ (by rfl) (by exact owns_later hR.out.2 (((Ext.refl _).alloc _ _).below)) (.slice (some ⟨wr.heap.size, 0, none⟩) 2 2) 2 [.int .i64 2, .int .i64 1, .int .i64 0, .int .i64 5, .int .i64 9, .int .i64 0] (by rfl) (by exact src_many wr [.int .i64 2, .int .i64 1, .int .i64 0, .int .i64 5, .int .i64 9, .int .i64 0] _ 3 2 rfl) (by intro u hu; simp at hu; rcases hu with rfl | rfl | rfl | rfl | rfl | rfl <;> rfl) (by unfold maxLen; omega) (by omega) (by have := hR.out.1.size; simp; omega) ?_) | fail)
      intro v' w2 hown hc _
      have hown : w2.ownsRow W.heap.size 25 3 v' (edT k).length (stsL (edT k)) := by
        rw [ed_len]; unfold edT; rw [stsL_append]; exact hown
      have HN := Lib.hid (show Ext W w2 from hc.ext (hR.out.1.alloc _ _) fun i hi => (owns_lt hR.out.2 i hi).1)
      have HO := Lib.hid hown
      obtain ⟨p', cap', rfl, -, -, -⟩ := owns_form hown
      rw [ed_len]
      have hst : StRow (w2.alloc (.cells #[.slice p' (k + 2) cap'] 23)) (fun g => g < (w2.alloc (.cells #[.slice p' (k + 2) cap'] 23)).heap.size) (.slice p' (k + 2) cap') (edT k) := by
        have h := HO.out
        rw [ed_len] at h
        have h1 := strow_own (F := fun g => g < w2.heap.size) HO.out fun g hg => (owns_lt HO.out g hg).2
        rw [ed_len] at h1
        have hx := (Ext.refl w2).alloc #[.slice p' (k + 2) cap'] 23
        exact (h1.later (fun _ h => h) hx).mono fun g hg => Nat.lt_of_lt_of_le hg hx.size
      have HT := Lib.hid (tsin_blk (ts := [edT k]) (n := 1) (Blk.new w2 23 #[.slice p' (k + 2) cap']) rfl (fun i hi => by
        obtain rfl : i = 0 := by simpa using hi
        exact ⟨_, rfl, hst⟩) 1)
      clear hown hc hR hst
      go_wp2_with (first | (go_at_call 11; refine (g_new (W := W) (R := fun _ => False) (HN.out.alloc _ _) (fun _ h => h.elim) [edT k] _ HT.out (by show 1 ≤ 1000; omega) (by rw [ed_total]; omega) (ed_wf k) (by show 1 ≤ 64; omega) (by rw [ed_total]; omega) (ed_ok k)).mono ?_; rintro r w1 ⟨b, rfl, h, -⟩; have H1 := Lib.hid (show EndW W w1 b k 0 from ⟨_, h, EndI.start k⟩); clear h))
      go_loopw [9] (fun i wr => ∃ j : Nat, j ≤ k ∧ i = .int .i64 j ∧ Hid (EndW W wr b k j)) (fun i _ => k - (intOf i).toNat)
      case atStart => exact ⟨0, by omega, rfl, H1⟩
      case round =>
        obtain ⟨j, hj, rfl, hI⟩ := hrel
        by_cases hlt : j < k
        · go_wp2_with (first | (go_at_call 14; refine (end_go hI.out hlt (by omega) pick).mono ?_; rintro r w3 ⟨rfl, h⟩; have H3 := Lib.hid h; clear h))
          go_roundw
          case rel => exact ⟨j + 1, by omega, by go_num, H3⟩
          case measure => simp [intOf]; omega
        · obtain rfl : j = k := by omega
          go_wp2_with (first
            | (go_at_call 14; refine (end_last hI.out pick).mono ?_; rintro r w3 ⟨rfl, h⟩; have H3 := Lib.hid h; clear h hI)
            | (go_at_call 14; refine (end_again H3.out pick).mono ?_; rintro r w4 ⟨rfl, h⟩; have H4 := Lib.hid h; clear h H3)
            | (go_at_call 18; refine (end_left H4.out).mono ?_; rintro r w5 ⟨rfl, h⟩; have H5 := Lib.hid h; clear h H4)
            | (go_at_call 13; refine (end_enabled H5.out).mono ?_; rintro r w6 ⟨p6, cap6, rfl, h⟩; have H6 := Lib.hid h; clear h H5)
            | (go_at_call 15; refine (end_said H6.out).mono ?_; rintro r w7 ⟨p7, cap7, rfl, h⟩; have H7 := Lib.hid h; clear h H6)
            | (go_at_call 17; refine (end_cell H7.out).mono ?_; rintro r w8 ⟨rfl, h⟩; have H8 := Lib.hid h; clear h H7)
            | (go_at_call 12; refine (awake_any _).mono ?_; rintro r w9 ⟨rfl, hx⟩; have H9 := Lib.hid (H8.out.ext.trans hx); clear hx H8))
          go_ret
          exact ⟨rfl, H9.out⟩

end Go.Proofs.Ytfgfbmmidijgoaa
