/- The contract of a span's Sweep. -/
import Derived.Test.YticaamdghjfifaaDoorSweepP
namespace Go.Proofs.YticaamdghjfifaaDoor
open Go.RowKit
set_option linter.unusedVariables false

theorem span_int_info : (Tryd.prog.info? 3).map (fun i => (i.zero, i.size, i.bytes)) = some (some (.int .i64 0), 1, 8) := by kernel_rfl

/-- used and not marked. -/
def gB (U M : Nat → Bool) : Nat → Bool := fun j => U j && !M j
/-- used slots when the words before the k-th are swept. -/
def sU (U M : Nat → Bool) (k : Nat) : Nat → Bool := fun j => U j && (M j || decide (64 * k ≤ j))
def ints (l : List Nat) : List Value := l.map fun j => .int .i64 (j : Nat)
theorem ints_snoc (l : List Nat) (j : Nat) : ints (l ++ [j]) = ints l ++ [.int .i64 (j : Nat)] := by unfold ints; simp
theorem ints_len (l : List Nat) : (ints l).length = l.length := by unfold ints; simp

theorem sU_word (U M : Nat → Bool) (k : Nat) : word (sU U M k) k = word U k := word_congr fun j hj => by unfold sU; simp
theorem sU_minus (U M : Nat → Bool) (k : Nat) : word U k &&& (18446744073709551615 - word (gB U M) k) = word (sU U M (k + 1)) k := by
  rw [word_minus]
  refine word_congr fun j hj => ?_
  unfold gB sU
  rw [decide_eq_false (show ¬ 64 * (k + 1) ≤ 64 * k + j by omega)]
  cases U (64 * k + j) <;> cases M (64 * k + j) <;> rfl

structure SwRel (w wr : World) (b : Nat) (F : Nat → Prop) (s : Sp) (uv mv : Value) (nu nm : Nat) (U M : Nat → Bool) (v : Value) (k c : Nat) : Prop where
  span : SpanAt wr b s uv mv nu nm (sU U M k) M
  row : wr.ownsRow w.heap.size 3 1 v (swl (gB U M) c).length (ints (swl (gB U M) c))
  chg : Chg F w wr

section
variable {w wr w1 : World} {b : Nat} {F : Nat → Prop} {s : Sp} {uv mv v v' : Value} {nu nm : Nat} {U M : Nat → Bool} {k c : Nat}

theorem SwRel.start (h : SpanAt w b s uv mv nu nm U M) : SwRel w w b F s uv mv nu nm U M (.slice none 0 0) 0 (64 * 0) := by
  refine ⟨?_, owns_nil _ _ _ _, Chg.refl _ _⟩
  have : sU U M 0 = U := by funext j; unfold sU; simp
  rw [this]; exact h

theorem SwRel.clear (h : SwRel w wr b F s uv mv nu nm U M v k c) (hF : ∀ g, uv.ownBlock = some g → F g) (hlt : ∀ i, F i → i < w.heap.size) {g capu : Nat} (hu : uv = .slice (some ⟨g, 0, none⟩) nu capu) (hk : k < nu) (x : Nat) (hx : word (sU U M (k + 1)) k = x) : SwRel w (wr.setCell ⟨g, k, none⟩ (.int .u64 (x : Nat))) b F s uv mv nu nm U M v (k + 1) c := by
  have hg : uv.ownBlock = some g := by subst hu; rfl
  have hc : Chg (fun i => uv.ownBlock = some i) wr (wr.setCell ⟨g, k, none⟩ (.int .u64 (x : Nat))) := (Chg.refl (fun i => uv.ownBlock = some i) wr).setCell (p := ⟨g, k, none⟩) (.inl hg) _
  have hub : ¬ uv.ownBlock = some b := fun e => by have := (owns_lt h.span.urow.own b e).1; omega
  have hrow : WRow (wr.setCell ⟨g, k, none⟩ (.int .u64 (x : Nat))) (b + 1) uv nu (sU U M (k + 1)) := by
    have h0 := h.span.urow
    subst hu
    refine h0.set1 k hk x hx fun j hj => ?_
    unfold sU
    rw [show decide (64 * (k + 1) ≤ j) = decide (64 * k ≤ j) from decide_eq_decide.2 (by omega)]
  refine ⟨⟨fun i hi => (hc.cell h.span.lt hub).trans (h.span.cells i hi), fun i => (hc.frozen _).trans (h.span.fz i), Nat.lt_of_lt_of_le h.span.lt hc.size, hrow, h.span.mrow.chg hc fun i hi e => h.span.apart i e hi, h.span.apart⟩, owns_chg h.row hc fun i hi e => ?_, h.chg.trans hc fun i hi => .inl (hF i hi)⟩
  have h1 := (owns_lt h.row i hi).1
  have h2 := hlt i (hF i e)
  omega

theorem SwRel.skip (h : SwRel w wr b F s uv mv nu nm U M v k c) {d : Nat} (hcd : c ≤ d) (hz : ∀ i, c ≤ i → i < d → gB U M i = false) : SwRel w wr b F s uv mv nu nm U M v k d := by
  have e := swl_skip (gB U M) c (d - c) (fun i h1 h2 => hz i h1 (by omega))
  rw [show c + (d - c) = d by omega] at e
  refine ⟨h.span, ?_, h.chg⟩
  rw [e]; exact h.row

theorem SwRel.grown (h : SwRel w wr b F s uv mv nu nm U M v k c) (hF : ∀ g, (g = b ∨ uv.ownBlock = some g ∨ mv.ownBlock = some g) → F g) (hlt : ∀ i, F i → i < w.heap.size) {cs : Array Value} {t : TypeId} {j : Nat} (hcj : c ≤ j) (hj : gB U M j = true) (hz : ∀ i, c ≤ i → i < j → gB U M i = false)
    (hown : w1.ownsRow w.heap.size 3 1 v' ((swl (gB U M) c).length + 1) (ints (swl (gB U M) c) ++ [.int .i64 (j : Nat)])) (hc : Chg (fun i => v.ownBlock = some i) (wr.alloc (.cells cs t)) w1) : SwRel w w1 b F s uv mv nu nm U M v' k (j + 1) := by
  have hx : Chg (fun i => v.ownBlock = some i) wr w1 := ((Chg.refl (fun i => v.ownBlock = some i) wr).alloc _ _).trans hc (fun i hi => .inl hi)
  have hv : ∀ g, F g → ¬ v.ownBlock = some g := fun g hg e => by
    have h1 := (owns_lt h.row g e).1
    have h2 := hlt g hg
    omega
  refine ⟨⟨fun i hi => (hx.cell h.span.lt (hv b (hF b (.inl rfl)))).trans (h.span.cells i hi), fun i => (hx.frozen _).trans (h.span.fz i), Nat.lt_of_lt_of_le h.span.lt hx.size, h.span.urow.chg hx fun g hg => hv g (hF g (.inr (.inl hg))), h.span.mrow.chg hx fun g hg => hv g (hF g (.inr (.inr hg))), h.span.apart⟩, ?_, h.chg.trans hx fun i hi => .inr (owns_lt h.row i hi).1⟩
  rw [swl_step (gB U M) c j hcj hj hz, ints_snoc, List.length_append]
  exact hown
end

set_option maxRecDepth 20000 in
set_option maxHeartbeats 4000000 in
theorem sweep_at (b : Nat) (F : Nat → Prop) (s : Sp) (uv mv : Value) (nu nm : Nat) (U M : Nat → Bool) (w : World) (h : SpanAt w b s uv mv nu nm U M) (hF : ∀ g, (g = b ∨ uv.ownBlock = some g ∨ mv.ownBlock = some g) → F g) (hlt : ∀ i, F i → i < w.heap.size) (h0 : ¬ F 0) (hf : Fit s) (hd : s.state = 1) (hz : ∀ j, zB U M j = false) (hUs : ∀ j, U j = true → j < s.slots) (ht : TzAt w) :
    Calls Tryd.prog 15 #[.pointer (some ⟨b, 0, none⟩)] w fun r w' => ∃ v wr, r = .returned (.tuple #[v, .int .i64 0]) ∧ SwRel w wr b F s uv mv nu nm U M v nu (64 * nu) ∧ w' = ((wr.setCell ⟨b, 7, none⟩ (.int .i64 ((s.used : Int) - (swl (gB U M) (64 * nu)).length))).setCell ⟨b, 12, none⟩ (.slice none 0 0)).setCell ⟨b, 13, none⟩ (.int .i64 0) := by
  obtain ⟨i0, hi0, hz0, hz1, hz2⟩ := info_parts span_int_info
  have HZ := Lib.hid (zombie_no b s uv mv nu nm U M w h hz)
  have HS := Lib.hid (SwRel.start (F := F) h)
  have c2 : w.cell? ⟨b, 2, none⟩ = some (.int .i64 s.state) := h.cells 2 (by omega)
  rw [hd] at c2
  obtain ⟨pm, capm, rfl, hm1, hm2, -⟩ := h.mrow.form
  obtain ⟨pu, capu, rfl, hu1, hu2, -⟩ := h.urow.form
  have c11 : w.cell? ⟨b, 11, none⟩ = some (.slice pu nu capu) := h.cells 11 (by omega)
  have hmf := h.mrow.few
  have huf := h.urow.few
  have HMC := Lib.hid h.mrow.clear
  have HUC := Lib.hid h.urow.clear
  have hsl := hf.slots
  have hus := hf.used
  have HF := Lib.hid hF
  have HL := Lib.hid hlt
  have HUS := Lib.hid hUs
  have HTZ := Lib.hid ht
  clear h hz hF hlt hUs hf ht
  go_enter Tryd.func15, Tryd.ntmps15
  go_wp2_with (go_at_call 32; refine HZ.out.mono ?_; rintro r w1 ⟨rfl, rfl⟩)
  go_loopw [4, 22] (fun v i wr => ∃ k : Nat, k ≤ nu ∧ i = .int .i64 k ∧ Hid (SwRel w wr b F s (.slice pu nu capu) (.slice pm nm capm) nu nm U M v k (64 * k))) (fun _ i _ => nu - (intOf i).toNat)
  case atStart => exact ⟨0, by omega, rfl, HS⟩
  case round =>
    obtain ⟨k, hk, rfl, hR⟩ := hrel
    clear HS HZ c2 c11
    have d7 : wr.cell? ⟨b, 7, none⟩ = some (.int .i64 s.used) := hR.out.span.cells 7 (by omega)
    have d11 : wr.cell? ⟨b, 11, none⟩ = some (.slice pu nu capu) := hR.out.span.cells 11 (by omega)
    have d12 : wr.cell? ⟨b, 12, none⟩ = some (.slice pm nm capm) := hR.out.span.cells 12 (by omega)
    have d13 : wr.cell? ⟨b, 13, none⟩ = some (.int .i64 s.look) := hR.out.span.cells 13 (by omega)
    have fb := hR.out.span.fz
    by_cases hku : k < nu
    · obtain ⟨p', cap', he, -, -, hp⟩ := hR.out.span.urow.form
      cases he
      rcases hp with hp | ⟨gu, rfl, -, -, -, hcu, hfu⟩
      · omega
      have e11 := hcu k hku
      rw [sU_word] at e11
      have f11 := hfu k
      clear hcu hfu
      have HN := Lib.hid (hR.out.clear (fun g hg => HF.out g (.inr (.inl hg))) HL.out rfl hku _ rfl)
      have hlti : (k : Int) < nu := by omega
      have HA2 := Lib.hid (u64_andNot_nat (word U k) (word (gB U M) k) (word_lt _ _) (word_lt _ _))
      rw [sU_minus, cut_start (gB U M) k] at HA2
      obtain ⟨g, HGe⟩ : ∃ g, Hid (g = cutw (gB U M) (64 * k) k) := ⟨_, Lib.hid rfl⟩
      rw [← HGe.out] at HA2
      by_cases hkm : k < nm
      · obtain ⟨p2, cap2, he, -, -, hp⟩ := hR.out.span.mrow.form
        cases he
        rcases hp with hp | ⟨gm, rfl, -, -, -, hcm, -⟩
        · omega
        have e12 := hcm k hkm
        clear hcm
        have hltm : (k : Int) < nm := by omega
        have HA1 := Lib.hid (u64_andNot_nat (word U k) (word M k) (word_lt _ _) (word_lt _ _))
        rw [show word U k &&& (18446744073709551615 - word M k) = word (gB U M) k from word_minus U M k, cut_start (gB U M) k, ← HGe.out] at HA1
        generalize word U k = x at *
        generalize word M k = y at *
        generalize word (sU U M (k + 1)) k = n at *
        have hA1 := HA1.out
        have hA2 := HA2.out
        clear HA1 HA2 hR
        go_wp2_with fail
        go_loopg [4, 6] (64 * (k + 1) - 64 * k) (fun gk v x wr => ∃ c : Nat, 64 * k ≤ c ∧ c ≤ 64 * (k + 1) ∧ gk = 64 * (k + 1) - c ∧ x = .int .u64 (cutw (gB U M) c k : Nat) ∧ Hid (SwRel w wr b F s (.slice (some ⟨gu, 0, none⟩) nu capu) (.slice (some ⟨gm, 0, none⟩) nm capm) nu nm U M v (k + 1) c))
        case atStart => exact ⟨64 * k, Nat.le_refl _, by omega, rfl, by rw [HGe.out], HN⟩
        case round =>
          obtain ⟨c, hc1, hc2, rfl, rfl, hI⟩ := hrel
          clear HN HGe
          by_cases hx0 : cutw (gB U M) c k = 0
          · have HN2 := Lib.hid (hI.out.skip (d := 64 * (k + 1)) hc2 (fun i h1 h2 => cut_zero _ c k hx0 i h1 (by omega)))
            rw [hx0]
            clear hx0 hI
            go_wp2_with fail
            go_roundw
            case rel => exact ⟨k + 1, by omega, by go_num, HN2⟩
            case measure => simp [intOf]; omega
          · obtain ⟨t1, t2, t3, t4, t5⟩ := cut_next _ c k hx0
            have HT := Lib.hid (tz_any (cutw (gB U M) c k) wr (cutw_lt _ _ _) hx0 (HTZ.out.chg hI.out.chg h0))
            have hA := u64_andNot_low _ (cutw_lt (gB U M) c k) hx0
            rw [t5] at hA
            have hjs : 64 * k + Lib.ctz 64 (cutw (gB U M) c k) < s.slots := HUS.out _ (by unfold gB at t3; simp only [Bool.and_eq_true] at t3; exact t3.1)
            have hlen := swl_len (gB U M) c
            have hxl := cutw_lt (gB U M) c k
            have k1 : ((cutw (gB U M) c k : Int) == 0) = false := beq_eq_false_iff_ne.2 (by omega)
            have T3 := Lib.hid t3
            have T4 := Lib.hid t4
            clear t3 t4 t5
            generalize cutw (gB U M) c k = x at *
            generalize Lib.ctz 64 x = t at *
            obtain ⟨x', HX⟩ : ∃ x', Hid (x' = cutw (gB U M) (64 * k + t + 1) k) := ⟨_, Lib.hid rfl⟩
            rw [← HX.out] at hA
            obtain ⟨pv, capv, rfl, -, -, -⟩ := owns_form hI.out.row
            generalize hm : (swl (gB U M) c).length = m at *
            have HM := Lib.hid hm
            clear hm
            go_wp2_with (first | (go_at_call 33; refine HT.out.mono ?_; rintro r w1 ⟨rfl, rfl⟩) | (at_builtin; refine wpList_append_all w.heap.size _ rfl (.tmp 64) (.tmp 70) 38 rfl 3 i0 _ 1 8 Tryd.underlying38 hi0 hz0 hz1 hz2 rfl (by decide) _ _ _ (by rfl) (by exact owns_later hI.out.row (((Ext.refl _).alloc _ _).below)) (.slice (some ⟨wr.heap.size, 0, none⟩) 1 1) 1 [.int .i64 ((k : Int) * 64 + t)] (by rfl) (by exact src_one wr [.int .i64 ((k : Int) * 64 + t)] _ 1 rfl) (by intro u hu; simp at hu; subst hu; rfl) (by rw [HM.out]; unfold maxLen; omega) (by rw [HM.out]; omega) (by have := hI.out.chg.size; simp; omega) ?_) | fail)
            intro v' w1 hown hchg hat
            have ej : (k : Int) * 64 + (t : Int) = ((64 * k + t : Nat) : Int) := by omega
            rw [ej] at hown hchg
            have HN := Lib.hid (hI.out.grown HF.out HL.out (j := 64 * k + t) t2 T3.out (fun i h1 h2 => T4.out i (by omega) h1 h2) hown hchg)
            obtain ⟨p1, cap1, rfl, -, -, -⟩ := owns_form hown
            clear hown hchg hat hI ej
            go_wp2_with fail
            go_roundg (64 * (k + 1) - (64 * k + t + 1))
            case measure => omega
            case rel => exact ⟨64 * k + t + 1, by omega, by omega, rfl, by rw [HX.out], HN⟩
      · have hxg : word U k = g := by
          rw [HGe.out, ← cut_start (gB U M) k]
          refine word_congr fun j hj => ?_
          unfold gB
          rw [HMC.out (64 * k + j) (by omega)]; simp
        rw [hxg] at HA2 e11
        clear hxg
        have hltm : decide ((k : Int) < nm) = false := decide_eq_false (by omega)
        generalize word (sU U M (k + 1)) k = n at *
        have hA2 := HA2.out
        clear HA2 hR
        go_wp2_with fail
        go_loopg [4, 6] (64 * (k + 1) - 64 * k) (fun gk v x wr => ∃ c : Nat, 64 * k ≤ c ∧ c ≤ 64 * (k + 1) ∧ gk = 64 * (k + 1) - c ∧ x = .int .u64 (cutw (gB U M) c k : Nat) ∧ Hid (SwRel w wr b F s (.slice (some ⟨gu, 0, none⟩) nu capu) (.slice pm nm capm) nu nm U M v (k + 1) c))
        case atStart => exact ⟨64 * k, Nat.le_refl _, by omega, rfl, by rw [HGe.out], HN⟩
        case round =>
          obtain ⟨c, hc1, hc2, rfl, rfl, hI⟩ := hrel
          clear HN HGe
          by_cases hx0 : cutw (gB U M) c k = 0
          · have HN2 := Lib.hid (hI.out.skip (d := 64 * (k + 1)) hc2 (fun i h1 h2 => cut_zero _ c k hx0 i h1 (by omega)))
            rw [hx0]
            clear hx0 hI
            go_wp2_with fail
            go_roundw
            case rel => exact ⟨k + 1, by omega, by go_num, HN2⟩
            case measure => simp [intOf]; omega
          · obtain ⟨t1, t2, t3, t4, t5⟩ := cut_next _ c k hx0
            have HT := Lib.hid (tz_any (cutw (gB U M) c k) wr (cutw_lt _ _ _) hx0 (HTZ.out.chg hI.out.chg h0))
            have hA := u64_andNot_low _ (cutw_lt (gB U M) c k) hx0
            rw [t5] at hA
            have hjs : 64 * k + Lib.ctz 64 (cutw (gB U M) c k) < s.slots := HUS.out _ (by unfold gB at t3; simp only [Bool.and_eq_true] at t3; exact t3.1)
            have hlen := swl_len (gB U M) c
            have hxl := cutw_lt (gB U M) c k
            have k1 : ((cutw (gB U M) c k : Int) == 0) = false := beq_eq_false_iff_ne.2 (by omega)
            have T3 := Lib.hid t3
            have T4 := Lib.hid t4
            clear t3 t4 t5
            generalize cutw (gB U M) c k = x at *
            generalize Lib.ctz 64 x = t at *
            obtain ⟨x', HX⟩ : ∃ x', Hid (x' = cutw (gB U M) (64 * k + t + 1) k) := ⟨_, Lib.hid rfl⟩
            rw [← HX.out] at hA
            obtain ⟨pv, capv, rfl, -, -, -⟩ := owns_form hI.out.row
            generalize hm : (swl (gB U M) c).length = m at *
            have HM := Lib.hid hm
            clear hm
            go_wp2_with (first | (go_at_call 33; refine HT.out.mono ?_; rintro r w1 ⟨rfl, rfl⟩) | (at_builtin; refine wpList_append_all w.heap.size _ rfl (.tmp 64) (.tmp 70) 38 rfl 3 i0 _ 1 8 Tryd.underlying38 hi0 hz0 hz1 hz2 rfl (by decide) _ _ _ (by rfl) (by exact owns_later hI.out.row (((Ext.refl _).alloc _ _).below)) (.slice (some ⟨wr.heap.size, 0, none⟩) 1 1) 1 [.int .i64 ((k : Int) * 64 + t)] (by rfl) (by exact src_one wr [.int .i64 ((k : Int) * 64 + t)] _ 1 rfl) (by intro u hu; simp at hu; subst hu; rfl) (by rw [HM.out]; unfold maxLen; omega) (by rw [HM.out]; omega) (by have := hI.out.chg.size; simp; omega) ?_) | fail)
            intro v' w1 hown hchg hat
            have ej : (k : Int) * 64 + (t : Int) = ((64 * k + t : Nat) : Int) := by omega
            rw [ej] at hown hchg
            have HN := Lib.hid (hI.out.grown HF.out HL.out (j := 64 * k + t) t2 T3.out (fun i h1 h2 => T4.out i (by omega) h1 h2) hown hchg)
            obtain ⟨p1, cap1, rfl, -, -, -⟩ := owns_form hown
            clear hown hchg hat hI ej
            go_wp2_with fail
            go_roundg (64 * (k + 1) - (64 * k + t + 1))
            case measure => omega
            case rel => exact ⟨64 * k + t + 1, by omega, by omega, rfl, by rw [HX.out], HN⟩
    · obtain rfl : k = nu := by omega
      obtain ⟨pv, capv, rfl, -, -, -⟩ := owns_form hR.out.row
      have hlen := swl_len (gB U M) (64 * k)
      go_wp2_with fail
      go_ret2
      exact ⟨_, _, rfl, hR.out, rfl⟩

end Go.Proofs.YticaamdghjfifaaDoor
