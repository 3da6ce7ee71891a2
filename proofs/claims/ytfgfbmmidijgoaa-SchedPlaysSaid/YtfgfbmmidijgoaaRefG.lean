/- The contract of the reference's Go: where nothing is done. -/
import Derived.Test.YtfgfbmmidijgoaaRefF
namespace Go.Proofs.Ytfgfbmmidijgoaa
open Go.RowKit
set_option linter.unusedVariables false

set_option maxRecDepth 20000 in
set_option maxHeartbeats 800000 in
theorem rgo_over (b : Nat) (F : Nat → Prop) (r : Rf) (pick : Int) (w : World) (h : RIs w b F r) (ho : r.over = true) :
    Calls Try.prog 22 #[.pointer (some ⟨b, 0, none⟩), .int .i64 pick] w fun e w' => e = .returned (.tuple #[.int .i64 0, .int .i64 20]) ∧ Ext w w' := by
  obtain ⟨⟨tv, av, lv, cv, ov, vals, h1⟩, h2⟩ := h
  have c5 : w.cell? ⟨b, 5, none⟩ = some (.bool r.over) := h1.blk.cell 5
  rw [ho] at c5
  have hb := h1.blk.lt
  clear h1 h2
  go_enter Try.func22, Try.ntmps22
  go_wp2
  go_ret2
  exact ⟨rfl, Ext.refl _⟩

set_option maxRecDepth 20000 in
set_option maxHeartbeats 4000000 in
theorem rgo_idle (b : Nat) (F : Nat → Prop) (r : Rf) (pick : Int) (w : World) (h : RIs w b F r) (ho : r.over = false) (he : total (absT r.T r.A) = 0 ∨ enL (absS r) (absS r).ts.length = []) :
    Calls Try.prog 22 #[.pointer (some ⟨b, 0, none⟩), .int .i64 pick] w fun e w' => e = .returned (.tuple #[.int .i64 0, .int .i64 (if total (absT r.T r.A) = 0 then 22 else 21)]) ∧ Ext w w' := by
  have HS := Lib.hid h
  obtain ⟨⟨tv, av, lv, cv, ov, vals, h1⟩, h2⟩ := h
  have c0 : w.cell? ⟨b, 0, none⟩ = some tv := h1.blk.cell 0
  have c1 : w.cell? ⟨b, 1, none⟩ = some av := h1.blk.cell 1
  have c5 : w.cell? ⟨b, 5, none⟩ = some (.bool r.over) := h1.blk.cell 5
  rw [ho] at c5
  have hb := h1.blk.lt
  obtain ⟨pt, capt, pa, capa, rfl, rfl, hopen⟩ := h1.open_
  have hw := h1.wide
  have hfew := h1.few
  have HO := Lib.hid hopen
  have HLen := Lib.hid h1.lens
  have HLe := Lib.hid h1.le
  have HTT := Lib.hid (show (absT r.T r.A).take r.T.length = absT r.T r.A from List.take_of_length_le (by rw [absT_len]; exact Nat.le_refl _))
  have HTL := Lib.hid (total_take_le (absT r.T r.A))
  have HE := Lib.hid he
  clear h1 h2 hopen he
  go_enter Try.func22, Try.ntmps22
  go_wp2
  go_loopw [6, 7] (fun n i wr => ∃ k : Nat, k ≤ r.T.length ∧ i = .int .i64 k ∧ n = .int .i64 (total ((absT r.T r.A).take k) : Nat) ∧ Hid (Ext w wr)) (fun _ i _ => r.T.length - (intOf i).toNat)
  case atStart => exact ⟨0, by omega, rfl, rfl, Lib.hid (Ext.refl _)⟩
  case round =>
    obtain ⟨k, hk, rfl, rfl, hX⟩ := hrel
    have d0 := (hX.out.cell _ _ hb).trans c0
    have d1 := (hX.out.cell _ _ hb).trans c1
    by_cases hlt : k < r.T.length
    · obtain ⟨gt, ga, p, cap, rfl, rfl, hgt, hga, ct, ca, -⟩ := HO.out k hlt
      have ct := (hX.out.cell _ _ hgt).trans ct
      have ca := (hX.out.cell _ _ hga).trans ca
      have hl := HLen.out k
      have hla := HLe.out k hlt
      have htl := HTL.out k
      have HT := Lib.hid (left_take (T := r.T) (A := r.A) hlt)
      clear c0 c1 c5
      generalize (r.T.getD k []).length = m at *
      generalize r.A.getD k 0 = a at *
      generalize total ((absT r.T r.A).take k) = q at *
      go_wp2_with fail
      go_quiet (fail)
      go_wp2_with fail
      go_roundw
      case rel => exact ⟨k + 1, by omega, by go_num, by rw [HT.out]; go_num, Lib.hid (hX.out.drewN' _)⟩
      case measure => simp [intOf]; omega
    · obtain rfl : k = r.T.length := by omega
      rw [HTT.out]
      have HS2 := Lib.hid (HS.out.later hX.out)
      by_cases h0 : total (absT r.T r.A) = 0
      · have H0 := Lib.hid h0
        rw [h0]
        clear h0
        go_wp2_with fail
        go_ret2
        first | exact ⟨rfl, hX.out⟩ | (rw [if_pos H0.out]; exact ⟨rfl, hX.out⟩)
      · have he := HE.out.resolve_left h0
        have HEL := Lib.hid he
        have H0 := Lib.hid h0
        have k0 : (((total (absT r.T r.A) : Nat) : Int) == 0) = false := by simpa using h0
        clear he h0
        go_wp2_with (first | (go_at_call 33; refine (renabled_any b F r _ HS2.out).mono ?_; rintro e w3 ⟨v, rfl, hR⟩; have hrow := hR.row; rw [HEL.out] at hrow; obtain ⟨pv, capv, rfl, -, -, -⟩ := owns_form hrow; have HX3 := Lib.hid (hX.out.trans hR.ext); clear hR hrow))
        go_ret2
        first | exact ⟨rfl, HX3.out⟩ | (rw [if_neg H0.out]; exact ⟨rfl, HX3.out⟩)

end Go.Proofs.Ytfgfbmmidijgoaa
