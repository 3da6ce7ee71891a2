/- The contracts of Play, the program's and the reference's; of heavy. -/
import Derived.Test.YtfgfbmmidijgoaaTwo
namespace Go.Proofs.Ytfgfbmmidijgoaa
open Go.RowKit
set_option linter.unusedVariables false

section
variable {W w w' : World} {bs br : Nat} {s t : Sc} {R R' : Nat → Prop}
set_option maxRecDepth 20000 in
set_option maxHeartbeats 2000000 in
theorem t_play (h : Two W w bs br s t R) (p : Option Addr) (cap : Nat) (ps : List Int) (hz : ZsAt w .i64 p ps) (hp : ∀ a, p = some a → OwnIn W R a.block) (hn : ps.length ≤ 10000) :
    Calls Try.prog 24 #[.pointer (some ⟨bs, 0, none⟩), .slice p ps.length cap] w fun e w' => e = .returned (.tuple #[.int .i64 (playR ps 0 s).1, .int .i64 (playR ps 0 s).2.1]) ∧ Two W w' bs br (playR ps 0 s).2.2 t R ∧ Kept (OwnIn W R) w w' := by
  have HZ := Lib.hid hz
  have HP := Lib.hid hp
  have H := Lib.hid h
  clear hz hp h
  go_enter Try.func24, Try.ntmps24
  go_wp2
  go_loopw [12] (fun i wr => ∃ (k : Nat) (s' : Sc), k ≤ ps.length ∧ i = .int .i64 k ∧ Hid (Two W wr bs br s' t R ∧ Kept (OwnIn W R) w wr ∧ playR (ps.drop k) k s' = playR ps 0 s)) (fun i _ => ps.length - (intOf i).toNat)
  case atStart => exact ⟨0, s, by omega, rfl, Lib.hid ⟨H.out, fun _ _ => rfl, rfl⟩⟩
  case round =>
    obtain ⟨k, s', hk, rfl, hT⟩ := hrel
    by_cases hlt : k < ps.length
    · have hkz := ZsAt.kept HZ.out hT.out.2.1 HP.out
      obtain ⟨b, off, rfl, hb, c0⟩ := hkz.get hlt (Ext.refl _)
      have HPl := Lib.hid (playR_cons (s := s') hlt)
      have HG := Lib.hid (t_go hT.out.1 (ps.getD k 0))
      clear hkz
      generalize ps.getD k 0 = z at *
      generalize goR s' z = q at *
      obtain ⟨i, e, s2⟩ := q
      by_cases he : e = 0
      · subst he
        go_wp2_with (first | (go_at_call 14; refine HG.out.mono ?_; rintro e w2 ⟨rfl, h2, hk2⟩; have H2 := Lib.hid (show Two W w2 bs br s2 t R ∧ Kept (OwnIn W R) w w2 ∧ playR (ps.drop (k + 1)) (k + 1) s2 = playR ps 0 s from ⟨h2, hT.out.2.1.trans hk2, by rw [← hT.out.2.2, HPl.out]; exact (if_pos rfl).symm⟩); clear h2 hk2 HG))
        go_roundw
        case rel => exact ⟨k + 1, s2, by omega, by go_num, H2⟩
        case measure => simp [intOf]; omega
      · have k1 : (e != 0) = true := bne_iff_ne.2 he
        have HE := Lib.hid he
        clear he
        go_wp2_with (first | (go_at_call 14; refine HG.out.mono ?_; rintro e w2 ⟨rfl, h2, hk2⟩; have H2 := Lib.hid (show Two W w2 bs br s2 t R ∧ Kept (OwnIn W R) w w2 from ⟨h2, hT.out.2.1.trans hk2⟩); clear h2 hk2 HG))
        go_ret2
        have hq : playR ps 0 s = ((k : Int), e, s2) := by rw [← hT.out.2.2, HPl.out]; exact if_neg HE.out
        rw [hq]
        exact ⟨rfl, H2.out⟩
    · obtain rfl : k = ps.length := by omega
      go_wp2_with fail
      go_ret2
      have hq : playR ps 0 s = ((ps.length : Int), 0, s') := by rw [← hT.out.2.2, List.drop_length]; rfl
      rw [hq]
      exact ⟨rfl, hT.out.1, hT.out.2.1⟩
set_option maxRecDepth 20000 in
set_option maxHeartbeats 2000000 in
theorem t_rplay (h : Two W w bs br s t R) (p : Option Addr) (cap : Nat) (ps : List Int) (hz : ZsAt w .i64 p ps) (hp : ∀ a, p = some a → OwnIn W R a.block) (hn : ps.length ≤ 10000) (hwf : ∀ n ∈ ps, (Lit.int .i64 n).wf = true) :
    Calls Try.prog 25 #[.pointer (some ⟨br, 0, none⟩), .slice p ps.length cap] w fun e w' => e = .returned (.tuple #[.int .i64 (playR ps 0 t).1, .int .i64 (playR ps 0 t).2.1]) ∧ Two W w' bs br s (playR ps 0 t).2.2 R ∧ Kept (OwnIn W R) w w' := by
  have HZ := Lib.hid hz
  have HP := Lib.hid hp
  have H := Lib.hid h
  have HWf := Lib.hid hwf
  clear hz hp h hwf
  go_enter Try.func25, Try.ntmps25
  go_wp2
  go_loopw [6] (fun i wr => ∃ (k : Nat) (s' : Sc), k ≤ ps.length ∧ i = .int .i64 k ∧ Hid (Two W wr bs br s s' R ∧ Kept (OwnIn W R) w wr ∧ playR (ps.drop k) k s' = playR ps 0 t)) (fun i _ => ps.length - (intOf i).toNat)
  case atStart => exact ⟨0, t, by omega, rfl, Lib.hid ⟨H.out, fun _ _ => rfl, rfl⟩⟩
  case round =>
    obtain ⟨k, s', hk, rfl, hT⟩ := hrel
    by_cases hlt : k < ps.length
    · have hkz := ZsAt.kept HZ.out hT.out.2.1 HP.out
      obtain ⟨b, off, rfl, hb, c0⟩ := hkz.get hlt (Ext.refl _)
      have HPl := Lib.hid (playR_cons (s := s') hlt)
      have HG := Lib.hid (t_rgo hT.out.1 (ps.getD k 0) (HWf.out _ (by rw [List.getD_eq_getElem?_getD, List.getElem?_eq_getElem hlt]; exact List.getElem_mem hlt)))
      clear hkz
      generalize ps.getD k 0 = z at *
      generalize goR s' z = q at *
      obtain ⟨i, e, s2⟩ := q
      by_cases he : e = 0
      · subst he
        go_wp2_with (first | (go_at_call 22; refine HG.out.mono ?_; rintro e w2 ⟨rfl, h2, hk2⟩; have H2 := Lib.hid (show Two W w2 bs br s s2 R ∧ Kept (OwnIn W R) w w2 ∧ playR (ps.drop (k + 1)) (k + 1) s2 = playR ps 0 t from ⟨h2, hT.out.2.1.trans hk2, by rw [← hT.out.2.2, HPl.out]; exact (if_pos rfl).symm⟩); clear h2 hk2 HG))
        go_roundw
        case rel => exact ⟨k + 1, s2, by omega, by go_num, H2⟩
        case measure => simp [intOf]; omega
      · have k1 : (e != 0) = true := bne_iff_ne.2 he
        have HE := Lib.hid he
        clear he
        go_wp2_with (first | (go_at_call 22; refine HG.out.mono ?_; rintro e w2 ⟨rfl, h2, hk2⟩; have H2 := Lib.hid (show Two W w2 bs br s s2 R ∧ Kept (OwnIn W R) w w2 from ⟨h2, hT.out.2.1.trans hk2⟩); clear h2 hk2 HG))
        go_ret2
        have hq : playR ps 0 t = ((k : Int), e, s2) := by rw [← hT.out.2.2, HPl.out]; exact if_neg HE.out
        rw [hq]
        exact ⟨rfl, H2.out⟩
    · obtain rfl : k = ps.length := by omega
      go_wp2_with fail
      go_ret2
      have hq : playR ps 0 t = ((ps.length : Int), 0, s') := by rw [← hT.out.2.2, List.drop_length]; rfl
      rw [hq]
      exact ⟨rfl, hT.out.1, hT.out.2.1⟩
end

/-! ### heavy -/
theorem total_skip {ts : List (List St)} {k : Nat} : total (ts.take k) ≤ total ts := total_take_le ts k
set_option maxRecDepth 20000 in
set_option maxHeartbeats 2000000 in
theorem heavy_any (v : Value) (l : Tk) (w : World) (h : TkIn w v l) (hS : TkSm l) : Calls Try.prog 19 #[v] w fun e w' => e = .returned (.bool (decide (400 < l.len + total (tkN l)))) ∧ w = w' := by
  obtain ⟨-, p, cap, rfl, hr⟩ := h
  obtain ⟨hm, hsm⟩ := hS
  have HR := Lib.hid hr
  have HS := Lib.hid hsm
  clear hr hsm
  go_enter Try.func19, Try.ntmps19
  go_wp2
  obtain ⟨W, rfl⟩ : ∃ W, W = w := ⟨_, rfl⟩
  go_loopw [3, 4] (fun n i wr => ∃ (k m : Nat), k ≤ l.len ∧ i = .int .i64 k ∧ n = .int .i64 m ∧ wr = W ∧ m ≤ 600000000000000 ∧ Hid (m = l.len + total ((tkN l).take k))) (fun _ i _ => l.len - (intOf i).toNat)
  case atStart => exact ⟨0, l.len, by omega, rfl, rfl, rfl, by omega, Lib.hid (by simp [total])⟩
  case round =>
    obtain ⟨k, m, hk, rfl, rfl, rfl, hm2, hM⟩ := hrel
    by_cases hle : m ≤ 400
    · by_cases hlt : k < l.len
      · obtain ⟨b, off, u, rfl, hb, hc, hst, -, -⟩ := HR.out k hlt
        have hl := HS.out k hlt
        obtain ⟨pu, capu, rfl, -⟩ := id hst
        have HT := Lib.hid (total_take (tkN l) k (by rw [tkN_len]; exact hlt))
        rw [tkN_get l hlt] at HT
        clear hst
        generalize (l.z k).length = q at *
        go_wp2_with fail
        go_roundw
        case rel => exact ⟨k + 1, m + q, by omega, by go_num, by go_num, by first | trivial | rfl, by omega, Lib.hid (by rw [HT.out, hM.out]; omega)⟩
        case measure => simp [intOf]; omega
      · obtain rfl : k = l.len := by omega
        have HF := Lib.hid (show decide (400 < l.len + total (tkN l)) = false by
          have := hM.out; rw [List.take_of_length_le (by rw [tkN_len]; exact Nat.le_refl _)] at this
          exact decide_eq_false (by omega))
        have k2 : decide (400 < (m : Int)) = false := decide_eq_false (by omega)
        go_wp2_with fail
        go_ret
        rw [HF.out]
        exact ⟨rfl, rfl⟩
    · have HF := Lib.hid (show decide (400 < l.len + total (tkN l)) = true by
        have := hM.out
        have := total_skip (ts := tkN l) (k := k)
        exact decide_eq_true (by omega))
      have k2 : decide (400 < (m : Int)) = true := decide_eq_true (by omega)
      by_cases hlt : k < l.len
      · go_wp2_with fail
        go_ret
        rw [HF.out]
        exact ⟨rfl, rfl⟩
      · go_wp2_with fail
        go_ret
        rw [HF.out]
        exact ⟨rfl, rfl⟩

end Go.Proofs.Ytfgfbmmidijgoaa
