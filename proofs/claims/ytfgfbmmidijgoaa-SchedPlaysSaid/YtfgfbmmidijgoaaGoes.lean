/- Whatever tasks there are and whoever is picked: each answer, and all that is told behind each step. -/
import Derived.Test.YtfgfbmmidijgoaaAlike
import Derived.Test.YtfgfbmmidijgoaaOwnT
namespace Go.Proofs.Ytfgfbmmidijgoaa
open Go.RowKit
set_option linter.unusedVariables false

/-- both, and the rows that are written over. -/
structure Over (W wr : World) (bs br : Nat) (s : Sc) (R : Nat → Prop) (v : Value) (ls : List Nat) : Prop where
  two : Two W wr bs br s s R
  wr : Wr wr R v ls
theorem Over.set {W w : World} {bs br : Nat} {s : Sc} {R : Nat → Prop} {v : Value} {ls : List Nat} {b0 : Nat} {cs0 : Array Value} (h : Over W w bs br s R v ls) (hW : ∀ k, R k → W.heap.size ≤ k) (hR : R b0) (hB : Blk w b0 25 cs0) (o1 o2 o3 : Nat) (u1 u2 u3 : Value) :
    Over W (((w.setCell ⟨b0, o1, none⟩ u1).setCell ⟨b0, o2, none⟩ u2).setCell ⟨b0, o3, none⟩ u3) bs br s R v ls := by
  have h1 := h.wr.set (o := o1) hB u1
  have hB1 := hB.set_ o1 u1
  have h2 := h1.set (o := o2) hB1 u2
  have hB2 := hB1.set_ o2 u2
  exact ⟨h.two.chg ((((Chg.refl R w).setCell (p := ⟨b0, o1, none⟩) (.inl hR) u1).setCell (p := ⟨b0, o2, none⟩) (.inl hR) u2).setCell (p := ⟨b0, o3, none⟩) (.inl hR) u3) hW, h2.set (o := o3) hB2 u3⟩

/-- the blocks that are new since. -/
def NewIn (W w1 : World) : Nat → Prop := fun k => W.heap.size ≤ k ∧ k < w1.heap.size

set_option maxRecDepth 20000 in
set_option maxHeartbeats 8000000 in
theorem walk_SchedGoes {W : World} (v0 : Value) (l0 : Tk) (h0 : TkIn W v0 l0 ∧ TkSm l0) (v1 : Value) (l1 : List Int) (h1 : ZsIn W .i64 v1 l1) (v2 : Value) (l2 : List Int) (h2 : ZsIn W .i64 v2 l2) :
    Calls Try.prog 8 #[v0, v1, v2] W fun e w' => e = .returned (.bool true) ∧ Ext W w' := by
  obtain ⟨ht, hsm⟩ := h0
  have HHv := Lib.hid (heavy_any v0 l0 W ht hsm)
  have HT0 := Lib.hid ht
  have HWf1 := Lib.hid h1.wf
  have HWf2 := Lib.hid h2.1
  obtain ⟨p1, cap1, rfl, hz1, hm1⟩ := h1.open_
  obtain ⟨p2, cap2, rfl, hz2, hm2⟩ := h2.open_
  have HZ1 := Lib.hid hz1
  have HM2 := Lib.hid hm2
  have HZ2 := Lib.hid (show RdI W (.slice p2 l2.length cap2) l2 from ⟨_, _, rfl, hz2⟩)
  by_cases hv : 400 < l0.len + total (tkN l0)
  · have k1 := decide_eq_true hv
    rw [k1] at HHv
    clear h1 h2 hz1 hz2 ht hsm k1 hv
    go_enter Try.func8, Try.ntmps8
    go_wp2_with (first | (go_at_call 19; refine HHv.out.mono ?_; rintro e w1 ⟨rfl, rfl⟩))
    go_ret
    exact ⟨rfl, Ext.refl _⟩
  have k1 := decide_eq_false hv
  rw [k1] at HHv
  by_cases hp : 400 < l1.length
  · clear h1 h2 hz1 hz2 ht hsm k1 hv
    go_enter Try.func8, Try.ntmps8
    go_wp2_with (first | (go_at_call 19; refine HHv.out.mono ?_; rintro e w1 ⟨rfl, rfl⟩))
    go_ret
    exact ⟨rfl, Ext.refl _⟩
  have hp4 : l1.length ≤ 400 := by omega
  clear hm1 hm2 hp
  have HOwn := Lib.hid (own_any W W v0 l0 (Ext.refl W) ht (by omega))
  have hlen : (tkN l0).length = l0.len := tkN_len l0
  have htot : total (tkN l0) ≤ 400 := by omega
  have hl4 : l0.len ≤ 400 := by omega
  have HNew := Lib.hid fun w v (hh : TsIn w v (tkN l0)) => new_any (tkN l0) v w hh (by omega) (by omega) ht.wf
  have HRNew := Lib.hid fun w (hx : Ext W w) => rnew_any (tkN l0) v0 w (ht.ts.later hx) (by omega) (by omega) ht.wf
  have HLN := Lib.hid hlen
  clear h1 h2 hz1 hz2 ht hsm k1 hv
  by_cases hbig : 64 < (tkN l0).length ∨ 10000 < total (tkN l0)
  · unfold NewPost at HNew
    unfold RNewPost at HRNew
    simp only [if_pos hbig] at HNew HRNew
    clear hbig hlen htot
    go_enter Try.func8, Try.ntmps8
    go_wp2_with (first
      | (go_at_call 19; refine HHv.out.mono ?_; rintro e w1 ⟨rfl, rfl⟩)
      | (go_at_call 20; refine HOwn.out.mono ?_; rintro e w1 ⟨v', vals, rfl, hG⟩; have HG := Lib.hid hG; obtain ⟨pg, capg, rfl, -, -, -⟩ := owns_form hG.tk.own; rw [HLN.out] at HG ⊢; clear hG)
      | (go_at_call 11; refine (HNew.out _ _ HG.out.tk.tsin).mono ?_; rintro e w2 ⟨hx, rfl⟩; have HX2 := Lib.hid (HG.out.tk.ext.trans hx); clear hx)
      | (go_at_call 21; refine (HRNew.out _ HX2.out).mono ?_; rintro e w3 ⟨hx, rfl⟩; have HX3 := Lib.hid (HX2.out.trans hx); clear hx)
      | (go_at_call 12; refine (awake_any _).mono ?_; rintro e w4 ⟨rfl, hx⟩; have HX4 := Lib.hid (HX3.out.trans hx); clear hx))
    go_ret
    exact ⟨rfl, HX4.out⟩
  by_cases hok : okTs (tkN l0) = false
  · unfold NewPost at HNew
    unfold RNewPost at HRNew
    simp only [if_neg hbig, if_pos hok] at HNew HRNew
    clear hbig hok hlen htot
    go_enter Try.func8, Try.ntmps8
    go_wp2_with (first
      | (go_at_call 19; refine HHv.out.mono ?_; rintro e w1 ⟨rfl, rfl⟩)
      | (go_at_call 20; refine HOwn.out.mono ?_; rintro e w1 ⟨v', vals, rfl, hG⟩; have HG := Lib.hid hG; obtain ⟨pg, capg, rfl, -, -, -⟩ := owns_form hG.tk.own; rw [HLN.out] at HG ⊢; clear hG)
      | (go_at_call 11; refine (HNew.out _ _ HG.out.tk.tsin).mono ?_; rintro e w2 ⟨hx, rfl⟩; have HX2 := Lib.hid (HG.out.tk.ext.trans hx); clear hx)
      | (go_at_call 21; refine (HRNew.out _ HX2.out).mono ?_; rintro e w3 ⟨hx, rfl⟩; have HX3 := Lib.hid (HX2.out.trans hx); clear hx)
      | (go_at_call 12; refine (awake_any _).mono ?_; rintro e w4 ⟨rfl, hx⟩; have HX4 := Lib.hid (HX3.out.trans hx); clear hx))
    go_ret
    exact ⟨rfl, HX4.out⟩
  unfold NewPost at HNew
  unfold RNewPost at HRNew
  simp only [if_neg hbig, if_neg hok] at HNew HRNew
  clear hbig hok
  have HML := Lib.hid (show ((tkN l0).map List.length).length = l0.len by rw [List.length_map]; exact hlen)
  have HLK := Lib.hid (show ∀ k, ((tkN l0).map List.length).getD k 0 ≤ 400 from fun k => by
    have h1 := total_le (tkN l0) k
    have h2 : ((tkN l0).map List.length).getD k 0 = ((tkN l0).getD k []).length := by
      rw [List.getD_eq_getElem?_getD, List.getElem?_map, List.getD_eq_getElem?_getD]
      cases (tkN l0)[k]? <;> rfl
    omega)
  clear hlen htot
  go_enter Try.func8, Try.ntmps8
  go_wp2_with (first
    | (go_at_call 19; refine HHv.out.mono ?_; rintro e w1 ⟨rfl, rfl⟩)
    | (go_at_call 20; refine HOwn.out.mono ?_; rintro e w1 ⟨v', vals, rfl, hG⟩; have HG := Lib.hid hG; obtain ⟨pg, capg, rfl, -, -, -⟩ := owns_form hG.tk.own; rw [HLN.out] at HG ⊢; clear hG)
    | (go_at_call 11; refine (HNew.out _ _ HG.out.tk.tsin).mono ?_; rintro e w2 ⟨hx, bs, rfl, hs⟩; have HX2 := Lib.hid hx; have HS2 := Lib.hid hs; clear hx hs)
    | (go_at_call 21; refine (HRNew.out _ (HG.out.tk.ext.trans HX2.out)).mono ?_; rintro e w3 ⟨hx, br, Fr, r, rfl, hr, hre, hrf⟩; have H3 := Lib.hid (show Over W w3 bs br (sc0 (tkN l0)) (NewIn W w1) (.slice pg l0.len capg) ((tkN l0).map List.length) from ⟨two_new HG.out.tk.ext (fun k hk => hk.2) HX2.out HS2.out hx hr hre hrf, (HG.out.wr.later HX2.out).later hx⟩); clear hx hr hre hrf HS2 HX2))
  have HR := Lib.hid (show ∀ k, NewIn W w1 k → W.heap.size ≤ k from fun k hk => hk.1)
  clear HG HOwn HNew HRNew HHv
  generalize NewIn W w1 = R at *
  generalize (tkN l0).map List.length = ls at *
  generalize sc0 (tkN l0) = s0 at *
  clear HLN HT0
  generalize l0.len = N at *
  go_loopw [12] (fun i wr => ∃ k : Nat, k ≤ N ∧ i = .int .i64 k ∧ Hid (Over W wr bs br s0 R (.slice pg N capg) ls)) (fun i _ => N - (intOf i).toNat)
  case atStart => exact ⟨0, by omega, rfl, H3⟩
  case round =>
    obtain ⟨k, hk, rfl, hO⟩ := hrel
    clear H3
    by_cases hlt : k < N
    · obtain ⟨pO, cO, e, hrow⟩ := hO.out.wr.rows
      obtain ⟨gg, pu, capu, e2, hgg, -, cg, -⟩ := hrow k (by rw [HML.out]; exact hlt)
      injection e with e1 e3 e4
      subst e1
      subst e2
      clear hrow e3 e4
      have hlk := HLK.out k
      go_wp2_with fail
      go_loopw [13] (fun i wr => ∃ j : Nat, j ≤ ls.getD k 0 ∧ i = .int .i64 j ∧ Hid (Over W wr bs br s0 R (.slice (some ⟨gg, 0, none⟩) N capg) ls)) (fun i _ => ls.getD k 0 - (intOf i).toNat)
      case atStart => exact ⟨0, by omega, rfl, hO⟩
      case round =>
        obtain ⟨j, hj, rfl, hO⟩ := hrel
        obtain ⟨pO, cO, e, hrow⟩ := hO.out.wr.rows
        obtain ⟨gg', pu, capu, e2, hgg, -, cg, hb⟩ := hrow k (by rw [HML.out]; exact hlt)
        injection e with e1 e3 e4
        subst e1
        cases e2
        clear hrow e3 e4
        by_cases hlj : j < ls.getD k 0
        · rcases hb with hb | ⟨b, cs, rfl, hRb, hB, hsz⟩
          · omega
          have HO := hO
          have c0 := hB.cell (j * 3)
          have c1 := hB.cell (j * 3 + 1)
          have c2 := hB.cell (j * 3 + 2)
          rw [Array.getElem?_eq_getElem (by omega)] at c0 c1 c2
          have f0 := hB.frozen (j * 3)
          have f1 := hB.frozen (j * 3 + 1)
          have f2 := hB.frozen (j * 3 + 2)
          have hbl := hB.lt
          have HN := Lib.hid (hO.out.set HR.out hRb hB (j * 3) (j * 3 + 1) (j * 3 + 2) (.int .i64 5) (.int .i64 7) (.int .i64 0))
          clear hB hO HO
          generalize cs[j * 3]'(by omega) = u0 at *
          generalize cs[j * 3 + 1]'(by omega) = u1 at *
          generalize cs[j * 3 + 2]'(by omega) = u2 at *
          go_wp2_with fail
          go_roundw
          case rel => exact ⟨j + 1, by omega, by go_num, HN⟩
          case measure => simp [intOf]; omega
        · go_wp2_with fail
          go_roundw
          case rel => exact ⟨k + 1, by omega, by go_num, hO⟩
          case measure => simp [intOf]; omega
    · go_wp2_with fail
      have HT := Lib.hid hO.out.two
      clear hO HLK HML HR
      go_loopw [14] (fun i wr => ∃ (k : Nat) (s : Sc), k ≤ l1.length ∧ i = .int .i64 k ∧ Hid (Two W wr bs br s s R)) (fun i _ => l1.length - (intOf i).toNat)
      case atStart => exact ⟨0, s0, by omega, rfl, HT⟩
      case round =>
        obtain ⟨j, s, hj, rfl, hT⟩ := hrel
        clear HT
        by_cases hlj : j < l1.length
        · obtain ⟨b, off, rfl, hb, cz⟩ := HZ1.out.get hlj hT.out.ext
          have HWz := Lib.hid (HWf1.out j hlj)
          have HCz := Lib.hid fun w' (hx : Ext W w') => (HZ1.out.at_ hlj hx).2
          have HG1 := Lib.hid (t_go hT.out (l1.getD j 0))
          have HG2 := Lib.hid fun w' (hh : Two W w' bs br (goR s (l1.getD j 0)).2.2 s R) => t_rgo hh (l1.getD j 0) HWz.out
          generalize l1.getD j 0 = z at *
          generalize goR s z = q at *
          obtain ⟨x, e, s2⟩ := q
          have HAl := Lib.hid fun w' (hh : Two W w' bs br s2 s2 R) => alike_any hh (.slice p2 l2.length cap2) l2 (HZ2.out.later hh.ext) HWf2.out HM2.out
          by_cases h4 : j % 4 = 0
          · have k4 : ((j : Int) % 4 == 0) = true := by rw [beq_iff_eq]; omega
            have k5 : ((j : Int).tmod 4 == 0) = true := by rw [beq_iff_eq, Int.tmod_eq_emod_of_nonneg (by omega)]; omega
            clear h4
            go_wp2_with (first
              | (go_at_call 14; refine HG1.out.mono ?_; rintro e1 w4 ⟨rfl, h4, -⟩; have H4 := Lib.hid h4; have cz4 := HCz.out _ h4.ext; clear h4 HG1)
              | (go_at_call 22; refine (HG2.out _ H4.out).mono ?_; rintro e1 w5 ⟨rfl, h5, -⟩; have H5 := Lib.hid h5; clear h5 HG2)
              | (go_at_call 23; refine (HAl.out _ H5.out).mono ?_; rintro e1 w6 ⟨rfl, hx6⟩; have H6 := Lib.hid (H5.out.later hx6); clear hx6))
            go_roundw
            case rel => exact ⟨j + 1, s2, by omega, by go_num, H6⟩
            case measure => simp [intOf]; omega
          · have k4 : ((j : Int) % 4 == 0) = false := by rw [beq_eq_false_iff_ne]; omega
            have k5 : ((j : Int).tmod 4 == 0) = false := by rw [beq_eq_false_iff_ne, Int.tmod_eq_emod_of_nonneg (by omega)]; omega
            clear h4
            go_wp2_with (first
              | (go_at_call 14; refine HG1.out.mono ?_; rintro e1 w4 ⟨rfl, h4, -⟩; have H4 := Lib.hid h4; have cz4 := HCz.out _ h4.ext; clear h4 HG1)
              | (go_at_call 22; refine (HG2.out _ H4.out).mono ?_; rintro e1 w5 ⟨rfl, h5, -⟩; have H5 := Lib.hid h5; clear h5 HG2))
            go_roundw
            case rel => exact ⟨j + 1, s2, by omega, by go_num, H5⟩
            case measure => simp [intOf]; omega
        · have HAl := Lib.hid (alike_any hT.out (.slice p2 l2.length cap2) l2 (HZ2.out.later hT.out.ext) HWf2.out HM2.out)
          go_wp2_with (first
            | (go_at_call 23; refine HAl.out.mono ?_; rintro e1 w6 ⟨rfl, hx6⟩; have H6 := Lib.hid (hT.out.ext.trans hx6); clear hx6)
            | (go_at_call 12; refine (awake_any _).mono ?_; rintro e w7 ⟨rfl, hx⟩; have HX7 := Lib.hid (H6.out.trans hx); clear hx))
          go_ret
          exact ⟨rfl, HX7.out⟩

end Go.Proofs.Ytfgfbmmidijgoaa
