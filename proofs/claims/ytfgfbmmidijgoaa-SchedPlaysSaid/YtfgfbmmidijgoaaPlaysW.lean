/- Picks at once go as far as picks one by one. -/
import Derived.Test.YtfgfbmmidijgoaaGoes
namespace Go.Proofs.Ytfgfbmmidijgoaa
open Go.RowKit
set_option linter.unusedVariables false

/-- a row of picks that came in. -/
structure PsIn (W : World) (p : Option Addr) (cap : Nat) (ps : List Int) : Prop where
  src : Src W 1 (.slice p ps.length cap) ps.length (ps.map (Value.int .i64))
  z : ZsAt W .i64 p ps
  lt : ∀ a, p = some a → a.block < W.heap.size
  wf : ∀ n ∈ ps, (Lit.int .i64 n).wf = true
  short : ps.length ≤ 400
theorem ZsIn.ps {W : World} {v : Value} {zs : List Int} (h : ZsIn W .i64 v zs) (hl : zs.length ≤ 400) : ∃ p cap, v = .slice p zs.length cap ∧ PsIn W p cap zs := by
  obtain ⟨hw, hm, h⟩ := h
  rcases h with ⟨rfl, rfl⟩ | ⟨b, off, cap, rfl, hb, hc⟩
  · exact ⟨none, 0, rfl, .inl ⟨rfl, rfl, rfl⟩, .inl rfl, (fun a ha => by cases ha), hw, hl⟩
  · refine ⟨_, cap, rfl, .inr ⟨⟨b, off, none⟩, cap, rfl, by simp, fun j u hu => ?_⟩, .inr ⟨b, off, rfl, hb, hc⟩, (fun a ha => by cases ha; exact hb), hw, hl⟩
    rw [List.getElem?_map] at hu
    by_cases hj : j < zs.length
    · rw [List.getElem?_eq_getElem hj] at hu
      cases hu
      rw [Addr.add_lit]
      exact hc j hj
    · rw [List.getElem?_eq_none (by omega)] at hu
      cases hu

/-- both, and the two rows of picks. -/
structure Pl (W wr : World) (bs br gl : Nat) (s : Sc) (v1 v2 : Value) : Prop where
  two : Two W wr bs br s s (fun k => k = gl)
  blk : Blk wr gl 31 #[v1, v2]
  lo : W.heap.size ≤ gl

/-- the law's own row of picks, and the number behind it. -/
structure Gr (w : World) (g cap : Nat) (ps : List Int) : Prop where
  row : w.ownsRow 0 3 1 (.slice (some ⟨g, 0, none⟩) (ps.length + 1) cap) (ps.length + 1) (ps.map (Value.int .i64) ++ [.int .i64 171])
theorem Gr.z {w : World} {g cap : Nat} {ps : List Int} (h : Gr w g cap ps) : ZsAt w .i64 (some ⟨g, 0, none⟩) ps := by
  refine .inr ⟨g, 0, rfl, (owns_lt h.row g rfl).2, fun i hi => ?_⟩
  rw [Nat.zero_add, h.row.cellAt i (by omega), List.getElem?_append_left (by simpa using hi), List.getElem?_map, List.getElem?_eq_getElem hi]
  rfl
theorem Gr.last {w : World} {g cap : Nat} {ps : List Int} (h : Gr w g cap ps) : w.cell? ⟨g, ps.length, none⟩ = some (.int .i64 171) := by
  rw [h.row.cellAt ps.length (by omega), List.getElem?_append_right (by simp)]
  simp
theorem Gr.kept {w w' : World} {g cap : Nat} {ps : List Int} {R : Nat → Prop} (h : Gr w g cap ps) (hk : Kept R w w') (hR : R g) : Gr w' g cap ps :=
  ⟨owns_blocks h.row fun k hk' => by
    have : k = g := by simpa [Value.ownBlock] using hk'.symm
    rw [this]; exact hk g hR⟩
theorem Blk.kept {w w' : World} {g : Nat} {t : TypeId} {cs : Array Value} {R : Nat → Prop} (h : Blk w g t cs) (hk : Kept R w w') (hR : R g) : Blk w' g t cs := (hk g hR).trans h

set_option maxRecDepth 20000 in
set_option maxHeartbeats 8000000 in
theorem walk_SchedPlays {W : World} (v0 : Value) (l0 : Tk) (h0 : TkIn W v0 l0 ∧ TkSm l0) (v1 : Value) (l1 : List Int) (h1 : ZsIn W .i64 v1 l1) (v2 : Value) (l2 : List Int) (h2 : ZsIn W .i64 v2 l2) (v3 : Value) (l3 : List Int) (h3 : ZsIn W .i64 v3 l3) :
    Calls Try.prog 10 #[v0, v1, v2, v3] W fun e w' => e = .returned (.bool true) ∧ Ext W w' := by
  obtain ⟨ht, hsm⟩ := h0
  have HHv := Lib.hid (heavy_any v0 l0 W ht hsm)
  have HWf3 := Lib.hid h3.1
  have h1' := h1
  have h2' := h2
  obtain ⟨p1, cap1, rfl, hz1, hm1⟩ := h1.open_
  obtain ⟨p2, cap2, rfl, hz2, hm2⟩ := h2.open_
  obtain ⟨p3, cap3, rfl, hz3, hm3⟩ := h3.open_
  have HM3 := Lib.hid hm3
  have HZ3 := Lib.hid (show RdI W (.slice p3 l3.length cap3) l3 from ⟨_, _, rfl, hz3⟩)
  by_cases hv : 400 < l0.len + total (tkN l0)
  · have k1 := decide_eq_true hv
    rw [k1] at HHv
    clear h1 h2 h3 hz1 hz2 hz3 h1' h2' ht hsm k1 hv hm3
    go_enter Try.func10, Try.ntmps10
    go_wp2_with (first | (go_at_call 19; refine HHv.out.mono ?_; rintro e w1 ⟨rfl, rfl⟩))
    go_ret
    exact ⟨rfl, Ext.refl _⟩
  have k1 := decide_eq_false hv
  rw [k1] at HHv
  by_cases hp : 400 < l1.length
  · clear h1 h2 h3 hz1 hz2 hz3 h1' h2' ht hsm k1 hv hm3
    go_enter Try.func10, Try.ntmps10
    go_wp2_with (first | (go_at_call 19; refine HHv.out.mono ?_; rintro e w1 ⟨rfl, rfl⟩))
    go_ret
    exact ⟨rfl, Ext.refl _⟩
  by_cases hp2 : 400 < l2.length
  · clear h1 h2 h3 hz1 hz2 hz3 h1' h2' ht hsm k1 hv hm3
    go_enter Try.func10, Try.ntmps10
    go_wp2_with (first | (go_at_call 19; refine HHv.out.mono ?_; rintro e w1 ⟨rfl, rfl⟩))
    go_ret
    exact ⟨rfl, Ext.refl _⟩
  have hp4 : l1.length ≤ 400 := by omega
  have hp5 : l2.length ≤ 400 := by omega
  clear hm1 hm2 hm3 hp hp2
  have HP1 : Hid (PsIn W p1 cap1 l1) := Lib.hid (by
    obtain ⟨p, cap, e, hh⟩ := h1'.ps hp4
    cases e
    exact hh)
  have HP2 : Hid (PsIn W p2 cap2 l2) := Lib.hid (by
    obtain ⟨p, cap, e, hh⟩ := h2'.ps hp5
    cases e
    exact hh)
  have HOwn := Lib.hid (own_any W W v0 l0 (Ext.refl W) ht (by omega))
  have hlen : (tkN l0).length = l0.len := tkN_len l0
  have htot : total (tkN l0) ≤ 400 := by omega
  have hl4 : l0.len ≤ 400 := by omega
  have HNew := Lib.hid fun w v (hh : TsIn w v (tkN l0)) => new_any (tkN l0) v w hh (by omega) (by omega) ht.wf
  have HRNew := Lib.hid fun w (hx : Ext W w) => rnew_any (tkN l0) v0 w (ht.ts.later hx) (by omega) (by omega) ht.wf
  have HLN := Lib.hid hlen
  clear h1 h2 h3 hz1 hz2 hz3 h1' h2' ht hsm k1 hv
  by_cases hbig : 64 < (tkN l0).length ∨ 10000 < total (tkN l0)
  · unfold NewPost at HNew
    unfold RNewPost at HRNew
    simp only [if_pos hbig] at HNew HRNew
    clear hbig hlen htot
    go_enter Try.func10, Try.ntmps10
    go_wp2_with (first
      | (go_at_call 19; refine HHv.out.mono ?_; rintro e w1 ⟨rfl, rfl⟩)
      | (go_at_call 20; refine HOwn.out.mono ?_; rintro e w1 ⟨v', vals, rfl, hG⟩; have HG := Lib.hid hG; obtain ⟨pg, capg, rfl, -, -, -⟩ := owns_form hG.tk.own; rw [HLN.out] at HG ⊢; clear hG)
      | (go_at_call 11; refine (HNew.out _ _ HG.out.tk.tsin).mono ?_; rintro e w2 ⟨hx, rfl⟩; have HX2 := Lib.hid (HG.out.tk.ext.trans hx); clear hx)
      | (go_at_call 21; refine (HRNew.out _ HX2.out).mono ?_; rintro e w3 ⟨hx, rfl⟩; have HX3 := Lib.hid (HX2.out.trans hx); clear hx)
      | (go_at_call 12; refine (awake_any _).mono ?_; rintro e w4 ⟨rfl, hx⟩; have HX4 := Lib.hid (HX3.out.trans hx); clear hx))
    go_ret
    exact ⟨rfl, HX4.out⟩
  by_cases hok : okTs (tkN l0) = false
  · unfold NewPost at HNew
    unfold RNewPost at HRNew
    simp only [if_neg hbig, if_pos hok] at HNew HRNew
    clear hbig hok hlen htot
    go_enter Try.func10, Try.ntmps10
    go_wp2_with (first
      | (go_at_call 19; refine HHv.out.mono ?_; rintro e w1 ⟨rfl, rfl⟩)
      | (go_at_call 20; refine HOwn.out.mono ?_; rintro e w1 ⟨v', vals, rfl, hG⟩; have HG := Lib.hid hG; obtain ⟨pg, capg, rfl, -, -, -⟩ := owns_form hG.tk.own; rw [HLN.out] at HG ⊢; clear hG)
      | (go_at_call 11; refine (HNew.out _ _ HG.out.tk.tsin).mono ?_; rintro e w2 ⟨hx, rfl⟩; have HX2 := Lib.hid (HG.out.tk.ext.trans hx); clear hx)
      | (go_at_call 21; refine (HRNew.out _ HX2.out).mono ?_; rintro e w3 ⟨hx, rfl⟩; have HX3 := Lib.hid (HX2.out.trans hx); clear hx)
      | (go_at_call 12; refine (awake_any _).mono ?_; rintro e w4 ⟨rfl, hx⟩; have HX4 := Lib.hid (HX3.out.trans hx); clear hx))
    go_ret
    exact ⟨rfl, HX4.out⟩
  unfold NewPost at HNew
  unfold RNewPost at HRNew
  simp only [if_neg hbig, if_neg hok] at HNew HRNew
  clear hbig hok hlen htot
  go_enter Try.func10, Try.ntmps10
  go_wp2_with (first
    | (go_at_call 19; refine HHv.out.mono ?_; rintro e w1 ⟨rfl, rfl⟩)
    | (go_at_call 20; refine HOwn.out.mono ?_; rintro e w1 ⟨v', vals, rfl, hG⟩; have HG := Lib.hid hG; obtain ⟨pg, capg, rfl, -, -, -⟩ := owns_form hG.tk.own; rw [HLN.out] at HG ⊢; clear hG)
    | (go_at_call 11; refine (HNew.out _ _ HG.out.tk.tsin).mono ?_; rintro e w2 ⟨hx, bs, rfl, hs⟩; have HX2 := Lib.hid hx; have HS2 := Lib.hid hs; clear hx hs)
    | (go_at_call 21; refine (HRNew.out _ (HG.out.tk.ext.trans HX2.out)).mono ?_; rintro e w3 ⟨hx, br, Fr, r, rfl, hr, hre, hrf⟩; have H3 := Lib.hid (show Pl W (w3.alloc (.cells #[.slice p1 l1.length cap1, .slice p2 l2.length cap2] 31)) bs br w3.heap.size (sc0 (tkN l0)) (.slice p1 l1.length cap1) (.slice p2 l2.length cap2) from ⟨(two_new HG.out.tk.ext (R := fun _ => False) (fun k hk => hk.elim) HX2.out HS2.out hx hr hre hrf).more ((Ext.refl _).alloc _ _) (fun k hk => ⟨.inr (by omega), by rw [World.size_alloc]; omega⟩), Blk.new _ _ _, ((HG.out.tk.ext.trans HX2.out).trans hx).size⟩); clear hx hr hre hrf HS2 HX2))
  clear HG HOwn HNew HRNew HHv HLN
  generalize sc0 (tkN l0) = s0 at *
  generalize w3.heap.size = gl at *
  generalize w3.alloc (.cells #[.slice p1 l1.length cap1, .slice p2 l2.length cap2] 31) = w4 at *
  obtain ⟨i0, hi0, hz0, hz1, hz2⟩ := info_parts int_info
  go_loopw [65] (fun i wr => ∃ (q : Nat) (s : Sc), q ≤ 2 ∧ i = .int .i64 q ∧ Hid (Pl W wr bs br gl s (.slice p1 l1.length cap1) (.slice p2 l2.length cap2))) (fun i _ => 2 - (intOf i).toNat)
  case atStart => exact ⟨0, s0, by omega, rfl, H3⟩
  case round =>
    obtain ⟨q, s, hq, rfl, hO⟩ := hrel
    clear H3
    by_cases hlt : q < 2
    · obtain ⟨p, cap, ps, hcell, hps⟩ : ∃ p cap ps, wr.cell? ⟨gl, q, none⟩ = some (.slice p (List.length ps) cap) ∧ Hid (PsIn W p cap ps) := by
        rcases (show q = 0 ∨ q = 1 by omega) with rfl | rfl
        · exact ⟨p1, cap1, l1, hO.out.blk.cell 0, HP1⟩
        · exact ⟨p2, cap2, l2, hO.out.blk.cell 1, HP2⟩
      have hn := hps.out.short
      have hgl := hO.out.blk.lt
      have HSrc := Lib.hid (src_later hps.out.src hO.out.two.ext (by decide))
      go_wp2_with (first | (at_builtin; refine wpList_append_all wr.heap.size _ rfl (.tmp 69) (.tmp 70) 31 rfl 3 i0 _ 1 8 Try.underlying31 hi0 hz0 hz1 hz2 rfl (by decide) (.slice (some ⟨wr.heap.size, 0, none⟩) 0 0) 0 [] (by rfl) (by exact owns_empty wr wr.heap.size 3 1 (Nat.le_refl _)) (.slice p ps.length cap) ps.length (ps.map (Value.int .i64)) (by rfl) (by exact src_later HSrc.out ((Ext.refl _).alloc _ _) (by decide)) (ints_one ps) (by unfold maxLen; omega) (by omega) (by simp) ?_) | fail)
      intro v5 w5 ho5 hc5 _
      have HX5 := Lib.hid (hc5.ext ((Ext.refl wr).alloc #[] 3) fun i hi => by simp [Value.ownBlock] at hi; omega)
      have HO5 : Hid (w5.ownsRow wr.heap.size 3 1 v5 ps.length (ps.map (Value.int .i64))) := Lib.hid (by simpa using ho5)
      obtain ⟨p5, cap5, rfl, -, -, -⟩ := owns_form HO5.out
      have hs5 := HX5.out.size
      clear ho5 hc5 HSrc
      go_wp2_with (first | (at_builtin; refine wpList_append_all wr.heap.size _ rfl (.tmp 71) (.tmp 72) 31 rfl 3 i0 _ 1 8 Try.underlying31 hi0 hz0 hz1 hz2 rfl (by decide) _ _ _ (by rfl) (by exact owns_later HO5.out (((Ext.refl _).alloc _ _).below)) (.slice (some ⟨w5.heap.size, 0, none⟩) 1 1) 1 [.int .i64 171] (by rfl) (by exact src_one w5 [.int .i64 171] _ 1 rfl) (by intro u hu; simp at hu; subst hu; rfl) (by unfold maxLen; omega) (by omega) (by simp; omega) ?_) | fail)
      intro v6 w6 ho6 hc6 _
      have HX6 := Lib.hid (hc6.ext (HX5.out.alloc #[.int .i64 171] 3) fun i hi => (owns_lt HO5.out i hi).1)
      have HO6 := Lib.hid ho6
      obtain ⟨p6, cap6, rfl, hc7, -, hp6⟩ := owns_form ho6
      clear ho6 hc6 HO5 HX5
      rcases hp6 with hp6 | ⟨g, rfl, hglo, hgw⟩
      · omega
      have HG6 := Lib.hid (Gr.mk (owns_rebase HO6.out fun g hg => Nat.zero_le _))
      have H6 := Lib.hid (show Two W w6 bs br s s (fun k => k = gl ∨ k = g) from hO.out.two.more HX6.out fun k hk => by
        have := HX6.out.size
        rcases hk with rfl | rfl
        · exact ⟨.inl rfl, by omega⟩
        · exact ⟨.inr hglo, hgw⟩)
      have HB6 := Lib.hid (hO.out.blk.later HX6.out)
      have HLO := Lib.hid hO.out.lo
      have HC1 := Lib.hid (t_play H6.out (some ⟨g, 0, none⟩) cap6 ps HG6.out.z (fun a ha => by cases ha; exact .inl (.inr rfl)) (by omega))
      have HC2 := Lib.hid fun w' (hh : Two W w' bs br (playR ps 0 s).2.2 s (fun k => k = gl ∨ k = g)) => t_rplay hh p cap ps (show ZsAt w' .i64 p ps from by
        have hr : RdI W (.slice p ps.length cap) ps := ⟨_, _, rfl, hps.out.z⟩
        obtain ⟨p', cap', e, hz⟩ := hr.later hh.ext
        cases e
        exact hz) (fun a ha => .inr (hps.out.lt a ha)) (by omega) hps.out.wf
      clear hO HO6
      generalize playR ps 0 s = pr at *
      obtain ⟨x, e, s2⟩ := pr
      have HR1 : Hid (OwnIn W (fun k => k = gl ∨ k = g) g ∧ OwnIn W (fun k => k = gl ∨ k = g) gl) := Lib.hid ⟨.inl (.inr rfl), .inl (.inl rfl)⟩
      go_wp2_with (first
        | (go_at_call 24; refine HC1.out.mono ?_; rintro e1 w7 ⟨rfl, h7, hk7⟩; have H7 := Lib.hid h7; have HG7 := Lib.hid (HG6.out.kept hk7 HR1.out.1); have HB7 := Lib.hid (HB6.out.kept hk7 HR1.out.2); clear h7 hk7 HG6 HB6 HC1)
        | (go_at_call 25; refine (HC2.out _ H7.out).mono ?_; rintro e1 w8 ⟨rfl, h8, hk8⟩; have H8 := Lib.hid h8; have HG8 := Lib.hid (HG7.out.kept hk8 HR1.out.1); have HB8 := Lib.hid (HB7.out.kept hk8 HR1.out.2); clear h8 hk8 HG7 HB7 HC2)
        | (go_at_call 26; refine (list_same (.slice (some ⟨g, 0, none⟩) ps.length cap6) (.slice p ps.length cap) ps w8 ⟨_, _, rfl, HG8.out.z⟩ ((show RdI W (.slice p ps.length cap) ps from ⟨_, _, rfl, hps.out.z⟩).later H8.out.ext) (by omega)).mono ?_; rintro e1 w9 ⟨rfl, hx9⟩; have H9 := Lib.hid (H8.out.later hx9); have c9 : w9.cell? ⟨g, ps.length, none⟩ = some (.int .i64 171) := (hx9.cell g _ (owns_lt HG8.out.row g rfl).2).trans HG8.out.last; have hg9 := Nat.lt_of_lt_of_le (owns_lt HG8.out.row g rfl).2 hx9.size; have HB9 := Lib.hid (HB8.out.later hx9); clear hx9 HG8 HB8)
        | (go_at_call 23; refine (alike_any H9.out (.slice p3 l3.length cap3) l3 (HZ3.out.later H9.out.ext) HWf3.out HM3.out).mono ?_; rintro e1 w10 ⟨rfl, hx10⟩; have HN := Lib.hid (show Pl W w10 bs br gl s2 (.slice p1 l1.length cap1) (.slice p2 l2.length cap2) from ⟨H9.out.more hx10 (fun k hk => ⟨.inl (.inl hk), by rw [hk]; exact Nat.lt_of_lt_of_le HB9.out.lt hx10.size⟩), HB9.out.later hx10, HLO.out⟩); clear hx10))
      go_roundw
      case rel => exact ⟨q + 1, s2, by omega, by go_num, HN⟩
      case measure => simp [intOf]; omega
    · have HX := Lib.hid hO.out.two.ext
      go_wp2_with (first
        | (go_at_call 12; refine (awake_any _).mono ?_; rintro e w7 ⟨rfl, hx⟩; have HX7 := Lib.hid (HX.out.trans hx); clear hx))
      go_ret
      exact ⟨rfl, HX7.out⟩

end Go.Proofs.Ytfgfbmmidijgoaa
