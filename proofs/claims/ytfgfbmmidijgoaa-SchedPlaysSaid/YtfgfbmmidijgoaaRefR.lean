/- The contracts of the reference's Holder, Cell, Left and Enabled. -/
import Derived.Test.YtfgfbmmidijgoaaRefS
import Derived.Test.YtfgfbmmidijgoaaRowS
import Derived.Deep.RegionHeld3
namespace Go.Proofs.Ytfgfbmmidijgoaa
open Go.RowKit
set_option linter.unusedVariables false

section
variable {w w' : World} {b : Nat} {F G : Nat → Prop} {r : Rf} {tv av lv cv ov : Value} {vals : List Value}
theorem natsL_at (A : List Nat) (i : Nat) (h : i < A.length) : (natsL A)[i]? = some (.int .i64 (A.getD i 0 : Nat)) := by
  unfold natsL
  rw [List.getElem?_map, List.getElem?_eq_getElem h, List.getD_eq_getElem?_getD, List.getElem?_eq_getElem h]
  rfl
theorem RAt.open_ (h : RAt w b F r tv av lv cv ov vals) : ∃ pt capt pa capa, tv = .slice pt r.T.length capt ∧ av = .slice pa r.T.length capa ∧
    ∀ i, i < r.T.length → ∃ gt ga p cap, pt = some ⟨gt, 0, none⟩ ∧ pa = some ⟨ga, 0, none⟩ ∧ gt < w.heap.size ∧ ga < w.heap.size ∧ w.cell? ⟨gt, i, none⟩ = some (.slice p (r.T.getD i []).length cap) ∧ w.cell? ⟨ga, i, none⟩ = some (.int .i64 (r.A.getD i 0 : Nat)) ∧ StRow w F (.slice p (r.T.getD i []).length cap) (r.T.getD i []) := by
  obtain ⟨pt, capt, rfl, -, -, hp⟩ := owns_form h.ts
  have hat := h.at_
  rw [h.len] at hat
  obtain ⟨pa, capa, rfl, -, -, hq⟩ := owns_form hat
  refine ⟨pt, capt, pa, capa, rfl, rfl, fun i hi => ?_⟩
  rcases hp with hp | ⟨gt, rfl, -, h2⟩
  · omega
  rcases hq with hq | ⟨ga, rfl, -, h3⟩
  · omega
  obtain ⟨p, cap, e, -⟩ := h.rows i hi
  have hr := h.rows i hi
  rw [e] at hr
  refine ⟨gt, ga, p, cap, rfl, rfl, h2, h3, ?_, ?_, hr⟩
  · have hc := h.ts.cellAt i (by omega)
    have hl : vals.length = r.T.length := by have := h.ts.1; omega
    rw [hc, ← e, List.getD_eq_getElem?_getD, List.getElem?_eq_getElem (by omega)]
    rfl
  · rw [hat.cellAt i (by omega), natsL_at _ _ (by rw [h.len]; exact hi)]
theorem RAt.lens (h : RAt w b F r tv av lv cv ov vals) (i : Nat) : (r.T.getD i []).length ≤ 10000 := Nat.le_trans (total_le r.T i) h.all
end

set_option maxHeartbeats 800000 in
theorem rholder_any (b : Nat) (F : Nat → Prop) (r : Rf) (c : Int) (w : World) (h : RIs w b F r) :
    Calls Try.prog 34 #[.pointer (some ⟨b, 0, none⟩), .int .i64 c] w fun e w' => e = .returned (.tuple #[.int .i64 ((lookP r.L c).getD 0), .bool (lookP r.L c).isSome]) ∧ w = w' := by
  obtain ⟨⟨tv, av, lv, cv, ov, vals, h1⟩, h2⟩ := h
  have c2 : w.cell? ⟨b, 2, none⟩ = some lv := h1.blk.cell 2
  have hb := h1.blk.lt
  have HP := Lib.hid (ps_of_own h1.lk (by have := h1.few; omega))
  clear h1 h2
  go_enter Try.func34, Try.ntmps34
  go_wp2_with (first | (go_at_call 41; refine (look_any _ _ c _ HP.out).mono ?_; rintro q w1 ⟨rfl, rfl⟩))
  go_ret2
  exact ⟨rfl, rfl⟩
set_option maxHeartbeats 800000 in
theorem rcell_any (b : Nat) (F : Nat → Prop) (r : Rf) (c : Int) (w : World) (h : RIs w b F r) :
    Calls Try.prog 37 #[.pointer (some ⟨b, 0, none⟩), .int .i64 c] w fun e w' => e = .returned (.int .i64 ((lookP r.C c).getD 0)) ∧ w = w' := by
  obtain ⟨⟨tv, av, lv, cv, ov, vals, h1⟩, h2⟩ := h
  have c3 : w.cell? ⟨b, 3, none⟩ = some cv := h1.blk.cell 3
  have hb := h1.blk.lt
  have HP := Lib.hid (ps_of_own h1.cl (by have := h1.few; omega))
  clear h1 h2
  go_enter Try.func37, Try.ntmps37
  go_wp2_with (first | (go_at_call 41; refine (look_any _ _ c _ HP.out).mono ?_; rintro q w1 ⟨rfl, rfl⟩))
  go_ret
  exact ⟨rfl, rfl⟩
set_option maxRecDepth 20000 in
set_option maxHeartbeats 2000000 in
theorem rleft_any (b : Nat) (F : Nat → Prop) (r : Rf) (i : Int) (hi : (Lit.int .i64 i).wf = true) (w : World) (h : RIs w b F r) :
    Calls Try.prog 38 #[.pointer (some ⟨b, 0, none⟩), .int .i64 i] w fun e w' => e = .returned (.tuple #[.int .i64 (leftI (absS r) i).1, .int .i64 (leftI (absS r) i).2]) ∧ Ext w w' := by
  obtain ⟨⟨tv, av, lv, cv, ov, vals, h1⟩, h2⟩ := h
  have c0 : w.cell? ⟨b, 0, none⟩ = some tv := h1.blk.cell 0
  have c1 : w.cell? ⟨b, 1, none⟩ = some av := h1.blk.cell 1
  have hb := h1.blk.lt
  have hw := h1.wide
  obtain ⟨pt, capt, pa, capa, rfl, rfl, hopen⟩ := h1.open_
  have hll := h1.lens
  have hle := h1.le
  have hlen : (absS r).ts.length = r.T.length := absT_len _ _
  by_cases hin : i < 0
  · have HE := Lib.hid (show leftI (absS r) i = (0, 1) from if_pos (.inl hin))
    clear h1 h2 hopen hll hle
    go_enter Try.func38, Try.ntmps38
    go_wp2
    go_ret2
    rw [HE.out]
    exact ⟨rfl, Ext.refl _⟩
  · by_cases hin2 : (r.T.length : Int) ≤ i
    · have HE := Lib.hid (show leftI (absS r) i = (0, 1) from if_pos (.inr (by rw [hlen]; exact hin2)))
      clear h1 h2 hopen hll hle
      go_enter Try.func38, Try.ntmps38
      go_wp2
      go_ret2
      rw [HE.out]
      exact ⟨rfl, Ext.refl _⟩
    · obtain ⟨k, rfl⟩ : ∃ k : Nat, i = k := ⟨i.toNat, by omega⟩
      have HE := Lib.hid (show leftI (absS r) (k : Int) = (((r.T.getD k []).length : Int) - (r.A.getD k 0 : Nat), 0) by
        unfold leftI
        rw [if_neg (by rw [hlen]; omega)]
        show ((((absT r.T r.A).getD ((k : Int)).toNat []).length : Int), (0 : Int)) = _
        rw [show ((k : Int)).toNat = k by omega, absT_get _ _ (by omega), List.length_drop]
        have := hle k (by omega)
        congr 1
        omega)
      obtain ⟨gt, ga, p, cap, rfl, rfl, hgt, hga, ct, ca, -⟩ := hopen k (by omega)
      have hl := hll k
      have hk := hle k (by omega)
      clear h1 h2 hopen hll hle
      generalize (r.T.getD k []).length = m at *
      generalize r.A.getD k 0 = a at *
      go_enter Try.func38, Try.ntmps38
      go_wp2
      go_quiet (fail)
      go_wp2
      go_ret2
      rw [HE.out]
      exact ⟨rfl, by first | exact Ext.refl _ | exact (Ext.refl _).drew | exact (Ext.refl _).drewN' _⟩

theorem EnRel.none_ {w wr : World} {s : Sc} {v : Value} {k : Nat} (h : EnRel w wr s v k) (hov : s.over = true) (n : Nat) : EnRel w wr s v n := by
  refine ⟨?_, h.ext⟩
  have := h.row
  rw [enL_none hov] at this ⊢
  exact this
theorem EnRel.drewN {w wr : World} {s : Sc} {v : Value} {k : Nat} (h : EnRel w wr s v k) (n : Nat) : EnRel w (wr.drewN n) s v k :=
  ⟨owns_later h.row ((Ext.refl wr).drewN' n).below, h.ext.trans ((Ext.refl wr).drewN' n)⟩
theorem EnRel.later {w wr w1 : World} {s : Sc} {v : Value} {k : Nat} (h : EnRel w wr s v k) (hx : Ext wr w1) : EnRel w w1 s v k :=
  ⟨owns_later h.row hx.below, h.ext.trans hx⟩
theorem renB {r : Rf} {k : Nat} (hk : k < r.T.length) : enB (absS r) k = (!r.over && match (r.T.getD k []).drop (r.A.getD k 0) with | [] => false | x :: _ => !waitsB (absS r) x) := by
  show (!r.over && match (absT r.T r.A).getD k [] with | [] => false | x :: _ => !waitsB (absS r) x) = _
  rw [absT_get _ _ hk]

set_option maxRecDepth 20000 in
set_option maxHeartbeats 8000000 in
theorem renabled_any (b : Nat) (F : Nat → Prop) (r : Rf) (w : World) (h : RIs w b F r) :
    Calls Try.prog 33 #[.pointer (some ⟨b, 0, none⟩)] w (EnPost (absS r) w) := by
  obtain ⟨i0, hi0, hz0, hz1, hz2⟩ := info_parts int_info
  have HS := Lib.hid h
  obtain ⟨⟨tv, av, lv, cv, ov, vals, h1⟩, h2⟩ := h
  have c0 : w.cell? ⟨b, 0, none⟩ = some tv := h1.blk.cell 0
  have c1 : w.cell? ⟨b, 1, none⟩ = some av := h1.blk.cell 1
  have c5 : w.cell? ⟨b, 5, none⟩ = some (.bool r.over) := h1.blk.cell 5
  have hb := h1.blk.lt
  obtain ⟨pt, capt, pa, capa, rfl, rfl, hopen⟩ := h1.open_
  have hw := h1.wide
  have HLN := Lib.hid (show (absS r).ts.length = r.T.length from absT_len _ _)
  have HO := Lib.hid hopen
  have HT := Lib.hid h2
  have HLen := Lib.hid h1.lens
  have HLe := Lib.hid h1.le
  have HOK := Lib.hid h1.ok
  clear h1 h2 hopen
  unfold EnPost
  rw [HLN.out]
  go_enter Try.func33, Try.ntmps33
  go_wp2
  go_loopw [3, 4] (fun v i wr => ∃ k : Nat, k ≤ r.T.length ∧ i = .int .i64 k ∧ Hid (EnRel w wr (absS r) v k)) (fun _ i _ => r.T.length - (intOf i).toNat)
  case atStart => exact ⟨0, by omega, rfl, Lib.hid ⟨owns_nil _ _ _ _, Ext.refl _⟩⟩
  case round =>
    obtain ⟨k, hk, rfl, hR⟩ := hrel
    have d0 := (hR.out.ext.cell _ _ hb).trans c0
    have d1 := (hR.out.ext.cell _ _ hb).trans c1
    have d5 := (hR.out.ext.cell _ _ hb).trans c5
    by_cases hov : r.over = true
    · have HN := Lib.hid (hR.out.none_ (s := absS r) hov r.T.length)
      rw [hov] at d5
      clear c0 c1 c5
      by_cases hlt : k < r.T.length
      · go_wp2_with fail
        go_ret
        exact ⟨_, rfl, HN.out⟩
      · go_wp2_with fail
        go_ret
        exact ⟨_, rfl, HN.out⟩
    have hov : r.over = false := by simpa using hov
    rw [hov] at d5
    by_cases hlt : k < r.T.length
    · have HEN := Lib.hid (renB hlt)
      rw [hov] at HEN
      obtain ⟨gt, ga, p, cap, rfl, rfl, hgt, hga, ct, ca, hst⟩ := HO.out k hlt
      have ct := (hR.out.ext.cell _ _ hgt).trans ct
      have ca := (hR.out.ext.cell _ _ hga).trans ca
      have hl := HLen.out k
      have hla := HLe.out k hlt
      have HOKk := Lib.hid (HOK.out k)
      have HSk := Lib.hid (HS.out.later hR.out.ext)
      have hst := hst.later (fun g hg => HT.out g hg) hR.out.ext
      have HST := Lib.hid hst
      clear hst c0 c1 c5 hov
      generalize r.T.getD k [] = t at *
      generalize r.A.getD k 0 = a at *
      by_cases hat : a = t.length
      · have HE := Lib.hid (HEN.out.trans (by rw [hat, List.drop_length]; first | done | rfl))
        have k1 : ((a : Int) == (t.length : Int)) = true := by simp; omega
        have HN := Lib.hid fun q => (hR.out.skip ((Ext.refl wr).drewN' q) HE.out)
        clear hR HE HEN hat
        go_wp2_with fail
        go_quiet (fail)
        go_wp2_with fail
        go_roundw
        case rel => exact ⟨k + 1, by omega, by go_num, Lib.hid (HN.out _)⟩
        case measure => simp [intOf]; omega
      · have k1 : ((a : Int) == (t.length : Int)) = false := by simp; omega
        go_wp2_with fail
        go_quiet (fail)
        obtain ⟨x, hx⟩ : ∃ x, t[a]? = some x := ⟨_, List.getElem?_eq_getElem (show a < t.length by omega)⟩
        have hdr : t.drop a = x :: t.drop (a + 1) := by
          obtain ⟨h1, h2⟩ := List.getElem?_eq_some_iff.1 hx
          rw [List.drop_eq_getElem_cons h1, h2]
        have HE := Lib.hid (HEN.out.trans (show _ = !waitsB (absS r) x by rw [hdr]; rfl))
        have HX := Lib.hid (HOKk.out x (List.mem_of_getElem? hx))
        obtain ⟨g, off, x', rfl, hg, hx', x0, x1, x2⟩ := HST.out.at_ (show a < t.length by omega)
        rw [hx] at hx'
        injection hx' with e
        subst e
        have hgl := HT.out g hg
        clear hx hdr HEN HOKk hg HST
        have hal : a < t.length := by omega
        go_wp2_with fail
        have hR5 := Lib.hid (hR.out.drewN nq)
        have HS5 := Lib.hid (HSk.out.later ((Ext.refl wr).drewN' nq))
        have y0 : (wr.drewN nq).cell? ⟨b, 0, none⟩ = _ := d0
        have y1 : (wr.drewN nq).cell? ⟨b, 1, none⟩ = _ := d1
        have yt : (wr.drewN nq).cell? ⟨gt, k, none⟩ = _ := ct
        have ya : (wr.drewN nq).cell? ⟨ga, k, none⟩ = _ := ca
        have v0 : (wr.drewN nq).cell? ⟨g, off + a * 3, none⟩ = _ := x0
        have v1 : (wr.drewN nq).cell? ⟨g, off + a * 3 + 1, none⟩ = _ := x1
        have v2 : (wr.drewN nq).cell? ⟨g, off + a * 3 + 2, none⟩ = _ := x2
        clear hR HSk d0 d1 d5 ct ca x0 x1 x2
        generalize wr.drewN nq = W5 at *
        have hsz := hR5.out.ext.size
        have z1 : W5.heap.size ≠ b := by omega
        have z2 : W5.heap.size ≠ gt := by omega
        have z3 : W5.heap.size ≠ ga := by omega
        have z4 : W5.heap.size ≠ g := by omega
        have z5 : b ≠ W5.heap.size := by omega
        have z6 : gt ≠ W5.heap.size := by omega
        have z7 : ga ≠ W5.heap.size := by omega
        have z8 : g ≠ W5.heap.size := by omega
        go_region_held3 (fun w' => w'.cell? ⟨b, 0, none⟩ = some (.slice (some ⟨gt, 0, none⟩) r.T.length capt) ∧ w'.cell? ⟨b, 1, none⟩ = some (.slice (some ⟨ga, 0, none⟩) r.T.length capa) ∧ w'.cell? ⟨gt, k, none⟩ = some (.slice (some ⟨g, off, none⟩) t.length cap) ∧ w'.cell? ⟨ga, k, none⟩ = some (.int .i64 (a : Nat)) ∧ w'.cell? ⟨g, off + a * 3, none⟩ = some (.int .i64 x.op) ∧ w'.cell? ⟨g, off + a * 3 + 1, none⟩ = some (.int .i64 x.a) ∧ w'.cell? ⟨g, off + a * 3 + 2, none⟩ = some (.int .i64 x.b)) (go_keep) (fail)
        have hx6 : Ext W5 (W5.alloc (.cells #[.int .i64 x.op, .int .i64 x.a, .int .i64 x.b] 25)).drew := ((Ext.refl W5).alloc _ _).drew
        have hR6 := Lib.hid (hR5.out.later hx6)
        have HS6 := Lib.hid (HS5.out.later hx6)
        have hB6 : Blk (W5.alloc (.cells #[.int .i64 x.op, .int .i64 x.a, .int .i64 x.b] 25)).drew W5.heap.size 25 #[.int .i64 x.op, .int .i64 x.a, .int .i64 x.b] := (Blk.new W5 _ _).drew
        have q0 := hB6.cell 0
        have q1 := hB6.cell 1
        have q2 := hB6.cell 2
        simp only [List.getElem?_toArray, List.getElem?_cons_succ, List.getElem?_cons_zero] at q0 q1 q2
        have hl6 := hB6.lt
        clear hx6 hB6 hR5 HS5 y0 y1 yt ya v0 v1 v2 z1 z2 z3 z4 z5 z6 z7 z8 hsz
        generalize (W5.alloc (.cells #[.int .i64 x.op, .int .i64 x.a, .int .i64 x.b] 25)).drew = W6 at *
        generalize W5.heap.size = g6 at *
        have HB := fun w' (hx' : Ext W6 w') => rholder_any b F r x.a w' (HS6.out.later hx')
        have HC := Lib.hid fun w' (hx' : Ext W6 w') => rcell_any b F r x.a w' (HS6.out.later hx')
        by_cases o1 : x.op = 1
        · rw [o1] at q0
          cases hh : (lookP r.L x.a).isSome
          · have HE2 := Lib.hid (HE.out.trans (show (!waitsB (absS r) x) = true by unfold waitsB; rw [if_pos o1]; show (!(lookP r.L x.a).isSome) = true; rw [hh]; rfl))
            simp only [hh] at HB
            clear hh HE
            go_wp2_with (first | (go_at_call 34; refine (HB _ (Ext.refl W6)).mono ?_; rintro q w1 ⟨rfl, rfl⟩))
            go_quiet ((go_at_call 37; exact Calls.quiet_of_same ((HC.out _ (by first | exact (Ext.refl _).drew | exact (Ext.refl _).drewN' _)).mono fun _ _ ⟨a, b⟩ => ⟨a, b.symm⟩)))
            have hR7 := Lib.hid (hR6.out.drewN nq)
            generalize W6.drewN nq = W7 at *
            have hen := enL_len (absS r) k
            obtain ⟨pv, capv, rfl, -, -, -⟩ := owns_form hR7.out.row
            generalize hm : (enL (absS r) k).length = m at *
            have HM := Lib.hid hm
            clear hm
            go_wp2_with (first | (at_builtin; refine wpList_append_all w.heap.size _ rfl (.tmp 83) (.tmp 85) 31 rfl 3 i0 _ 1 8 Try.underlying31 hi0 hz0 hz1 hz2 rfl (by decide) _ _ _ (by rfl) (by exact owns_later hR7.out.row (((Ext.refl _).alloc _ _).below)) (.slice (some ⟨W7.heap.size, 0, none⟩) 1 1) 1 [.int .i64 (k : Nat)] (by rfl) (by exact src_one W7 [.int .i64 (k : Nat)] _ 1 rfl) (by intro u hu; simp at hu; subst hu; rfl) (by rw [HM.out]; unfold maxLen; omega) (by rw [HM.out]; omega) (by have := hR7.out.ext.size; simp; omega) ?_) | fail)
            intro v' w2 hown hchg hat2
            have HN := Lib.hid (hR7.out.add HE2.out (by have := hown; rw [HM.out] at *; exact this) hchg)
            obtain ⟨p1, cap1, rfl, -, -, -⟩ := owns_form hown
            clear hown hchg hat2 hR7
            go_wp2_with fail
            go_roundw
            case rel => exact ⟨k + 1, by omega, by go_num, HN⟩
            case measure => simp [intOf]; omega
          · have HE2 := Lib.hid (HE.out.trans (show (!waitsB (absS r) x) = false by unfold waitsB; rw [if_pos o1]; show (!(lookP r.L x.a).isSome) = false; rw [hh]; rfl))
            simp only [hh] at HB
            clear hh HE
            go_wp2_with (first | (go_at_call 34; refine (HB _ (Ext.refl W6)).mono ?_; rintro q w1 ⟨rfl, rfl⟩))
            go_quiet ((go_at_call 37; exact Calls.quiet_of_same ((HC.out _ (by first | exact (Ext.refl _).drew | exact (Ext.refl _).drewN' _)).mono fun _ _ ⟨a, b⟩ => ⟨a, b.symm⟩)))
            go_wp2_with fail
            have HN := Lib.hid (hR6.out.skip ((Ext.refl W6).drewN' nq) HE2.out)
            go_roundw
            case rel => exact ⟨k + 1, by omega, by go_num, Lib.hid (by first | exact HN.out | exact hR6.out.skip ((Ext.refl W6).drew) HE2.out)⟩
            case measure => simp [intOf]; omega
        · by_cases o4 : x.op = 4
          · rw [o4] at q0
            by_cases hc : (lookP r.C x.a).getD 0 < x.b
            · have HE2 := Lib.hid (HE.out.trans (show (!waitsB (absS r) x) = false by unfold waitsB; rw [if_neg o1, if_pos o4]; show (!decide ((lookP r.C x.a).getD 0 < x.b)) = false; rw [decide_eq_true hc]; rfl))
              have kc : decide ((lookP r.C x.a).getD 0 < x.b) = true := decide_eq_true hc
              clear hc HE
              go_wp2_with (first | (go_at_call 34; refine (HB _ (Ext.refl W6)).mono ?_; rintro q w1 ⟨rfl, rfl⟩))
              go_quiet ((go_at_call 37; exact Calls.quiet_of_same ((HC.out _ (by first | exact (Ext.refl _).drew | exact (Ext.refl _).drewN' _)).mono fun _ _ ⟨a, b⟩ => ⟨a, b.symm⟩)))
              go_wp2_with fail
              have HN := Lib.hid (hR6.out.skip ((Ext.refl W6).drewN' nq) HE2.out)
              go_roundw
              case rel => exact ⟨k + 1, by omega, by go_num, Lib.hid (by first | exact HN.out | exact hR6.out.skip ((Ext.refl W6).drew) HE2.out)⟩
              case measure => simp [intOf]; omega
            · have HE2 := Lib.hid (HE.out.trans (show (!waitsB (absS r) x) = true by unfold waitsB; rw [if_neg o1, if_pos o4]; show (!decide ((lookP r.C x.a).getD 0 < x.b)) = true; rw [decide_eq_false hc]; rfl))
              have kc : decide ((lookP r.C x.a).getD 0 < x.b) = false := decide_eq_false hc
              clear hc HE
              go_wp2_with (first | (go_at_call 34; refine (HB _ (Ext.refl W6)).mono ?_; rintro q w1 ⟨rfl, rfl⟩))
              go_quiet ((go_at_call 37; exact Calls.quiet_of_same ((HC.out _ (by first | exact (Ext.refl _).drew | exact (Ext.refl _).drewN' _)).mono fun _ _ ⟨a, b⟩ => ⟨a, b.symm⟩)))
              have hR7 := Lib.hid (hR6.out.drewN nq)
              generalize W6.drewN nq = W7 at *
              have hen := enL_len (absS r) k
              obtain ⟨pv, capv, rfl, -, -, -⟩ := owns_form hR7.out.row
              generalize hm : (enL (absS r) k).length = m at *
              have HM := Lib.hid hm
              clear hm
              go_wp2_with (first | (at_builtin; refine wpList_append_all w.heap.size _ rfl (.tmp 83) (.tmp 85) 31 rfl 3 i0 _ 1 8 Try.underlying31 hi0 hz0 hz1 hz2 rfl (by decide) _ _ _ (by rfl) (by exact owns_later hR7.out.row (((Ext.refl _).alloc _ _).below)) (.slice (some ⟨W7.heap.size, 0, none⟩) 1 1) 1 [.int .i64 (k : Nat)] (by rfl) (by exact src_one W7 [.int .i64 (k : Nat)] _ 1 rfl) (by intro u hu; simp at hu; subst hu; rfl) (by rw [HM.out]; unfold maxLen; omega) (by rw [HM.out]; omega) (by have := hR7.out.ext.size; simp; omega) ?_) | fail)
              intro v' w2 hown hchg hat2
              have HN := Lib.hid (hR7.out.add HE2.out (by have := hown; rw [HM.out] at *; exact this) hchg)
              obtain ⟨p1, cap1, rfl, -, -, -⟩ := owns_form hown
              clear hown hchg hat2 hR7
              go_wp2_with fail
              go_roundw
              case rel => exact ⟨k + 1, by omega, by go_num, HN⟩
              case measure => simp [intOf]; omega
          · have HE2 := Lib.hid (HE.out.trans (show (!waitsB (absS r) x) = true by unfold waitsB; rw [if_neg o1, if_neg o4]; rfl))
            have k1 : (x.op == 1) = false := beq_eq_false_iff_ne.2 o1
            have k4 : (x.op == 4) = false := beq_eq_false_iff_ne.2 o4
            clear HE
            go_wp2_with (first | (go_at_call 34; refine (HB _ (Ext.refl W6)).mono ?_; rintro q w1 ⟨rfl, rfl⟩))
            go_quiet ((go_at_call 37; exact Calls.quiet_of_same ((HC.out _ (by first | exact (Ext.refl _).drew | exact (Ext.refl _).drewN' _)).mono fun _ _ ⟨a, b⟩ => ⟨a, b.symm⟩)))
            have hR7 := Lib.hid (hR6.out.drewN nq)
            generalize W6.drewN nq = W7 at *
            have hen := enL_len (absS r) k
            obtain ⟨pv, capv, rfl, -, -, -⟩ := owns_form hR7.out.row
            generalize hm : (enL (absS r) k).length = m at *
            have HM := Lib.hid hm
            clear hm
            go_wp2_with (first | (at_builtin; refine wpList_append_all w.heap.size _ rfl (.tmp 83) (.tmp 85) 31 rfl 3 i0 _ 1 8 Try.underlying31 hi0 hz0 hz1 hz2 rfl (by decide) _ _ _ (by rfl) (by exact owns_later hR7.out.row (((Ext.refl _).alloc _ _).below)) (.slice (some ⟨W7.heap.size, 0, none⟩) 1 1) 1 [.int .i64 (k : Nat)] (by rfl) (by exact src_one W7 [.int .i64 (k : Nat)] _ 1 rfl) (by intro u hu; simp at hu; subst hu; rfl) (by rw [HM.out]; unfold maxLen; omega) (by rw [HM.out]; omega) (by have := hR7.out.ext.size; simp; omega) ?_) | fail)
            intro v' w2 hown hchg hat2
            have HN := Lib.hid (hR7.out.add HE2.out (by have := hown; rw [HM.out] at *; exact this) hchg)
            obtain ⟨p1, cap1, rfl, -, -, -⟩ := owns_form hown
            clear hown hchg hat2 hR7
            go_wp2_with fail
            go_roundw
            case rel => exact ⟨k + 1, by omega, by go_num, HN⟩
            case measure => simp [intOf]; omega
    · obtain rfl : k = r.T.length := by omega
      go_wp2_with fail
      go_ret
      exact ⟨_, rfl, hR.out⟩

end Go.Proofs.Ytfgfbmmidijgoaa
