/- The contract of the reference's Go: a lock is opened that is not held. -/
import Derived.Test.YtfgfbmmidijgoaaRefM
import Derived.Deep.RegionHeld3
import Derived.Deep.RegionHeldLaw
namespace Go.Proofs.Ytfgfbmmidijgoaa
open Go.RowKit
set_option linter.unusedVariables false
theorem overed {w0 W : World} {b : Nat} {F : Nat → Prop} {r : Rf} {tv av lv cv ov : Value} {vals : List Value} (h : RAt W b F r tv av lv cv ov vals) (hx : Ext w0 W) (hlt : ∀ k, F k → k < w0.heap.size) : RTurned w0 b F { absS r with over := true } (W.setCell ⟨b, 5, none⟩ (.bool true)) := by
  have hset : ∀ {v : Value} {B s q : Nat} {e : TypeId} {xs : List Value}, W.ownsRow B e s v q xs → e ≠ 63 → (W.setCell ⟨b, 5, none⟩ (.bool true)).ownsRow B e s v q xs := fun ho he => owns_blocks ho fun k hk => Below.heap_setCell W _ _ k fun e => own_blk_ne ho h.blk he (by rw [hk, e])
  have hc : Chg F W (W.setCell ⟨b, 5, none⟩ (.bool true)) := (Chg.refl F W).setCell (p := ⟨b, 5, none⟩) (.inl h.fb) _
  refine ⟨{ r with over := true }, F, ⟨⟨tv, av, lv, cv, ov, vals, ⟨h.blk.set_ 5 _, hset h.ts (by decide), fun i hi => (h.rows i hi).same fun g hg hT => Below.heap_setCell W _ _ g fun e => hT.ne h.blk.hasT (by decide) e, hset h.at_ (by decide), hset h.lk (by decide), hset h.cl (by decide), hset h.said (by decide), h.ne1, h.ne2, h.fb, h.ftv, h.fav, h.flv, h.fcv, h.fov, h.len, h.le, h.wide, h.ok, h.few, h.all⟩⟩, fun k hk => ?_⟩, rfl, (Chg.of_ext hx F).trans hc fun i hi => .inl hi, fun k hk => .inl hk⟩
  have h1 := hlt k hk
  have h2 := hx.size
  rw [World.size_setCell]
  omega

set_option maxRecDepth 20000 in
set_option maxHeartbeats 8000000 in
theorem rgo_bad (b : Nat) (F : Nat → Prop) (r : Rf) (pick : Int) (wp : (Lit.int .i64 pick).wf = true) (w : World) (h : RIs w b F r) (ho : r.over = false) (n k i : Nat) (hn : (enL (absS r) (absS r).ts.length).length = n) (hp : (pick % (n : Int)).toNat = k) (hk : (enL (absS r) (absS r).ts.length)[k]? = some i) (x : St) (rest : List St) (hx : (absS r).ts.getD i [] = x :: rest) (e1 : x.op = 2) (hu : ¬ lookP r.L x.a = some (i : Int)) :
    Calls Try.prog 22 #[.pointer (some ⟨b, 0, none⟩), .int .i64 pick] w fun e w' => e = .returned (.tuple #[.int .i64 i, .int .i64 20]) ∧ RTurned w b F ({ absS r with over := true }) w' := by
  obtain ⟨i0, hi0, hz0, hz1, hz2⟩ := info_parts int_info
  obtain ⟨hen, hiN0, hkn⟩ := enL_mem hk
  have hlen : (absS r).ts.length = r.T.length := absT_len _ _
  have hiN : i < r.T.length := by rw [← hlen]; exact hiN0
  have hxd : (r.T.getD i []).drop (r.A.getD i 0) = x :: rest := by rw [← absT_get _ _ hiN]; exact hx
  rw [hn] at hkn
  have HS := Lib.hid h
  obtain ⟨⟨tv, av, lv, cv, ov, vals, h1⟩, h2⟩ := h
  have c0 : w.cell? ⟨b, 0, none⟩ = some tv := h1.blk.cell 0
  have c1 : w.cell? ⟨b, 1, none⟩ = some av := h1.blk.cell 1
  have c5 : w.cell? ⟨b, 5, none⟩ = some (.bool r.over) := h1.blk.cell 5
  rw [ho] at c5
  have hb := h1.blk.lt
  obtain ⟨pt, capt, pa, capa, rfl, rfl, hopen⟩ := h1.open_
  have hw := h1.wide
  have hfew := h1.few
  have hai : r.A.getD i 0 < (r.T.getD i []).length := by
    refine Nat.lt_of_not_le fun hc => ?_
    rw [List.drop_eq_nil_of_le hc] at hxd
    cases hxd
  have hxa : (r.T.getD i [])[r.A.getD i 0]? = some x := by
    have h1 := List.drop_eq_getElem_cons hai
    rw [h1] at hxd
    injection hxd with e1 e2
    rw [List.getElem?_eq_getElem hai, e1]
  have hrest : (r.T.getD i []).drop (r.A.getD i 0 + 1) = rest := by
    have h1 := List.drop_eq_getElem_cons hai
    rw [h1] at hxd
    injection hxd
  have hpos : total (absT r.T r.A) ≠ 0 := fun h0 => by
    have := total_zero _ h0 i
    rw [absT_get _ _ hiN, hxd] at this
    cases this
  have hn64 : n ≤ 64 := by have := enL_len (absS r) (absS r).ts.length; omega
  obtain ⟨m1, m2, m3⟩ := pick_mod pick n (by omega)
  have hpk : pick % (n : Int) = (k : Int) := by
    have := Int.emod_nonneg pick (b := (n : Int)) (by omega)
    omega
  rw [hpk] at m3
  have hneg : (pick.tmod n < 0 ∧ pick.tmod n + n = k) ∨ (0 ≤ pick.tmod n ∧ pick.tmod n = k) := by
    by_cases hh : pick.tmod n < 0
    · rw [Int.emod_eq_of_lt (by omega) (by omega)] at m3
      exact .inl ⟨hh, m3⟩
    · rw [Int.add_emod_right, Int.emod_eq_of_lt (by omega) (by omega)] at m3
      exact .inr ⟨by omega, m3⟩
  have HXO := Lib.hid (h1.ok i x (List.mem_of_getElem? hxa))
  have HABS := Lib.hid hx
  have HO := Lib.hid hopen
  have HI := Lib.hid (hopen i hiN)
  have H1 := Lib.hid h1
  have H2 := Lib.hid h2
  have HLen := Lib.hid h1.lens
  have HLe := Lib.hid h1.le
  have HTT := Lib.hid (show (absT r.T r.A).take r.T.length = absT r.T r.A from List.take_of_length_le (by rw [absT_len]; exact Nat.le_refl _))
  have HTL := Lib.hid (total_take_le (absT r.T r.A))
  have HN := Lib.hid hn
  have HK := Lib.hid hk
  have HHI := Lib.hid hai
  have HL4 := Lib.hid (h1.lens i)
  have HXA := Lib.hid hxa
  have HREST := Lib.hid hrest
  have HPOS := Lib.hid hpos
  have hkn2 : k < n := hkn
  have HE1 := Lib.hid e1
  have HU := Lib.hid hu
  clear hu
  clear e1 h1 h2 hopen hn hp hk hx hen hiN0 hlen hxd hxa hrest hpk m3 wp ho hpos
  go_enter Try.func22, Try.ntmps22
  go_wp2
  go_loopw [6, 7] (fun n i wr => ∃ k : Nat, k ≤ r.T.length ∧ i = .int .i64 k ∧ n = .int .i64 (total ((absT r.T r.A).take k) : Nat) ∧ Hid (Ext w wr)) (fun _ i _ => r.T.length - (intOf i).toNat)
  case atStart => exact ⟨0, by omega, rfl, rfl, Lib.hid (Ext.refl _)⟩
  case round =>
    obtain ⟨kk, hkk, rfl, rfl, hX⟩ := hrel
    have d0 := (hX.out.cell _ _ hb).trans c0
    have d1 := (hX.out.cell _ _ hb).trans c1
    by_cases hlt : kk < r.T.length
    · obtain ⟨gt, ga, p, cap, rfl, rfl, hgt, hga, ct, ca, -⟩ := HO.out kk hlt
      have ct := (hX.out.cell _ _ hgt).trans ct
      have ca := (hX.out.cell _ _ hga).trans ca
      have hl := HLen.out kk
      have hla := HLe.out kk hlt
      have htl := HTL.out kk
      have HT := Lib.hid (left_take (T := r.T) (A := r.A) hlt)
      clear c0 c1 c5 hai
      generalize (r.T.getD kk []).length = m at *
      generalize r.A.getD kk 0 = a at *
      generalize total ((absT r.T r.A).take kk) = q at *
      go_wp2_with fail
      go_quiet (fail)
      go_wp2_with fail
      go_roundw
      case rel => exact ⟨kk + 1, by omega, by go_num, by rw [HT.out]; go_num, Lib.hid (hX.out.drewN' _)⟩
      case measure => simp [intOf]; omega
    · obtain rfl : kk = r.T.length := by omega
      rw [HTT.out]
      have k0 : (((total (absT r.T r.A) : Nat) : Int) == 0) = false := by simpa using HPOS.out
      have HS2 := Lib.hid (HS.out.later hX.out)
      clear HTT HTL HO HLen HLe HPOS
      generalize total (absT r.T r.A) = qt at *
      have hn0 : n ≠ 0 := by omega
      have kn : ((n : Int) == 0) = false := by simp; omega
      rcases hneg with ⟨s1, s2⟩ | ⟨s1, s2⟩
      all_goals (
        go_wp2_with (first | (go_at_call 33; refine (renabled_any b F r _ HS2.out).mono ?_; rintro e w3 ⟨v, rfl, hR⟩; obtain ⟨gl, capl, rfl, hgl, cl⟩ := enrel_at hR HN.out HK.out; rw [HN.out]; have HX3 := Lib.hid (hX.out.trans hR.ext); clear hR))
        obtain ⟨gt, ga, p, cap, rfl, rfl, hgt, hga, ct, ca, hst⟩ := HI.out
        obtain ⟨g, off, x', rfl, hFg, hx', v0, v1, v2⟩ := hst.at_ HHI.out
        rw [HXA.out] at hx'
        injection hx' with e
        subst e
        have hgl := H2.out g hFg
        have y0 := (HX3.out.cell _ _ hb).trans c0
        have y1 := (HX3.out.cell _ _ hb).trans c1
        have yt := (HX3.out.cell _ _ hgt).trans ct
        have ya := (HX3.out.cell _ _ hga).trans ca
        have v0 := (HX3.out.cell _ _ hgl).trans v0
        have v1 := (HX3.out.cell _ _ hgl).trans v1
        have v2 := (HX3.out.cell _ _ hgl).trans v2
        have hsz := HX3.out.size
        clear c0 c1 c5 ct ca d0 d1 hst hFg cl
        generalize hgea : r.A.getD i 0 = a at *
        have HGA := Lib.hid hgea
        generalize hgem : (r.T.getD i []).length = m at *
        have HGM := Lib.hid hgem
        clear hgea hgem
        have z1 : w3.heap.size ≠ b := by omega
        have z2 : w3.heap.size ≠ gt := by omega
        have z3 : w3.heap.size ≠ ga := by omega
        have z4 : w3.heap.size ≠ g := by omega
        have z5 : b ≠ w3.heap.size := by omega
        have z6 : gt ≠ w3.heap.size := by omega
        have z7 : ga ≠ w3.heap.size := by omega
        have z8 : g ≠ w3.heap.size := by omega
        go_region_held3 (fun w' => w'.cell? ⟨b, 0, none⟩ = some (.slice (some ⟨gt, 0, none⟩) r.T.length capt) ∧ w'.cell? ⟨b, 1, none⟩ = some (.slice (some ⟨ga, 0, none⟩) r.T.length capa) ∧ w'.cell? ⟨gt, i, none⟩ = some (.slice (some ⟨g, off, none⟩) m cap) ∧ w'.cell? ⟨ga, i, none⟩ = some (.int .i64 (a : Nat)) ∧ w'.cell? ⟨g, off + a * 3, none⟩ = some (.int .i64 x.op) ∧ w'.cell? ⟨g, off + a * 3 + 1, none⟩ = some (.int .i64 x.a) ∧ w'.cell? ⟨g, off + a * 3 + 2, none⟩ = some (.int .i64 x.b)) (go_keep) (fail)
        have hx6 : Ext w3 (w3.alloc (.cells #[.int .i64 x.op, .int .i64 x.a, .int .i64 x.b] 25)).drew := ((Ext.refl w3).alloc _ _).drew
        have HX6 := Lib.hid (HX3.out.trans hx6)
        have hB6 : Blk (w3.alloc (.cells #[.int .i64 x.op, .int .i64 x.a, .int .i64 x.b] 25)).drew w3.heap.size 25 #[.int .i64 x.op, .int .i64 x.a, .int .i64 x.b] := (Blk.new w3 _ _).drew
        have q0 := hB6.cell 0
        have q1 := hB6.cell 1
        have q2 := hB6.cell 2
        simp only [List.getElem?_toArray, List.getElem?_cons_succ, List.getElem?_cons_zero] at q0 q1 q2
        have HB6 := Lib.hid hB6
        have hl6 := hB6.lt
        clear hx6 hB6 y0 y1 yt ya v0 v1 v2 z2 z4 z6 z8 hsz HX3 hX HS2
        generalize (w3.alloc (.cells #[.int .i64 x.op, .int .i64 x.a, .int .i64 x.b] 25)).drew = W6 at *
        generalize w3.heap.size = g6 at *
        have hlt6 : ∀ k, F k → k < W6.heap.size := fun k hk => Nat.lt_of_lt_of_le (H2.out k hk) HX6.out.size
        have H6 := Lib.hid (H1.out.chg H2.out (Chg.of_ext HX6.out (fun _ => False)) fun _ _ h => h)
        have HLT6 := Lib.hid hlt6
        have HX7 := Lib.hid HX6.out.drew
        clear hlt6
        have hlt7 : ∀ k, F k → k < W6.drew.heap.size := fun k hk => Nat.lt_of_lt_of_le (H2.out k hk) HX7.out.size
        have H7 := Lib.hid (H1.out.chg H2.out (Chg.of_ext HX7.out (fun _ => False)) fun _ _ h => h)
        have HLT7 := Lib.hid hlt7
        clear hlt7
        rw [HE1.out] at q0
        have p2 : W6.cell? ⟨b, 5, none⟩ = some (.bool r.over) := H6.out.blk.cell 5
        have p3 := H6.out.blk.frozen 5
        have hb6 := H6.out.blk.lt
        have HSR := Lib.hid (show RIs W6 b F r from ⟨⟨_, _, _, _, _, _, H6.out⟩, HLT6.out⟩)
        have hr := rholder_any b F r x.a W6 HSR.out
        cases hlk : lookP r.L x.a with
        | none =>
          rw [hlk] at hr
          have HR := Lib.hid hr
          clear hr hlk
          go_wp2_with (first | (go_at_call 34; refine HR.out.mono ?_; rintro e w1 ⟨rfl, rfl⟩))
          go_ret2
          exact ⟨rfl, overed H6.out HX6.out H2.out⟩
        | some j =>
          have hj : j ≠ (i : Int) := fun e => HU.out (hlk.trans (congrArg some e))
          rw [hlk] at hr
          have hr : Calls Try.prog 34 #[.pointer (some ⟨b, 0, none⟩), .int .i64 x.a] W6 fun e w' => e = .returned (.tuple #[.int .i64 j, .bool true]) ∧ W6 = w' := hr
          have HR := Lib.hid hr
          have kj : (j != (i : Int)) = true := bne_iff_ne.2 hj
          clear hr hlk hj
          go_wp2_with (first | (go_at_call 34; refine HR.out.mono ?_; rintro e w1 ⟨rfl, rfl⟩))
          go_ret2
          exact ⟨rfl, overed H6.out HX6.out H2.out⟩)

end Go.Proofs.Ytfgfbmmidijgoaa
