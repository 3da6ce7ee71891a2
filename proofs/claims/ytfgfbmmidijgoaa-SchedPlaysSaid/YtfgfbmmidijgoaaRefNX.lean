/- The contract of the reference's New. -/
import Derived.Test.YtfgfbmmidijgoaaTsIn
namespace Go.Proofs.Ytfgfbmmidijgoaa
open Go.RowKit
set_option linter.unusedVariables false

theorem step_append_none {P : Program} {ops : Array Oper} {o : Oper} {a : Act} {w : World} {K : Act → World → Prop} {Q : Exit → Act → World → Prop} {E : Prop} (B : Nat) (hgd : o.guard = none) (s x : Operand) (t : TypeId)
    (ho : o.op = .call { callee := .builtin .append, args := #[s, x], argTypes := #[t, t] })
    (e : TypeId) (i : TypeInfo) (size : Nat) (ht : P.underlying t = some (.slice e)) (hi : P.info? e = some i)
    (v : Value) (n : Nat) (xs : List Value) (hs : a.eval s = v) (hown : w.ownsRow B e size v n xs) (c : Nat) (hx : a.eval x = .slice none 0 c) (h : K (a.put o.dst v) w) :
    if Region.wanted o (yielded ops a.tmps) = true then Oper.wp P o a w K Q else E := by
  have hw : Region.wanted o (yielded ops a.tmps) = true := by simp [Region.wanted, hgd]
  rw [if_pos hw]
  have hr := run_append_nothing (P := P) t o.type i ht hi hown c
  unfold Oper.wp execOp
  simp only [ho, resolve, invoke, builtin, Sem.run_bind, Sem.run_pure, Result.andThen_ok, List.map_toArray, List.map_cons, List.map_nil, hs, hx, hr]
  exact h

set_option maxRecDepth 20000 in
set_option maxHeartbeats 8000000 in
theorem rnew_any (ts : List (List St)) (v : Value) (w : World) (h : TsIn0 w v ts) (hn : ts.length ≤ 1000) (ht : total ts ≤ 20000) (hwf : ∀ i x, x ∈ ts.getD i [] → (Lit.int .i64 x.a).wf = true ∧ (Lit.int .i64 x.b).wf = true) :
    Calls Try.prog 21 #[v] w (RNewPost ts w) := by
  obtain ⟨i0, hi0, hz0, hz1, hz2⟩ := info_parts row_info
  obtain ⟨i1, hi1, hy0, hy1, hy2⟩ := info_parts step_info
  obtain ⟨i2, hi2, hx0, hx1, hx2⟩ := info_parts int_info
  obtain ⟨p, cap, rfl, hrow⟩ := h
  have HR := Lib.hid hrow
  have HW := Lib.hid hwf
  clear hrow hwf
  go_enter Try.func21, Try.ntmps21
  go_wp2
  obtain ⟨W, rfl⟩ : ∃ W, W = w := ⟨_, rfl⟩
  go_loopw [4, 5] (fun n i wr => ∃ k : Nat, k ≤ ts.length ∧ i = .int .i64 k ∧ n = .int .i64 (total (ts.take k) : Nat) ∧ wr = W) (fun _ i _ => ts.length - (intOf i).toNat)
  case atStart => exact ⟨0, by omega, rfl, rfl, rfl⟩
  case round =>
    obtain ⟨k, hk, rfl, rfl, rfl⟩ := hrel
    by_cases hlt : k < ts.length
    · obtain ⟨gt, off, u, rfl, hc, hgt, hst⟩ := HR.out k hlt
      obtain ⟨pu, capu, rfl, -⟩ := id hst
      have htt := total_take ts k hlt
      have htl := total_take_le ts (k + 1)
      clear hst
      generalize (ts.getD k []).length = m at *
      go_wp2_with fail
      go_roundw
      case rel => exact ⟨k + 1, by omega, by go_num, by rw [htt]; go_num, by first | trivial | rfl⟩
      case measure => simp [intOf]; omega
    · obtain rfl : k = ts.length := by omega
      rw [List.take_length]
      clear hk hlt
      by_cases h64 : 64 < ts.length
      · have HP := Lib.hid (show 64 < ts.length ∨ 10000 < total ts from .inl h64)
        go_wp2_with fail
        go_ret2
        refine ⟨Ext.refl _, ?_⟩
        rw [if_pos HP.out]; rfl
      by_cases ht4 : 10000 < total ts
      · have HP := Lib.hid (show 64 < ts.length ∨ 10000 < total ts from .inr ht4)
        go_wp2_with fail
        go_ret2
        refine ⟨Ext.refl _, ?_⟩
        rw [if_pos HP.out]; rfl
      have HP := Lib.hid (show ¬ (64 < ts.length ∨ 10000 < total ts) by omega)
      obtain ⟨W1, rfl⟩ : ∃ W1, W1 = wr := ⟨_, rfl⟩
      go_wp2_with fail
      go_loopw [7] (fun i wr => ∃ (k : Nat) (tv av : Value) (vals : List Value), k ≤ ts.length ∧ i = .int .i64 k ∧ Hid (RNewAt W1 wr W1.heap.size ts k tv av vals) ∧ Hid (∀ j, j < k → (ts.getD j []).all okSt = true)) (fun i _ => ts.length - (intOf i).toNat)
      case atStart => exact ⟨0, _, _, _, by omega, rfl, Lib.hid (RNewAt.start W1 ts), Lib.hid fun j hj => absurd hj (Nat.not_lt_zero _)⟩
      case round =>
        obtain ⟨k, tv, av, vals, hk, rfl, hR, hOKs⟩ := hrel
        by_cases hlt : k < ts.length
        · obtain ⟨gt, off, u, rfl, hc, hgt, hst⟩ := HR.out k hlt
          have hc := (hR.out.ext.cell _ _ hgt).trans hc
          have HST0 := Lib.hid hst
          have hst := hst.later hR.out.ext
          obtain ⟨pu, capu, rfl, -⟩ := id hst
          have htt := total_le ts k
          have HBAD := Lib.hid (fun (h1 : (ts.getD k []).all okSt = false) => show okTs ts = false by
            unfold okTs
            rw [List.all_eq_false]
            refine ⟨ts[k], List.getElem_mem hlt, ?_⟩
            rw [List.getD_eq_getElem?_getD, List.getElem?_eq_getElem hlt] at h1
            simpa using h1)
          have HOK := Lib.hid (fun (h1 : (ts.getD k []).all okSt = true) j (hj : j < k + 1) => show (ts.getD j []).all okSt = true by
            by_cases e : j < k
            · exact hOKs.out j e
            · obtain rfl : j = k := by omega
              exact h1)
          have HST := Lib.hid hst
          clear hst hOKs
          have HXA := Lib.hid hR.out.ext
          generalize hgt : ts.getD k [] = t at *
          have HGT := Lib.hid hgt
          clear hgt
          obtain ⟨W2, rfl⟩ : ∃ W2, W2 = wr := ⟨_, rfl⟩
          go_wp2_with fail
          go_loopw [8] (fun i wr => ∃ j : Nat, j ≤ t.length ∧ i = .int .i64 j ∧ wr = W2 ∧ Hid ((t.take j).all okSt = true)) (fun i _ => t.length - (intOf i).toNat)
          case atStart => exact ⟨0, by omega, rfl, rfl, Lib.hid rfl⟩
          case round =>
            obtain ⟨j, hj, rfl, rfl, hI⟩ := hrel
            by_cases hjt : j < t.length
            · obtain ⟨g, o, x, rfl, hg, hx, x0, x1, x2⟩ := HST.out.at_ hjt
              have HT := Lib.hid (show (t.take (j + 1)).all okSt = ((t.take j).all okSt && okSt x) by
                rw [List.take_add_one, hx, List.all_append]; simp)
              clear hx
              by_cases o1 : x.op < 1
              · have HF := Lib.hid (HBAD.out (by
                  have := HT.out
                  rw [show okSt x = false by simp [okSt]; omega, Bool.and_false] at this
                  exact not_true_all this))
                go_wp2_with fail
                go_ret2
                refine ⟨HXA.out, ?_⟩
                rw [if_neg HP.out, if_pos HF.out]; rfl
              · by_cases o5 : 5 < x.op
                · have HF := Lib.hid (HBAD.out (by
                    have := HT.out
                    rw [show okSt x = false by simp [okSt]; omega, Bool.and_false] at this
                    exact not_true_all this))
                  go_wp2_with fail
                  go_ret2
                  refine ⟨HXA.out, ?_⟩
                  rw [if_neg HP.out, if_pos HF.out]; rfl
                · have HI2 := Lib.hid (show (t.take (j + 1)).all okSt = true by rw [HT.out, hI.out, show okSt x = true by simp [okSt]; omega]; rfl)
                  go_wp2_with fail
                  go_roundw
                  case rel => exact ⟨j + 1, by omega, by go_num, by first | trivial | rfl, HI2⟩
                  case measure => simp [intOf]; omega
            · obtain rfl : j = t.length := by omega
              have HOK2 := Lib.hid (HOK.out (by have := hI.out; rwa [List.take_length] at this))
              have HTV := Lib.hid hR.out.tsk
              obtain ⟨ptv, captv, hvt, -, -, -⟩ := owns_form hR.out.tsk
              subst hvt
              obtain ⟨pav, capav, hva, -, -, -⟩ := owns_form hR.out.at_
              subst hva
              have b0 : wr.cell? ⟨W1.heap.size, 0, none⟩ = some (.slice ptv k captv) := hR.out.blk.cell 0
              have hbw := hR.out.blk.lt
              have HB0 := Lib.hid (show (wr.alloc (.cells #[] 25)).ownsRow wr.heap.size 25 3 (.slice (some ⟨wr.heap.size, 0, none⟩) 0 0) 0 [] from owns_empty wr _ _ _ (Nat.le_refl _))
              have HE0 := Lib.hid ((Ext.refl wr).alloc #[] 25)
              have hgtw := Nat.lt_of_lt_of_le hgt hR.out.ext.size
              have b0e : (wr.alloc (.cells #[] 25)).cell? ⟨W1.heap.size, 0, none⟩ = _ := (HE0.out.cell _ _ hbw).trans b0
              have ce : (wr.alloc (.cells #[] 25)).cell? ⟨gt, off + k, none⟩ = _ := (HE0.out.cell _ _ hgtw).trans hc
              cases pu with
              | none =>
                have ht0 := stin_none HST.out
                subst ht0
                go_wp2_with fail
                go_region_law (first
                  | (refine step_append_none wr.heap.size rfl (.tmp 71) (.tmp 75) 23 rfl 25 i1 3 Try.underlying23 hi1 (.slice (some ⟨wr.heap.size, 0, none⟩) 0 0) 0 [] (by simp [Act.eval]) (owns_later HB0.out ((Ext.refl _).drew).below) capu (by simp [Act.eval]) ?_; obtain ⟨w5, hw5⟩ : ∃ w5, w5 = (wr.alloc (.cells #[] 25)).drew := ⟨_, rfl⟩; rw [← hw5]; have HX5 := Lib.hid (show Ext wr w5 by rw [hw5]; exact HE0.out.drew); have HU5 := Lib.hid (show w5.ownsRow wr.heap.size 25 3 (.slice (some ⟨wr.heap.size, 0, none⟩) 0 0) ([] : List St).length (stsL []) by rw [hw5]; exact owns_later HB0.out ((Ext.refl _).drew).below); have b5 := (HX5.out.cell _ _ hbw).trans b0; have c5 := (HX5.out.cell _ _ hgtw).trans hc; have lb5 := Nat.lt_of_lt_of_le hbw HX5.out.size; clear hw5)
                  | (refine step_append_all (W1.heap.size + 1) rfl (.tmp 70) (.tmp 77) 22 rfl 23 i0 _ 1 24 Try.underlying22 hi0 hz0 hz1 hz2 rfl (by decide) (.slice ptv k captv) k vals (by simp [Act.eval]) (owns_later HTV.out (HX5.out.alloc _ _).below) (.slice (some ⟨w5.heap.size, 0, none⟩) 1 1) 1 [.slice (some ⟨wr.heap.size, 0, none⟩) 0 0] (by simp [Act.eval]) (src_blk (t := 23) (Blk.new _ _ _) rfl) (by intro u hu; simp at hu; subst hu; rfl) (by unfold maxLen; omega) (by omega) (by have := HX5.out.size; simp; omega) ?_; intro v' w6 hown hchg hat; have HM := Lib.hid fun n => hR.out.add HX5.out (by rw [HGT.out]; exact HU5.out) hown hchg n; have hcw := (Chg.of_ext (HX5.out.alloc #[.slice (some ⟨wr.heap.size, 0, none⟩) 0 0] 23) (fun i => (Value.slice ptv k captv).ownBlock = some i)).trans hchg (fun i hi => .inl hi); have hbk := hR.out.blk.chg hcw (fun e => own_blk_ne hR.out.tsk hR.out.blk (by decide) e); have t2 : w6.cell? ⟨W1.heap.size, 0, none⟩ = some (.slice ptv k captv) := hbk.cell 0; have t3 := hbk.frozen 0; have t4 := hbk.lt; obtain ⟨p6, cap6, rfl, -, -, -⟩ := owns_form hown; clear hown hchg hat hcw hbk))
                all_goals (
                  have HMid : Hid (RNewMid W1 (w6.setCell ⟨W1.heap.size, 0, none⟩ (.slice p6 (k + 1) cap6)) W1.heap.size ts k (.slice p6 (k + 1) cap6) (.slice pav k capav) (vals ++ [.slice (some ⟨wr.heap.size, 0, none⟩) 0 0])) := Lib.hid (HM.out 0)
                  generalize w6.setCell ⟨W1.heap.size, 0, none⟩ (.slice p6 (k + 1) cap6) = w8 at *
                  have b8 : w8.cell? ⟨W1.heap.size, 1, none⟩ = some (.slice pav k capav) := HMid.out.blk.cell 1
                  have lb8 := HMid.out.blk.lt
                  clear HM t2 t3 t4 b0 b0e ce
                  go_wp2_with (first | (at_builtin; refine wpList_append_all (W1.heap.size + 1) _ rfl (.tmp 85) (.tmp 86) 31 rfl 3 i2 _ 1 8 Try.underlying31 hi2 hx0 hx1 hx2 rfl (by decide) _ _ _ (by rfl) (by exact owns_later HMid.out.at_ (((Ext.refl _).alloc _ _).below)) (.slice (some ⟨w8.heap.size, 0, none⟩) 1 1) 1 [.int .i64 0] (by rfl) (by exact src_one w8 [.int .i64 0] _ 1 rfl) (by intro u hu; simp at hu; subst hu; rfl) (by unfold maxLen; omega) (by omega) (by simp; omega) ?_) | fail)
                  intro v7 w9 hown hchg hat
                  have HN2 := Lib.hid (HMid.out.add hown hchg)
                  have hcw := ((Chg.refl (fun i => (Value.slice pav k capav).ownBlock = some i) w8).alloc #[.int .i64 0] 3).trans hchg (fun i hi => .inl hi)
                  have hbk := HMid.out.blk.chg hcw (fun e => own_blk_ne HMid.out.at_ HMid.out.blk (by decide) e)
                  have b9 : w9.cell? ⟨W1.heap.size, 1, none⟩ = some (.slice pav k capav) := hbk.cell 1
                  have f9 := hbk.frozen 1
                  have lb9 := hbk.lt
                  obtain ⟨p7, cap7, rfl, -, -, -⟩ := owns_form hown
                  clear hown hchg hat hcw hbk
                  go_wp2_with fail
                  go_roundw
                  case rel => exact ⟨k + 1, _, _, _, by omega, by go_num, HN2, HOK2⟩
                  case measure => simp [intOf]; omega)
              | some ad =>
                have HSRC := Lib.hid (stin_src HST.out)
                go_wp2_with fail
                go_region_law (first
                  | (refine step_append_all wr.heap.size rfl (.tmp 71) (.tmp 75) 23 rfl 25 i1 _ 3 24 Try.underlying23 hi1 hy0 hy1 hy2 rfl (by decide) (.slice (some ⟨wr.heap.size, 0, none⟩) 0 0) 0 [] (by simp [Act.eval]) (owns_later HB0.out ((Ext.refl _).drew).below) (.slice (some ad) t.length capu) t.length (stsL t) (by simp [Act.eval]) (src_later HSRC.out HE0.out.drew (by decide)) (stsL_one t) (by unfold maxLen; omega) (by omega) (by simp) ?_; intro v5 w5 hown hchg hat; have HX5 := Lib.hid ((chg_undrew2 hchg).ext HE0.out (fun i hi => by have : wr.heap.size = i := (by simpa [Value.ownBlock] using hi); omega)); obtain ⟨p5, cap5, hv5, -, -, -⟩ := owns_form hown; have HU5 := Lib.hid (show w5.ownsRow wr.heap.size 25 3 v5 t.length (stsL t) by have := hown; rw [Nat.zero_add] at this; exact this); rw [Nat.zero_add] at hv5; subst hv5; have b5 := (HX5.out.cell _ _ hbw).trans b0; have c5 := (HX5.out.cell _ _ hgtw).trans hc; have lb5 := Nat.lt_of_lt_of_le hbw HX5.out.size; clear hown hchg hat)
                  | (refine step_append_all (W1.heap.size + 1) rfl (.tmp 70) (.tmp 77) 22 rfl 23 i0 _ 1 24 Try.underlying22 hi0 hz0 hz1 hz2 rfl (by decide) (.slice ptv k captv) k vals (by simp [Act.eval]) (owns_later HTV.out (HX5.out.alloc _ _).below) (.slice (some ⟨w5.heap.size, 0, none⟩) 1 1) 1 [.slice p5 t.length cap5] (by simp [Act.eval]) (src_blk (t := 23) (Blk.new _ _ _) rfl) (by intro u hu; simp at hu; subst hu; rfl) (by unfold maxLen; omega) (by omega) (by have := HX5.out.size; simp; omega) ?_; intro v' w6 hown hchg hat; have HM := Lib.hid fun n => hR.out.add HX5.out (by rw [HGT.out]; exact HU5.out) hown hchg n; have hcw := (Chg.of_ext (HX5.out.alloc #[.slice p5 t.length cap5] 23) (fun i => (Value.slice ptv k captv).ownBlock = some i)).trans hchg (fun i hi => .inl hi); have hbk := hR.out.blk.chg hcw (fun e => own_blk_ne hR.out.tsk hR.out.blk (by decide) e); have t2 : w6.cell? ⟨W1.heap.size, 0, none⟩ = some (.slice ptv k captv) := hbk.cell 0; have t3 := hbk.frozen 0; have t4 := hbk.lt; obtain ⟨p6, cap6, rfl, -, -, -⟩ := owns_form hown; clear hown hchg hat hcw hbk))
                all_goals (
                  have HMid : Hid (RNewMid W1 (w6.setCell ⟨W1.heap.size, 0, none⟩ (.slice p6 (k + 1) cap6)) W1.heap.size ts k (.slice p6 (k + 1) cap6) (.slice pav k capav) (vals ++ [.slice p5 t.length cap5])) := Lib.hid (HM.out 0)
                  generalize w6.setCell ⟨W1.heap.size, 0, none⟩ (.slice p6 (k + 1) cap6) = w8 at *
                  have b8 : w8.cell? ⟨W1.heap.size, 1, none⟩ = some (.slice pav k capav) := HMid.out.blk.cell 1
                  have lb8 := HMid.out.blk.lt
                  clear HM t2 t3 t4 b0 b0e ce
                  go_wp2_with (first | (at_builtin; refine wpList_append_all (W1.heap.size + 1) _ rfl (.tmp 85) (.tmp 86) 31 rfl 3 i2 _ 1 8 Try.underlying31 hi2 hx0 hx1 hx2 rfl (by decide) _ _ _ (by rfl) (by exact owns_later HMid.out.at_ (((Ext.refl _).alloc _ _).below)) (.slice (some ⟨w8.heap.size, 0, none⟩) 1 1) 1 [.int .i64 0] (by rfl) (by exact src_one w8 [.int .i64 0] _ 1 rfl) (by intro u hu; simp at hu; subst hu; rfl) (by unfold maxLen; omega) (by omega) (by simp; omega) ?_) | fail)
                  intro v7 w9 hown hchg hat
                  have HN2 := Lib.hid (HMid.out.add hown hchg)
                  have hcw := ((Chg.refl (fun i => (Value.slice pav k capav).ownBlock = some i) w8).alloc #[.int .i64 0] 3).trans hchg (fun i hi => .inl hi)
                  have hbk := HMid.out.blk.chg hcw (fun e => own_blk_ne HMid.out.at_ HMid.out.blk (by decide) e)
                  have b9 : w9.cell? ⟨W1.heap.size, 1, none⟩ = some (.slice pav k capav) := hbk.cell 1
                  have f9 := hbk.frozen 1
                  have lb9 := hbk.lt
                  obtain ⟨p7, cap7, rfl, -, -, -⟩ := owns_form hown
                  clear hown hchg hat hcw hbk
                  go_wp2_with fail
                  go_roundw
                  case rel => exact ⟨k + 1, _, _, _, by omega, by go_num, HN2, HOK2⟩
                  case measure => simp [intOf]; omega)
        · obtain rfl : k = ts.length := by omega
          have HOKT := Lib.hid (show okTs ts = true by
            unfold okTs
            rw [List.all_eq_true]
            intro t ht
            obtain ⟨i, hi, rfl⟩ := List.getElem_of_mem ht
            have := hOKs.out i hi
            rwa [List.getD_eq_getElem?_getD, List.getElem?_eq_getElem hi] at this)
          have HIS := Lib.hid (hR.out.is (by omega) (by omega) HOKT.out HW.out)
          have HX := Lib.hid hR.out.ext
          clear hR hOKs
          go_wp2_with fail
          go_ret2
          refine ⟨HX.out, ?_⟩
          rw [if_neg HP.out, if_neg (by rw [HOKT.out]; simp)]
          exact ⟨_, _, _, rfl, HIS.out.1, HIS.out.2, fun k hk => hk.1⟩

end Go.Proofs.Ytfgfbmmidijgoaa
