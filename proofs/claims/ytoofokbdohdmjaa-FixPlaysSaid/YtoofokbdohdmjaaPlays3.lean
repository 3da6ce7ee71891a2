/- The walk of the law FixPlays: the other ways in which the two New end. -/
import Derived.Test.YtoofokbdohdmjaaPlays2
namespace Go.Proofs.Ytoofokbdohdmjaa
open Go.RowKit
set_option linter.unusedVariables false

set_option maxRecDepth 100000 in
set_option maxHeartbeats 4000000 in
theorem plays_YN (size block : Int) (s1 : 1 ≤ size) (s2 : size ≤ 16384) (hbk : bumpOk block = false) (hbw : (Lit.int .i64 block).wf = true) (p : Option Addr) (cap : Nat) (l : Acts) (W : World) (hl : l.len ≤ 400) (hA : ActsAt W p l) :
    Calls Try.prog 5 #[.int .i64 size, .int .i64 block, .slice p l.len cap] W fun r w' => r = .returned (.bool true) ∧ Ext W w' := by
  have HA := Lib.hid hA
  clear hA
  go_enter Try.func5, Try.ntmps5
  go_wp2_with fail
  refine (fixNew size _ s1 s2).mono ?_
  rintro r w1 ⟨rfl, hf, hx⟩
  have HR1 : Hid (PRel W w1 size block (some W.heap.size) none none none [] [] [] [] 0 0 0 0) := Lib.hid ⟨hf, trivial, trivial, trivial, hx⟩
  clear hf hx
  go_wp2_with fail
  refine (refNew0 size _ W.heap.size HR1.out.ext.size s1 s2).mono ?_
  rintro r w2 ⟨rfl, hf, hx⟩
  have hr := HR1.out.later hx
  have HR2 : Hid (PRel W w2 size block (some W.heap.size) (some w1.heap.size) none none [] [] [] [] 0 0 0 0) := Lib.hid ⟨hr.fix, hf, trivial, trivial, hr.ext⟩
  clear hf hx HR1 hr
  generalize hgr : w1.heap.size = gr at *
  obtain ⟨gf, hgf⟩ : ∃ gf, gf = W.heap.size := ⟨_, rfl⟩
  rw [← hgf]
  have HR2 : Hid (PRel W w2 size block (some gf) (some gr) none none [] [] [] [] 0 0 0 0) := by rw [hgf]; exact HR2
  clear hgr hgf
  go_wp2_with fail
  refine (newBump_no block _ hbk hbw).mono ?_
  rintro r w3 ⟨rfl, hw⟩
  subst hw
  go_wp2_with fail
  refine (rnewBump_no block _ hbk hbw).mono ?_
  rintro r w4 ⟨rfl, hw⟩
  have HR4 := Lib.hid (HR2.out.later (hw ▸ Ext.refl _ : Ext w2 w4))
  clear hw HR2
  go_wp2_with fail
  go_loopw [15] (fun vk wr => ∃ (k : Nat) (O : List Bool) (S : List Nat) (n e : Int), vk = .int .i64 k ∧ k ≤ l.len ∧ Hid (PRel W wr size block (some gf) (some gr) none none O O S S n e n e) ∧ O.length ≤ k ∧ (True)) (fun vk _ => l.len - (intOf vk).toNat)
  case atStart => exact ⟨0, [], [], 0, 0, rfl, by omega, HR4, by simp, trivial⟩
  case round =>
    obtain ⟨k, O, S, n, e, rfl, hk, hR, hO, -⟩ := hrel
    clear HR4
    by_cases hlt : k < l.len
    · obtain ⟨b0, off, rfl, hb0, c0, c1, c2, fx, fy, fz⟩ := HA.out k hlt
      have c0 := (hR.out.ext.cell _ _ hb0).trans c0
      have c1 := (hR.out.ext.cell _ _ hb0).trans c1
      have c2 := (hR.out.ext.cell _ _ hb0).trans c2
      generalize l.x k = x at *
      generalize l.y k = y at *
      generalize l.z k = z at *
      have HR0 := Lib.hid (hR.out.later ((Ext.refl wr).alloc #[.int .i64 x, .int .i64 y, .int .i64 z] 45))
      have HB0 := Lib.hid (Blk.new wr 45 #[.int .i64 x, .int .i64 y, .int .i64 z])
      clear hR
      have hx : x = 4 ∨ x = 1 ∨ x = 2 ∨ x = 3 ∨ (x ≠ 1 ∧ x ≠ 2 ∧ x ≠ 3 ∧ x ≠ 4) := by omega
      have hS0 : S.length ≤ O.length := by obtain ⟨F, hf⟩ := HR0.out.fix; exact hf.back_le
      rcases hx with rfl | rfl | rfl | rfl | ⟨hx1, hx2, hx3, hx4⟩
      · go_wp2_with fail
        obtain ⟨F5, hf5⟩ := HR0.out.fix
        obtain ⟨F6, hr5⟩ := HR0.out.ref
        have hS5 := hf5.back_le
        have HC1 := Lib.hid (fixCount hf5)
        have HC2 := Lib.hid (refCount hr5 (by omega))
        clear hf5 hr5
        generalize hcc : ((O.length : Int) - S.length) = cc at *
        refine HC1.out.mono ?_
        rintro r w8 ⟨rfl, hw8⟩
        subst hw8
        go_wp2_with fail
        refine HC2.out.mono ?_
        rintro r w8 ⟨rfl, m1, rfl⟩
        have HT1 := Lib.hid (HR0.out.later ((Ext.refl _).drewN' m1))
        clear HC1 HC2
        obtain ⟨F5, hf5⟩ := HT1.out.fix
        have HC3 := Lib.hid (fixBytes hf5 s1 s2)
        clear hf5
        generalize hbv : bytesV O.length size = bv at *
        go_wp2_with fail
        refine HC3.out.mono ?_
        rintro r w8 ⟨rfl, m2, rfl⟩
        have HT2 := Lib.hid (HR0.out.later ((Ext.refl _).drewN' (m1 + m2)))
        clear HC3
        obtain ⟨F6, hr6⟩ := HT2.out.ref
        have HC4 := Lib.hid (refBytes hr6 s1 s2)
        clear hr6
        rw [hbv] at HC4
        go_wp2_with fail
        refine HC4.out.mono ?_
        rintro r w8 ⟨rfl, hw8⟩
        subst hw8
        clear HC4 hcc hbv
        go_wp2_with fail
        go_roundw
        case rel => exact ⟨k + 1, O, S, n, e, by go_num, by omega, HT2, by omega, trivial⟩
        case measure => simp [intOf]; omega
      · have HQ1 := Lib.hid (pTake HR0.out HB0.out (by omega))
        generalize hid : takeId O S = ti at *
        go_wp2_with fail
        refine HQ1.out.mono ?_
        rintro r w5 ⟨rfl, hr, hb⟩
        have HR5 := Lib.hid hr
        have HB5 := Lib.hid hb
        clear hr hb HQ1
        have HQ2 := Lib.hid (qTake HR5.out HB5.out (by omega) (by omega))
        rw [hid] at HQ2
        go_wp2_with fail
        refine HQ2.out.mono ?_
        rintro r w6 ⟨rfl, hr, hb⟩
        have HR6 := Lib.hid hr
        clear hr hb HQ2 hid HR5 HB5
        have hln := take_len O S
        generalize takeO O S = O2 at *
        generalize S.tail = S2 at *
        go_wp2_with fail
        obtain ⟨F5, hf5⟩ := HR6.out.fix
        obtain ⟨F6, hr5⟩ := HR6.out.ref
        have hS5 := hf5.back_le
        have HC1 := Lib.hid (fixCount hf5)
        have HC2 := Lib.hid (refCount hr5 (by omega))
        clear hf5 hr5
        generalize hcc : ((O2.length : Int) - S2.length) = cc at *
        refine HC1.out.mono ?_
        rintro r w8 ⟨rfl, hw8⟩
        subst hw8
        go_wp2_with fail
        refine HC2.out.mono ?_
        rintro r w8 ⟨rfl, m1, rfl⟩
        have HT1 := Lib.hid (HR6.out.later ((Ext.refl _).drewN' m1))
        clear HC1 HC2
        obtain ⟨F5, hf5⟩ := HT1.out.fix
        have HC3 := Lib.hid (fixBytes hf5 s1 s2)
        clear hf5
        generalize hbv : bytesV O2.length size = bv at *
        go_wp2_with fail
        refine HC3.out.mono ?_
        rintro r w8 ⟨rfl, m2, rfl⟩
        have HT2 := Lib.hid (HR6.out.later ((Ext.refl _).drewN' (m1 + m2)))
        clear HC3
        obtain ⟨F6, hr6⟩ := HT2.out.ref
        have HC4 := Lib.hid (refBytes hr6 s1 s2)
        clear hr6
        rw [hbv] at HC4
        go_wp2_with fail
        refine HC4.out.mono ?_
        rintro r w8 ⟨rfl, hw8⟩
        subst hw8
        clear HC4 hcc hbv
        go_wp2_with fail
        go_roundw
        case rel => exact ⟨k + 1, O2, S2, n, e, by go_num, by omega, HT2, by omega, trivial⟩
        case measure => simp [intOf]; omega
      · have HRd := Lib.hid (HR0.out.later (Ext.refl _).drew)
        have HBd := Lib.hid (HB0.out.later (Ext.refl _).drew)
        obtain ⟨a0, a1, a2⟩ := act_cell HB0.out
        have hln := giveO_len O y
        generalize hid : giveE O y = ti at *
        go_wp2_with fail
        go_region_with (first
          | (go_at_call 8; refine (pGive HD1.out HE1.out y fy).mono ?_; rw [hid]; rintro r w6 ⟨rfl, hr, hb⟩; have HD2 := Lib.hid hr; clear hr hb)
          | (go_at_call 8; refine (pGive HRd.out HBd.out y fy).mono ?_; rw [hid]; rintro r w5 ⟨rfl, hr, hb⟩; have HD1 := Lib.hid hr; have HE1 := Lib.hid hb; obtain ⟨a3, a4, a5⟩ := act_cell hb; clear hr hb)
          | (go_at_call 21; refine (qGive HD1.out HE1.out y fy (by omega)).mono ?_; rw [hid]; rintro r w6 ⟨rfl, hr, hb⟩; have HD2 := Lib.hid hr; clear hr hb)
          | (go_at_call 21; refine (qGive HRd.out HBd.out y fy (by omega)).mono ?_; rw [hid]; rintro r w5 ⟨rfl, hr, hb⟩; have HD1 := Lib.hid hr; have HE1 := Lib.hid hb; obtain ⟨a3, a4, a5⟩ := act_cell hb; clear hr hb))
        all_goals
          clear HRd HBd HD1 HE1 a0 a1 a2 a3 a4 a5 hid
          generalize giveO O y = O2 at *
          generalize giveS O S y = S2 at *
          go_wp2_with fail
          obtain ⟨F5, hf5⟩ := HD2.out.fix
          obtain ⟨F6, hr5⟩ := HD2.out.ref
          have hS5 := hf5.back_le
          have HC1 := Lib.hid (fixCount hf5)
          have HC2 := Lib.hid (refCount hr5 (by omega))
          clear hf5 hr5
          generalize hcc : ((O2.length : Int) - S2.length) = cc at *
          refine HC1.out.mono ?_
          rintro r w8 ⟨rfl, hw8⟩
          subst hw8
          go_wp2_with fail
          refine HC2.out.mono ?_
          rintro r w8 ⟨rfl, m1, rfl⟩
          have HT1 := Lib.hid (HD2.out.later ((Ext.refl _).drewN' m1))
          clear HC1 HC2
          obtain ⟨F5, hf5⟩ := HT1.out.fix
          have HC3 := Lib.hid (fixBytes hf5 s1 s2)
          clear hf5
          generalize hbv : bytesV O2.length size = bv at *
          go_wp2_with fail
          refine HC3.out.mono ?_
          rintro r w8 ⟨rfl, m2, rfl⟩
          have HT2 := Lib.hid (HD2.out.later ((Ext.refl _).drewN' (m1 + m2)))
          clear HC3
          obtain ⟨F6, hr6⟩ := HT2.out.ref
          have HC4 := Lib.hid (refBytes hr6 s1 s2)
          clear hr6
          rw [hbv] at HC4
          go_wp2_with fail
          refine HC4.out.mono ?_
          rintro r w8 ⟨rfl, hw8⟩
          subst hw8
          clear HC4 hcc hbv
          go_wp2_with fail
          go_roundw
          case rel => exact ⟨k + 1, O2, S2, n, e, by go_num, by omega, HT2, by omega, trivial⟩
          case measure => simp [intOf]; omega
      · obtain ⟨F3, hf3⟩ := HR0.out.fix
        obtain ⟨F4, hr3⟩ := HR0.out.ref
        obtain ⟨a0, a1, a2⟩ := act_cell HB0.out
        have hlt2 := HB0.out.lt
        have HC1 := Lib.hid (fun (v : Later _) => later_same (fixLive y fy (hf3.later v.ext)))
        have HC2 := Lib.hid (fun (v : Later _) => later_same (refLive y fy (hr3.later v.ext)))
        clear hf3 hr3
        generalize liveB O y = lv at *
        go_wp2_with fail
        have l1 := later_cell a1 hlt2
        clear a0 a1 a2
        refine wp_region_later _ (by kernel_rfl) (by kernel_rfl) (Ext.refl _) ?_
        repeat (go_big_quiet_step (first | (go_at_call 11; exact HC1.out _) | (go_at_call 22; exact HC2.out _)))
        refine wpQuiet_nil ?_
        rintro ⟨w7, hg7⟩
        dsimp only
        have HR7 := Lib.hid (HR0.out.later hg7)
        clear l1 HC1 HC2 hg7
        cases lv
        all_goals
          go_wp2_with fail
          obtain ⟨F5, hf5⟩ := HR7.out.fix
          obtain ⟨F6, hr5⟩ := HR7.out.ref
          have hS5 := hf5.back_le
          have HC1 := Lib.hid (fixCount hf5)
          have HC2 := Lib.hid (refCount hr5 (by omega))
          clear hf5 hr5
          generalize hcc : ((O.length : Int) - S.length) = cc at *
          refine HC1.out.mono ?_
          rintro r w8 ⟨rfl, hw8⟩
          subst hw8
          go_wp2_with fail
          refine HC2.out.mono ?_
          rintro r w8 ⟨rfl, m1, rfl⟩
          have HT1 := Lib.hid (HR7.out.later ((Ext.refl _).drewN' m1))
          clear HC1 HC2
          obtain ⟨F5, hf5⟩ := HT1.out.fix
          have HC3 := Lib.hid (fixBytes hf5 s1 s2)
          clear hf5
          generalize hbv : bytesV O.length size = bv at *
          go_wp2_with fail
          refine HC3.out.mono ?_
          rintro r w8 ⟨rfl, m2, rfl⟩
          have HT2 := Lib.hid (HR7.out.later ((Ext.refl _).drewN' (m1 + m2)))
          clear HC3
          obtain ⟨F6, hr6⟩ := HT2.out.ref
          have HC4 := Lib.hid (refBytes hr6 s1 s2)
          clear hr6
          rw [hbv] at HC4
          go_wp2_with fail
          refine HC4.out.mono ?_
          rintro r w8 ⟨rfl, hw8⟩
          subst hw8
          clear HC4 hcc hbv
          go_wp2_with fail
          go_roundw
          case rel => exact ⟨k + 1, O, S, n, e, by go_num, by omega, HT2, by omega, trivial⟩
          case measure => simp [intOf]; omega
      · have k1 : (x == 1) = false := by simpa using hx1
        have k2 : (x == 2) = false := by simpa using hx2
        have k3 : (x == 3) = false := by simpa using hx3
        have k4 : (x == 4) = false := by simpa using hx4
        go_wp2_with fail
        obtain ⟨F5, hf5⟩ := HR0.out.fix
        obtain ⟨F6, hr5⟩ := HR0.out.ref
        have hS5 := hf5.back_le
        have HC1 := Lib.hid (fixCount hf5)
        have HC2 := Lib.hid (refCount hr5 (by omega))
        clear hf5 hr5
        generalize hcc : ((O.length : Int) - S.length) = cc at *
        refine HC1.out.mono ?_
        rintro r w8 ⟨rfl, hw8⟩
        subst hw8
        go_wp2_with fail
        refine HC2.out.mono ?_
        rintro r w8 ⟨rfl, m1, rfl⟩
        have HT1 := Lib.hid (HR0.out.later ((Ext.refl _).drewN' m1))
        clear HC1 HC2
        obtain ⟨F5, hf5⟩ := HT1.out.fix
        have HC3 := Lib.hid (fixBytes hf5 s1 s2)
        clear hf5
        generalize hbv : bytesV O.length size = bv at *
        go_wp2_with fail
        refine HC3.out.mono ?_
        rintro r w8 ⟨rfl, m2, rfl⟩
        have HT2 := Lib.hid (HR0.out.later ((Ext.refl _).drewN' (m1 + m2)))
        clear HC3
        obtain ⟨F6, hr6⟩ := HT2.out.ref
        have HC4 := Lib.hid (refBytes hr6 s1 s2)
        clear hr6
        rw [hbv] at HC4
        go_wp2_with fail
        refine HC4.out.mono ?_
        rintro r w8 ⟨rfl, hw8⟩
        subst hw8
        clear HC4 hcc hbv
        go_wp2_with fail
        go_roundw
        case rel => exact ⟨k + 1, O, S, n, e, by go_num, by omega, HT2, by omega, trivial⟩
        case measure => simp [intOf]; omega
    · go_wp2_with (go_at_call 13; refine (awake_any _).mono ?_; rintro r w5 ⟨rfl, hx5⟩)
      go_ret
      exact ⟨rfl, hR.out.ext.trans hx5⟩

set_option maxRecDepth 100000 in
set_option maxHeartbeats 4000000 in
theorem plays_NY (size block : Int) (hs : size < 1 ∨ 16384 < size) (hbk : bumpOk block = true) (p : Option Addr) (cap : Nat) (l : Acts) (W : World) (hl : l.len ≤ 400) (hA : ActsAt W p l) :
    Calls Try.prog 5 #[.int .i64 size, .int .i64 block, .slice p l.len cap] W fun r w' => r = .returned (.bool true) ∧ Ext W w' := by
  have HA := Lib.hid hA
  clear hA
  have hbs : 64 ≤ block ∧ block ≤ 1048576 := by
    unfold bumpOk at hbk
    simp only [Bool.and_eq_true, decide_eq_true_eq] at hbk
    exact hbk.1
  go_enter Try.func5, Try.ntmps5
  go_wp2_with fail
  refine (new_no size _ hs).mono ?_
  rintro r w1 ⟨rfl, hw⟩
  subst hw
  go_wp2_with fail
  refine (rnew_no size _ hs).mono ?_
  rintro r w2 ⟨rfl, hw⟩
  have HR2 : Hid (PRel W w2 size block none none none none [] [] [] [] 0 0 0 0) := Lib.hid ⟨trivial, trivial, trivial, trivial, hw ▸ Ext.refl _⟩
  clear hw
  go_wp2_with fail
  refine (newBump_yes block _ hbk).mono ?_
  rintro r w3 ⟨rfl, hf, hx⟩
  have hr := HR2.out.later hx
  have HR3 : Hid (PRel W w3 size block none none (some w2.heap.size) none [] [] [] [] 0 0 0 0) := Lib.hid ⟨hr.fix, hr.ref, ⟨hf, HR2.out.ext.size⟩, trivial, hr.ext⟩
  clear hf hx HR2 hr
  generalize w2.heap.size = gb at *
  go_wp2_with fail
  refine (rnewBump_yes block _ hbk).mono ?_
  rintro r w4 ⟨rfl, hf, hx⟩
  have hr := HR3.out.later hx
  have HR4 : Hid (PRel W w4 size block none none (some gb) (some w3.heap.size) [] [] [] [] 0 0 0 0) := Lib.hid ⟨hr.fix, hr.ref, hr.bmp, ⟨hf, HR3.out.ext.size⟩, hr.ext⟩
  clear hf hx HR3 hr
  generalize w3.heap.size = gq at *
  go_wp2_with fail
  go_loopw [15] (fun vk wr => ∃ (k : Nat) (O : List Bool) (S : List Nat) (n e : Int), vk = .int .i64 k ∧ k ≤ l.len ∧ Hid (PRel W wr size block none none (some gb) (some gq) O O S S n e n e) ∧ O.length ≤ k ∧ (0 ≤ e ∧ e ≤ block ∧ 0 ≤ n ∧ n ≤ k)) (fun vk _ => l.len - (intOf vk).toNat)
  case atStart => exact ⟨0, [], [], 0, 0, rfl, by omega, HR4, by simp, ⟨by omega, by omega, by omega, by omega⟩⟩
  case round =>
    obtain ⟨k, O, S, n, e, rfl, hk, hR, hO, he1, he2, hn1, hn2⟩ := hrel
    clear HR4
    by_cases hlt : k < l.len
    · obtain ⟨b0, off, rfl, hb0, c0, c1, c2, fx, fy, fz⟩ := HA.out k hlt
      have c0 := (hR.out.ext.cell _ _ hb0).trans c0
      have c1 := (hR.out.ext.cell _ _ hb0).trans c1
      have c2 := (hR.out.ext.cell _ _ hb0).trans c2
      generalize l.x k = x at *
      generalize l.y k = y at *
      generalize l.z k = z at *
      have HR0 := Lib.hid (hR.out.later ((Ext.refl wr).alloc #[.int .i64 x, .int .i64 y, .int .i64 z] 45))
      have HB0 := Lib.hid (Blk.new wr 45 #[.int .i64 x, .int .i64 y, .int .i64 z])
      clear hR
      have hx : x = 4 ∨ x = 1 ∨ x = 2 ∨ x = 3 ∨ (x ≠ 1 ∧ x ≠ 2 ∧ x ≠ 3 ∧ x ≠ 4) := by omega
      have hx : x = 4 ∨ x ≠ 4 := by omega
      rcases hx with rfl | hx4
      · have hb9 := b_next (b := block) (n := n) (e := e) (s := y) (a := z) (by omega) (by omega) (by omega) (by omega)
        have HQ1 := Lib.hid (pBytes1 HR0.out HB0.out y z hbs.2 ⟨he1, he2, hn1, by omega⟩)
        generalize hK : bK block n e y z = vK at *
        generalize hAt : bAt block n e y z = vA at *
        generalize hEr : bErr block n e y z = vE at *
        generalize hNn : bN block n e y z = n2 at *
        generalize hEn : bEnd block n e y z = e2 at *
        go_wp2_with fail
        refine HQ1.out.mono ?_
        rintro r w5 ⟨rfl, hr, hb⟩
        have HR5 := Lib.hid hr
        have HB5 := Lib.hid hb
        clear hr hb HQ1 HR0 HB0
        have HQ2 := Lib.hid (qBytes1 HR5.out HB5.out y z hbs.2 ⟨he1, he2, hn1, by omega⟩)
        rw [hK, hAt, hEr, hNn, hEn] at HQ2
        obtain ⟨a0, a1, a2⟩ := act_cell HB5.out
        go_wp2_with fail
        refine HQ2.out.mono ?_
        rintro r w6 ⟨rfl, hr, hb⟩
        have HR6 := Lib.hid hr
        have HB6 := Lib.hid hb
        clear hr hb HQ2 HR5 HB5 a0 a1 a2 hK hAt hEr hNn hEn
        obtain ⟨u1, -⟩ := HR6.out.bmp
        obtain ⟨u2, -⟩ := HR6.out.qmp
        have HC := Lib.hid (fun (v : Later w6) => later_same (blocks_any gb block n2 e2 v.w (u1.later v.ext)))
        have d1 : w6.cell? ⟨gq, 1, none⟩ = some (.int .i64 n2) := u2.cell 1
        have dlt := u2.lt
        clear u1 u2
        obtain ⟨a0, a1, a2⟩ := act_cell HB6.out
        have alt := HB6.out.lt
        go_wp2_with fail
        have l1 := later_cell d1 dlt
        refine wp_region_later w6 (by kernel_rfl) (by kernel_rfl) (Ext.refl _) ?_
        repeat (go_big_quiet_step (first | (go_at_call 19; exact HC.out _)))
        refine wpQuiet_nil ?_
        rintro ⟨w7, hg7⟩
        dsimp only
        have HR7 := Lib.hid (HR6.out.later hg7)
        have HB7 := Lib.hid (HB6.out.later hg7)
        clear l1 HC hg7 d1 dlt HR6 HB6 a0 a1 a2 alt
        obtain ⟨a0, a1, a2⟩ := act_cell HB7.out
        go_wp2_with fail
        go_roundw
        case rel => exact ⟨k + 1, O, S, n2, e2, by go_num, by omega, HR7, by omega, ⟨by omega, by omega, by omega, by omega⟩⟩
        case measure => simp [intOf]; omega
      · have k4 : (x == 4) = false := by simpa using hx4
        go_wp2_with fail
        go_roundw
        case rel => exact ⟨k + 1, O, S, n, e, by go_num, by omega, HR0, by omega, ⟨by omega, by omega, by omega, by omega⟩⟩
        case measure => simp [intOf]; omega
    · go_wp2_with (go_at_call 13; refine (awake_any _).mono ?_; rintro r w5 ⟨rfl, hx5⟩)
      go_ret
      exact ⟨rfl, hR.out.ext.trans hx5⟩

set_option maxRecDepth 100000 in
set_option maxHeartbeats 4000000 in
theorem plays_NN (size block : Int) (hs : size < 1 ∨ 16384 < size) (hbk : bumpOk block = false) (hbw : (Lit.int .i64 block).wf = true) (p : Option Addr) (cap : Nat) (l : Acts) (W : World) (hl : l.len ≤ 400) (hA : ActsAt W p l) :
    Calls Try.prog 5 #[.int .i64 size, .int .i64 block, .slice p l.len cap] W fun r w' => r = .returned (.bool true) ∧ Ext W w' := by
  have HA := Lib.hid hA
  clear hA
  go_enter Try.func5, Try.ntmps5
  go_wp2_with fail
  refine (new_no size _ hs).mono ?_
  rintro r w1 ⟨rfl, hw⟩
  subst hw
  go_wp2_with fail
  refine (rnew_no size _ hs).mono ?_
  rintro r w2 ⟨rfl, hw⟩
  have HR2 : Hid (PRel W w2 size block none none none none [] [] [] [] 0 0 0 0) := Lib.hid ⟨trivial, trivial, trivial, trivial, hw ▸ Ext.refl _⟩
  clear hw
  go_wp2_with fail
  refine (newBump_no block _ hbk hbw).mono ?_
  rintro r w3 ⟨rfl, hw⟩
  subst hw
  go_wp2_with fail
  refine (rnewBump_no block _ hbk hbw).mono ?_
  rintro r w4 ⟨rfl, hw⟩
  have HR4 := Lib.hid (HR2.out.later (hw ▸ Ext.refl _ : Ext w2 w4))
  clear hw HR2
  go_wp2_with fail
  go_loopw [15] (fun vk wr => ∃ (k : Nat) (O : List Bool) (S : List Nat) (n e : Int), vk = .int .i64 k ∧ k ≤ l.len ∧ Hid (PRel W wr size block none none none none O O S S n e n e) ∧ O.length ≤ k ∧ (True)) (fun vk _ => l.len - (intOf vk).toNat)
  case atStart => exact ⟨0, [], [], 0, 0, rfl, by omega, HR4, by simp, trivial⟩
  case round =>
    obtain ⟨k, O, S, n, e, rfl, hk, hR, hO, -⟩ := hrel
    clear HR4
    by_cases hlt : k < l.len
    · obtain ⟨b0, off, rfl, hb0, c0, c1, c2, fx, fy, fz⟩ := HA.out k hlt
      have c0 := (hR.out.ext.cell _ _ hb0).trans c0
      have c1 := (hR.out.ext.cell _ _ hb0).trans c1
      have c2 := (hR.out.ext.cell _ _ hb0).trans c2
      generalize l.x k = x at *
      generalize l.y k = y at *
      generalize l.z k = z at *
      have HR0 := Lib.hid (hR.out.later ((Ext.refl wr).alloc #[.int .i64 x, .int .i64 y, .int .i64 z] 45))
      have HB0 := Lib.hid (Blk.new wr 45 #[.int .i64 x, .int .i64 y, .int .i64 z])
      clear hR
      have hx : x = 4 ∨ x = 1 ∨ x = 2 ∨ x = 3 ∨ (x ≠ 1 ∧ x ≠ 2 ∧ x ≠ 3 ∧ x ≠ 4) := by omega
      have hx : x = 4 ∨ x ≠ 4 := by omega
      rcases hx with rfl | hx4
      · go_wp2_with fail
        go_roundw
        case rel => exact ⟨k + 1, O, S, n, e, by go_num, by omega, HR0, by omega, trivial⟩
        case measure => simp [intOf]; omega
      · have k4 : (x == 4) = false := by simpa using hx4
        go_wp2_with fail
        go_roundw
        case rel => exact ⟨k + 1, O, S, n, e, by go_num, by omega, HR0, by omega, trivial⟩
        case measure => simp [intOf]; omega
    · go_wp2_with (go_at_call 13; refine (awake_any _).mono ?_; rintro r w5 ⟨rfl, hx5⟩)
      go_ret
      exact ⟨rfl, hR.out.ext.trans hx5⟩

set_option maxRecDepth 100000 in
theorem plays_long (size block : Int) (p : Option Addr) (len cap : Nat) (W : World) (hm : len ≤ 9223372036854775807) (h : 400 < len) :
    Calls Try.prog 5 #[.int .i64 size, .int .i64 block, .slice p len cap] W fun r w' => r = .returned (.bool true) ∧ Ext W w' := by
  have k1 : decide (400 < (len : Int)) = true := decide_eq_true (by omega)
  go_enter Try.func5, Try.ntmps5
  go_wp2
  go_ret
  exact ⟨rfl, Ext.refl _⟩

theorem walk_FixPlays {W : World} (size : Int) (ws : (Lit.int .i64 size).wf = true) (block : Int) (wb : (Lit.int .i64 block).wf = true) (v : Value) (l : Acts) (hl : ActsIn W v l) :
    Calls Try.prog 5 #[.int .i64 size, .int .i64 block, v] W fun r w' => r = .returned (.bool true) ∧ Ext W w' := by
  obtain ⟨hm, p, cap, rfl, hA⟩ := hl
  unfold maxLen at hm
  by_cases h : 400 < l.len
  · exact plays_long size block p l.len cap W hm h
  · have h : l.len ≤ 400 := by omega
    by_cases hs : size < 1 ∨ 16384 < size
    · cases hb : bumpOk block
      · exact plays_NN size block hs hb wb p cap l W h hA
      · exact plays_NY size block hs hb p cap l W h hA
    · cases hb : bumpOk block
      · exact plays_YN size block (by omega) (by omega) hb wb p cap l W h hA
      · exact plays_YY size block (by omega) (by omega) hb p cap l W h hA

end Go.Proofs.Ytoofokbdohdmjaa
