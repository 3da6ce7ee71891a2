/- The contract of the reference's Make. -/
import Derived.Test.YticaamdghjfifaaDoorTabW
import Derived.Test.YticaamdghjfifaaDoorNumRPow
import Derived.Test.YticaamdghjfifaaDoorNumRMagic
namespace Go.Proofs.YticaamdghjfifaaDoor
open Go.RowKit
set_option linter.unusedVariables false

set_option maxRecDepth 100000 in
set_option maxHeartbeats 8000000 in
theorem rmake_yes (p m : Int) (w : World) (hok : makeOk p m = true) (p1 : 1024 ≤ p) (p2 : p ≤ 65536) (m1 : 64 ≤ m) (m2 : m ≤ 4 * p) (hpp : Hid (powB p = true)) (hpm : Hid (powB m = true)) :
    Calls Tryd.prog 37 #[.int .i64 p, .int .i64 m] w fun r w' => ∃ v, r = .returned (.tuple #[v, .int .i64 0]) ∧ w'.ownsRow w.heap.size 33 4 v (makeL p m).length (cls (makeL p m)) ∧ Ext w w' := by
  obtain ⟨i0, hi, hz0, hz1, hz2⟩ := info_parts infoClass
  go_enter Tryd.func37, Tryd.ntmps37
  go_wp2_with fail
  refine (rpow_any p _ (by omega) (by omega)).mono ?_
  rintro e w1 ⟨rfl, rfl⟩
  rw [hpp.out]
  go_wp2_with fail
  refine (rpow_any m _ (by omega) (by omega)).mono ?_
  rintro e w1 ⟨rfl, rfl⟩
  rw [hpm.out]
  go_wp2_with fail
  go_loopw [6, 7, 8] (fun v y s wr => ∃ (r : List Cl) (k f : Nat) (yi si : Int), y = .int .i64 yi ∧ s = .int .i64 si ∧ 8 ≤ yi ∧ yi ≤ 65536 ∧ 8 ≤ si ∧ si ≤ m + 65536 ∧ m < si + 8 * f ∧ k * 8 ≤ si ∧ (1 ≤ k ∨ si = 8) ∧ Hid (GRel w wr v r k) ∧ Hid (∀ x ∈ r, okC p m x) ∧ Hid (gather p m (m / 8).toNat [] 8 8 = gather p m f r yi si)) (fun _ _ s _ => (m + 1 - intOf s).toNat)
  case atStart => exact ⟨[], 0, (m / 8).toNat, 8, 8, rfl, rfl, by omega, by omega, by omega, by omega, by omega, by omega, .inr rfl, Lib.hid ⟨rfl, ⟨rfl, .inr ⟨w.heap.size, 1, _, rfl, Nat.le_refl _, heap_alloc_new w _, by omega, by unfold maxLen; omega, by rfl, by rfl⟩⟩, (Ext.refl _).alloc _ _⟩, Lib.hid (by simp), Lib.hid rfl⟩
  case round =>
    obtain ⟨r, k, f, yi, si, rfl, rfl, y1, y2, s1, s2, hf, hks, hk8, HG, HA0, HF0⟩ := hrel
    by_cases hc : si ≤ m
    · obtain ⟨kk, k1, k2, hbk, hsn⟩ := bytes_is si p (by omega) (by omega) (by omega) 32 0 rfl
      rw [show p * (((0 : Nat) : Int) + 1) = p by simp] at hbk
      have st1 := step_lo (s := si) y1 s1
      have st2 := step_hi (s := si) y2 (by omega) s1
      cases f with
      | zero => omega
      | succ f =>
      have HF1 := Lib.hid (HF0.out.trans (gather_on hc))
      have HA := Lib.hid (add_ok (n := p * kk) HA0.out (by omega) s1 hc kk k1 k2 rfl hsn)
      rw [hbk] at HF1
      have hnb : p * kk ≤ 65536 * 33 := Int.mul_le_mul p2 k2 (by omega) (by omega)
      have HBK := Lib.hid hbk
      have HOK := Lib.hid HA0.out
      clear HF0 HA0 hbk
      generalize hn : p * kk = n at *
      have HNK := Lib.hid hn
      clear hn
      cases hpw : powB si
      · have HE := Lib.hid (show stepV si yi = yi by unfold stepV; rw [if_neg (by rw [hpw]; decide)])
        rw [HE.out] at HF1 st1 st2
        have HPW := Lib.hid hpw
        clear HE hpw
        go_wp2_with fail
        refine (rpow_any si _ (by omega) (by omega)).mono ?_
        rintro e w1 ⟨rfl, rfl⟩
        rw [HPW.out]
        go_wp2_with fail
        have hsi0 : (si == 0) = false := by simp; omega
        have hsi1 : si ≠ 0 := by omega
        go_loop [9] (fun tt => ∃ (z : Int) (ff j : Nat), ff + j = 32 ∧ tt = .int .i64 z ∧ 1 ≤ z ∧ z ≤ 65536 * (j + 1) ∧ Hid (z = p * (j + 1)) ∧ Hid (n = bytesV si p ff z)) (fun tt => (65536 * 40 - intOf tt).toNat)
        case atStart => exact ⟨p, 32, 0, rfl, rfl, by omega, by omega, Lib.hid (by simp), Lib.hid HBK.out.symm⟩
        case round =>
          obtain ⟨z, ff, j, hff, rfl, n1, n2, hzz, hb⟩ := hrel
          by_cases hcc : z / 8 < z % si
          · cases ff with
            | zero =>
              exfalso
              have h32 : p * 32 ≤ z := by
                rw [hzz.out]
                exact Int.mul_le_mul_of_nonneg_left (by omega) (by omega)
              have hmm : z % si < si := Int.emod_lt_of_pos z (by omega)
              omega
            | succ ff =>
              have HB : Hid (n = bytesV si p ff (z + p)) := Lib.hid (by rw [hb.out]; show (if z / 8 < z % si then _ else _) = _; rw [if_pos hcc])
              have HN : Hid (z + p = p * (((j + 1 : Nat) : Int) + 1)) := Lib.hid (by rw [hzz.out, Int.natCast_add, Int.mul_add, Int.mul_add, Int.mul_add]; simp)
              go_wp2
              go_round
              case rel => exact ⟨z + p, ff, j + 1, by omega, rfl, by omega, by omega, HN, HB⟩
              case measure => simp [intOf]; omega
          · obtain rfl : n = z := by
              rw [hb.out]
              cases ff with
              | zero => rfl
              | succ ff => show (if z / 8 < z % si then _ else _) = _; rw [if_neg hcc]
            clear hb hzz n1 n2
            have hnp : 0 ≤ n / p := Int.ediv_nonneg (by omega) (by omega)
            have hns : 0 ≤ n / si := Int.ediv_nonneg (by omega) (by omega)
            have hnp2 : n / p ≤ n := Int.ediv_le_self _ (by omega)
            obtain ⟨g, cap, rfl, hbg, hgl, hnc, hcm⟩ := own_form HG.out.own
            have hcm' : cap ≤ 9223372036854775807 := by unfold maxLen at hcm; omega
            clear hcm
            have hsz := HG.out.ext.size
            cases r with
            | nil =>
              obtain rfl : k = 0 := by simpa using HG.out.len.symm
              have HF : Hid (gather p m (m / 8).toNat [] 8 8 = gather p m f [⟨si, n / p, 0, 0⟩] yi (si + yi)) := HF1
              clear HF1
              go_wp2
              go_quiet (fail)
              go_wp2_with (first | (at_builtin; refine wpList_append_off w.heap.size _ rfl (.tmp 105) (.tmp 111) 23 rfl 33 i0 _ 4 32 Tryd.underlying23 hi hz0 hz1 hz2 rfl (by decide) _ _ _ (by rfl) (by exact owns_later HG.out.own (Ext.below (by repeat (first | exact Ext.refl _ | refine Ext.drew ?_ | refine Ext.drewN ?_ _ | refine Ext.alloc ?_ _ _)))) (.slice (some ⟨wr.heap.size, 0, none⟩) 1 1) 1 [.int .i64 si, .int .i64 (n / p), .int .i64 0, .int .u32 0] (by rfl) (by exact src_new _ [.int .i64 si, .int .i64 (n / p), .int .i64 0, .int .u32 0] _ rfl) (by intro u hu; simp at hu; rcases hu with rfl | rfl | rfl | rfl <;> rfl) (by unfold maxLen; omega) (by omega) (by simp; omega) ?_) | fail)
              intro v' w3 hown' hoff
              have hx3 : Ext w w3 := (HG.out.ext.trans (by repeat (first | exact Ext.refl _ | refine Ext.drew ?_ | refine Ext.drewN ?_ _ | refine Ext.alloc ?_ _ _))).ofOff hoff (Nat.le_refl _)
              have HN := Lib.hid (grel_new HG.out.len (by first | exact hown' | (rw [List.reverse_cons]; exact hown')) hx3)
              clear hown' hoff hx3
              go_wp2
              go_roundw
              case rel => exact ⟨_, 0 + 1, f, yi, si + yi, rfl, rfl, by omega, by omega, by omega, by omega, by omega, by omega, .inl (by omega), HN, HA, HF⟩
              case measure => simp [intOf]; omega
            | cons x r =>
              have hx8 := HOK.out x (List.mem_cons_self)
              obtain ⟨x1, x2, x3, x4, x5, -, -⟩ := hx8
              obtain ⟨c0, c1⟩ := last_cells HG.out.own HG.out.len
              have hk1 : 1 ≤ k := by have := HG.out.len; simp at this; omega
              have hd1 : decide (0 < (k : Int)) = true := decide_eq_true (by omega)
              have hd2 : decide (0 < k) = true := decide_eq_true (by omega)
              have hxp : x.b * p ≤ 33 * 65536 := Int.mul_le_mul x4 p2 (by omega) (by omega)
              have hq1 : 0 ≤ x.b * p / x.a := Int.ediv_nonneg (by omega) (by omega)
              have fz := fun j => HG.out.own.frozenAt (g := g) j
              cases hE1 : (x.b == n / p)
              · have HF : Hid (gather p m (m / 8).toNat [] 8 8 = gather p m f (⟨si, n / p, 0, 0⟩ :: x :: r) yi (si + yi)) := Lib.hid (by rw [HF1.out, addC_new (by unfold sameB; rw [hE1]; rfl)])
                have HA2 := Lib.hid (show ∀ z ∈ (⟨si, n / p, 0, 0⟩ :: x :: r : List Cl), okC p m z by have := HA.out; rw [addC_new (by unfold sameB; rw [hE1]; rfl)] at this; exact this)
                clear HF1 HA
                have HA := HA2
                clear HA2
                obtain ⟨xa, xb, xc, xd⟩ := x
                dsimp only at *
                go_wp2
                go_quiet (fail)
                go_wp2_with (first | (at_builtin; refine wpList_append_off w.heap.size _ rfl (.tmp 105) (.tmp 111) 23 rfl 33 i0 _ 4 32 Tryd.underlying23 hi hz0 hz1 hz2 rfl (by decide) _ _ _ (by rfl) (by exact owns_later HG.out.own (Ext.below (by repeat (first | exact Ext.refl _ | refine Ext.drew ?_ | refine Ext.drewN ?_ _ | refine Ext.alloc ?_ _ _)))) (.slice (some ⟨wr.heap.size, 0, none⟩) 1 1) 1 [.int .i64 si, .int .i64 (n / p), .int .i64 0, .int .u32 0] (by rfl) (by exact src_new _ [.int .i64 si, .int .i64 (n / p), .int .i64 0, .int .u32 0] _ rfl) (by intro u hu; simp at hu; rcases hu with rfl | rfl | rfl | rfl <;> rfl) (by unfold maxLen; omega) (by omega) (by simp; omega) ?_) | fail)
                intro v' w3 hown' hoff
                have hx3 : Ext w w3 := (HG.out.ext.trans (by repeat (first | exact Ext.refl _ | refine Ext.drew ?_ | refine Ext.drewN ?_ _ | refine Ext.alloc ?_ _ _))).ofOff hoff (Nat.le_refl _)
                have HN := Lib.hid (grel_new HG.out.len (by first | exact hown' | (rw [List.reverse_cons]; exact hown')) hx3)
                clear hown' hoff hx3
                go_wp2
                go_roundw
                case rel => exact ⟨_, k + 1, f, yi, si + yi, rfl, rfl, by omega, by omega, by omega, by omega, by omega, by omega, .inl (by omega), HN, HA, HF⟩
                case measure => simp [intOf]; omega
              · have hxn : x.b * p = n := by
                  rw [beq_iff_eq.1 hE1, ← HNK.out, Int.mul_ediv_cancel_left _ (by omega), Int.mul_comm]
                have hna : 0 ≤ n / x.a := Int.ediv_nonneg (by omega) (by omega)
                rw [hxn] at hxp x5 hq1
                have HXN := Lib.hid hxn
                clear hxn
                cases hE2 : (n / x.a == n / si)
                · have HF : Hid (gather p m (m / 8).toNat [] 8 8 = gather p m f (⟨si, n / p, 0, 0⟩ :: x :: r) yi (si + yi)) := Lib.hid (by rw [HF1.out, addC_new (by unfold sameB; rw [hE1, HXN.out, hE2]; rfl)])
                  have HA2 := Lib.hid (show ∀ z ∈ (⟨si, n / p, 0, 0⟩ :: x :: r : List Cl), okC p m z by have := HA.out; rw [addC_new (by unfold sameB; rw [hE1, HXN.out, hE2]; rfl)] at this; exact this)
                  clear HF1 HA
                  have HA := HA2
                  clear HA2
                  obtain ⟨xa, xb, xc, xd⟩ := x
                  dsimp only at *
                  go_wp2
                  go_quiet (fail)
                  go_wp2_with (first | (at_builtin; refine wpList_append_off w.heap.size _ rfl (.tmp 105) (.tmp 111) 23 rfl 33 i0 _ 4 32 Tryd.underlying23 hi hz0 hz1 hz2 rfl (by decide) _ _ _ (by rfl) (by exact owns_later HG.out.own (Ext.below (by repeat (first | exact Ext.refl _ | refine Ext.drew ?_ | refine Ext.drewN ?_ _ | refine Ext.alloc ?_ _ _)))) (.slice (some ⟨wr.heap.size, 0, none⟩) 1 1) 1 [.int .i64 si, .int .i64 (n / p), .int .i64 0, .int .u32 0] (by rfl) (by exact src_new _ [.int .i64 si, .int .i64 (n / p), .int .i64 0, .int .u32 0] _ rfl) (by intro u hu; simp at hu; rcases hu with rfl | rfl | rfl | rfl <;> rfl) (by unfold maxLen; omega) (by omega) (by simp; omega) ?_) | fail)
                  intro v' w3 hown' hoff
                  have hx3 : Ext w w3 := (HG.out.ext.trans (by repeat (first | exact Ext.refl _ | refine Ext.drew ?_ | refine Ext.drewN ?_ _ | refine Ext.alloc ?_ _ _))).ofOff hoff (Nat.le_refl _)
                  have HN := Lib.hid (grel_new HG.out.len (by first | exact hown' | (rw [List.reverse_cons]; exact hown')) hx3)
                  clear hown' hoff hx3
                  go_wp2
                  go_roundw
                  case rel => exact ⟨_, k + 1, f, yi, si + yi, rfl, rfl, by omega, by omega, by omega, by omega, by omega, by omega, .inl (by omega), HN, HA, HF⟩
                  case measure => simp [intOf]; omega
                · have HF : Hid (gather p m (m / 8).toNat [] 8 8 = gather p m f (⟨si, x.b, x.c, x.d⟩ :: r) yi (si + yi)) := Lib.hid (by rw [HF1.out, addC_len_same (by unfold sameB; rw [hE1, HXN.out, hE2]; rfl)])
                  have HA2 := Lib.hid (show ∀ z ∈ (⟨si, x.b, x.c, x.d⟩ :: r : List Cl), okC p m z by have := HA.out; rw [addC_len_same (by unfold sameB; rw [hE1, HXN.out, hE2]; rfl)] at this; exact this)
                  clear HF1 HA
                  have HO := Lib.hid (last_set (s := si) HG.out.own HG.out.len)
                  have HX := Lib.hid (HG.out.ext.setCell (p := ⟨g, k * 4, none⟩) hbg (.int .i64 si))
                  have HL : Hid ((⟨si, x.b, x.c, x.d⟩ :: r : List Cl).length = k) := Lib.hid (by have := HG.out.len; simpa using this)
                  clear HG
                  obtain ⟨xa, xb, xc, xd⟩ := x
                  dsimp only at *
                  go_wp2
                  go_quiet (fail)
                  go_wp2
                  go_roundw
                  case rel => exact ⟨_, k, f, yi, si + yi, rfl, rfl, by omega, by omega, by omega, by omega, by omega, by omega, .inl hk1, Lib.hid ⟨HL.out, by first | exact HO.out | exact owns_later HO.out ((Ext.refl _).drewN _).below, by first | exact HX.out | exact HX.out.drewN _⟩, HA2, HF⟩
                  case measure => simp [intOf]; omega
      · by_cases t1 : 2048 ≤ si
        · have HE := Lib.hid (show stepV si yi = 256 by unfold stepV; rw [if_pos hpw, if_pos t1])
          rw [HE.out] at HF1 st1 st2
          have HPW := Lib.hid hpw
          clear HE hpw
          go_wp2_with fail
          refine (rpow_any si _ (by omega) (by omega)).mono ?_
          rintro e w1 ⟨rfl, rfl⟩
          rw [HPW.out]
          go_wp2_with fail
          have hsi0 : (si == 0) = false := by simp; omega
          have hsi1 : si ≠ 0 := by omega
          go_loop [9] (fun tt => ∃ (z : Int) (ff j : Nat), ff + j = 32 ∧ tt = .int .i64 z ∧ 1 ≤ z ∧ z ≤ 65536 * (j + 1) ∧ Hid (z = p * (j + 1)) ∧ Hid (n = bytesV si p ff z)) (fun tt => (65536 * 40 - intOf tt).toNat)
          case atStart => exact ⟨p, 32, 0, rfl, rfl, by omega, by omega, Lib.hid (by simp), Lib.hid HBK.out.symm⟩
          case round =>
            obtain ⟨z, ff, j, hff, rfl, n1, n2, hzz, hb⟩ := hrel
            by_cases hcc : z / 8 < z % si
            · cases ff with
              | zero =>
                exfalso
                have h32 : p * 32 ≤ z := by
                  rw [hzz.out]
                  exact Int.mul_le_mul_of_nonneg_left (by omega) (by omega)
                have hmm : z % si < si := Int.emod_lt_of_pos z (by omega)
                omega
              | succ ff =>
                have HB : Hid (n = bytesV si p ff (z + p)) := Lib.hid (by rw [hb.out]; show (if z / 8 < z % si then _ else _) = _; rw [if_pos hcc])
                have HN : Hid (z + p = p * (((j + 1 : Nat) : Int) + 1)) := Lib.hid (by rw [hzz.out, Int.natCast_add, Int.mul_add, Int.mul_add, Int.mul_add]; simp)
                go_wp2
                go_round
                case rel => exact ⟨z + p, ff, j + 1, by omega, rfl, by omega, by omega, HN, HB⟩
                case measure => simp [intOf]; omega
            · obtain rfl : n = z := by
                rw [hb.out]
                cases ff with
                | zero => rfl
                | succ ff => show (if z / 8 < z % si then _ else _) = _; rw [if_neg hcc]
              clear hb hzz n1 n2
              have hnp : 0 ≤ n / p := Int.ediv_nonneg (by omega) (by omega)
              have hns : 0 ≤ n / si := Int.ediv_nonneg (by omega) (by omega)
              have hnp2 : n / p ≤ n := Int.ediv_le_self _ (by omega)
              obtain ⟨g, cap, rfl, hbg, hgl, hnc, hcm⟩ := own_form HG.out.own
              have hcm' : cap ≤ 9223372036854775807 := by unfold maxLen at hcm; omega
              clear hcm
              have hsz := HG.out.ext.size
              cases r with
              | nil =>
                obtain rfl : k = 0 := by simpa using HG.out.len.symm
                exfalso
                omega
              | cons x r =>
                have hx8 := HOK.out x (List.mem_cons_self)
                obtain ⟨x1, x2, x3, x4, x5, -, -⟩ := hx8
                obtain ⟨c0, c1⟩ := last_cells HG.out.own HG.out.len
                have hk1 : 1 ≤ k := by have := HG.out.len; simp at this; omega
                have hd1 : decide (0 < (k : Int)) = true := decide_eq_true (by omega)
                have hd2 : decide (0 < k) = true := decide_eq_true (by omega)
                have hxp : x.b * p ≤ 33 * 65536 := Int.mul_le_mul x4 p2 (by omega) (by omega)
                have hq1 : 0 ≤ x.b * p / x.a := Int.ediv_nonneg (by omega) (by omega)
                have fz := fun j => HG.out.own.frozenAt (g := g) j
                cases hE1 : (x.b == n / p)
                · have HF : Hid (gather p m (m / 8).toNat [] 8 8 = gather p m f (⟨si, n / p, 0, 0⟩ :: x :: r) 256 (si + 256)) := Lib.hid (by rw [HF1.out, addC_new (by unfold sameB; rw [hE1]; rfl)])
                  have HA2 := Lib.hid (show ∀ z ∈ (⟨si, n / p, 0, 0⟩ :: x :: r : List Cl), okC p m z by have := HA.out; rw [addC_new (by unfold sameB; rw [hE1]; rfl)] at this; exact this)
                  clear HF1 HA
                  have HA := HA2
                  clear HA2
                  obtain ⟨xa, xb, xc, xd⟩ := x
                  dsimp only at *
                  go_wp2
                  go_quiet (fail)
                  go_wp2_with (first | (at_builtin; refine wpList_append_off w.heap.size _ rfl (.tmp 105) (.tmp 111) 23 rfl 33 i0 _ 4 32 Tryd.underlying23 hi hz0 hz1 hz2 rfl (by decide) _ _ _ (by rfl) (by exact owns_later HG.out.own (Ext.below (by repeat (first | exact Ext.refl _ | refine Ext.drew ?_ | refine Ext.drewN ?_ _ | refine Ext.alloc ?_ _ _)))) (.slice (some ⟨wr.heap.size, 0, none⟩) 1 1) 1 [.int .i64 si, .int .i64 (n / p), .int .i64 0, .int .u32 0] (by rfl) (by exact src_new _ [.int .i64 si, .int .i64 (n / p), .int .i64 0, .int .u32 0] _ rfl) (by intro u hu; simp at hu; rcases hu with rfl | rfl | rfl | rfl <;> rfl) (by unfold maxLen; omega) (by omega) (by simp; omega) ?_) | fail)
                  intro v' w3 hown' hoff
                  have hx3 : Ext w w3 := (HG.out.ext.trans (by repeat (first | exact Ext.refl _ | refine Ext.drew ?_ | refine Ext.drewN ?_ _ | refine Ext.alloc ?_ _ _))).ofOff hoff (Nat.le_refl _)
                  have HN := Lib.hid (grel_new HG.out.len (by first | exact hown' | (rw [List.reverse_cons]; exact hown')) hx3)
                  clear hown' hoff hx3
                  go_wp2
                  go_roundw
                  case rel => exact ⟨_, k + 1, f, 256, si + 256, rfl, rfl, by omega, by omega, by omega, by omega, by omega, by omega, .inl (by omega), HN, HA, HF⟩
                  case measure => simp [intOf]; omega
                · have hxn : x.b * p = n := by
                    rw [beq_iff_eq.1 hE1, ← HNK.out, Int.mul_ediv_cancel_left _ (by omega), Int.mul_comm]
                  have hna : 0 ≤ n / x.a := Int.ediv_nonneg (by omega) (by omega)
                  rw [hxn] at hxp x5 hq1
                  have HXN := Lib.hid hxn
                  clear hxn
                  cases hE2 : (n / x.a == n / si)
                  · have HF : Hid (gather p m (m / 8).toNat [] 8 8 = gather p m f (⟨si, n / p, 0, 0⟩ :: x :: r) 256 (si + 256)) := Lib.hid (by rw [HF1.out, addC_new (by unfold sameB; rw [hE1, HXN.out, hE2]; rfl)])
                    have HA2 := Lib.hid (show ∀ z ∈ (⟨si, n / p, 0, 0⟩ :: x :: r : List Cl), okC p m z by have := HA.out; rw [addC_new (by unfold sameB; rw [hE1, HXN.out, hE2]; rfl)] at this; exact this)
                    clear HF1 HA
                    have HA := HA2
                    clear HA2
                    obtain ⟨xa, xb, xc, xd⟩ := x
                    dsimp only at *
                    go_wp2
                    go_quiet (fail)
                    go_wp2_with (first | (at_builtin; refine wpList_append_off w.heap.size _ rfl (.tmp 105) (.tmp 111) 23 rfl 33 i0 _ 4 32 Tryd.underlying23 hi hz0 hz1 hz2 rfl (by decide) _ _ _ (by rfl) (by exact owns_later HG.out.own (Ext.below (by repeat (first | exact Ext.refl _ | refine Ext.drew ?_ | refine Ext.drewN ?_ _ | refine Ext.alloc ?_ _ _)))) (.slice (some ⟨wr.heap.size, 0, none⟩) 1 1) 1 [.int .i64 si, .int .i64 (n / p), .int .i64 0, .int .u32 0] (by rfl) (by exact src_new _ [.int .i64 si, .int .i64 (n / p), .int .i64 0, .int .u32 0] _ rfl) (by intro u hu; simp at hu; rcases hu with rfl | rfl | rfl | rfl <;> rfl) (by unfold maxLen; omega) (by omega) (by simp; omega) ?_) | fail)
                    intro v' w3 hown' hoff
                    have hx3 : Ext w w3 := (HG.out.ext.trans (by repeat (first | exact Ext.refl _ | refine Ext.drew ?_ | refine Ext.drewN ?_ _ | refine Ext.alloc ?_ _ _))).ofOff hoff (Nat.le_refl _)
                    have HN := Lib.hid (grel_new HG.out.len (by first | exact hown' | (rw [List.reverse_cons]; exact hown')) hx3)
                    clear hown' hoff hx3
                    go_wp2
                    go_roundw
                    case rel => exact ⟨_, k + 1, f, 256, si + 256, rfl, rfl, by omega, by omega, by omega, by omega, by omega, by omega, .inl (by omega), HN, HA, HF⟩
                    case measure => simp [intOf]; omega
                  · have HF : Hid (gather p m (m / 8).toNat [] 8 8 = gather p m f (⟨si, x.b, x.c, x.d⟩ :: r) 256 (si + 256)) := Lib.hid (by rw [HF1.out, addC_len_same (by unfold sameB; rw [hE1, HXN.out, hE2]; rfl)])
                    have HA2 := Lib.hid (show ∀ z ∈ (⟨si, x.b, x.c, x.d⟩ :: r : List Cl), okC p m z by have := HA.out; rw [addC_len_same (by unfold sameB; rw [hE1, HXN.out, hE2]; rfl)] at this; exact this)
                    clear HF1 HA
                    have HO := Lib.hid (last_set (s := si) HG.out.own HG.out.len)
                    have HX := Lib.hid (HG.out.ext.setCell (p := ⟨g, k * 4, none⟩) hbg (.int .i64 si))
                    have HL : Hid ((⟨si, x.b, x.c, x.d⟩ :: r : List Cl).length = k) := Lib.hid (by have := HG.out.len; simpa using this)
                    clear HG
                    obtain ⟨xa, xb, xc, xd⟩ := x
                    dsimp only at *
                    go_wp2
                    go_quiet (fail)
                    go_wp2
                    go_roundw
                    case rel => exact ⟨_, k, f, 256, si + 256, rfl, rfl, by omega, by omega, by omega, by omega, by omega, by omega, .inl hk1, Lib.hid ⟨HL.out, by first | exact HO.out | exact owns_later HO.out ((Ext.refl _).drewN _).below, by first | exact HX.out | exact HX.out.drewN _⟩, HA2, HF⟩
                    case measure => simp [intOf]; omega
        · by_cases t2 : 128 ≤ si
          · have HE := Lib.hid (show stepV si yi = si / 8 by unfold stepV; rw [if_pos hpw, if_neg t1, if_pos t2])
            rw [HE.out] at HF1 st1 st2
            have HPW := Lib.hid hpw
            clear HE hpw
            go_wp2_with fail
            refine (rpow_any si _ (by omega) (by omega)).mono ?_
            rintro e w1 ⟨rfl, rfl⟩
            rw [HPW.out]
            go_wp2_with fail
            have hsi0 : (si == 0) = false := by simp; omega
            have hsi1 : si ≠ 0 := by omega
            go_loop [9] (fun tt => ∃ (z : Int) (ff j : Nat), ff + j = 32 ∧ tt = .int .i64 z ∧ 1 ≤ z ∧ z ≤ 65536 * (j + 1) ∧ Hid (z = p * (j + 1)) ∧ Hid (n = bytesV si p ff z)) (fun tt => (65536 * 40 - intOf tt).toNat)
            case atStart => exact ⟨p, 32, 0, rfl, rfl, by omega, by omega, Lib.hid (by simp), Lib.hid HBK.out.symm⟩
            case round =>
              obtain ⟨z, ff, j, hff, rfl, n1, n2, hzz, hb⟩ := hrel
              by_cases hcc : z / 8 < z % si
              · cases ff with
                | zero =>
                  exfalso
                  have h32 : p * 32 ≤ z := by
                    rw [hzz.out]
                    exact Int.mul_le_mul_of_nonneg_left (by omega) (by omega)
                  have hmm : z % si < si := Int.emod_lt_of_pos z (by omega)
                  omega
                | succ ff =>
                  have HB : Hid (n = bytesV si p ff (z + p)) := Lib.hid (by rw [hb.out]; show (if z / 8 < z % si then _ else _) = _; rw [if_pos hcc])
                  have HN : Hid (z + p = p * (((j + 1 : Nat) : Int) + 1)) := Lib.hid (by rw [hzz.out, Int.natCast_add, Int.mul_add, Int.mul_add, Int.mul_add]; simp)
                  go_wp2
                  go_round
                  case rel => exact ⟨z + p, ff, j + 1, by omega, rfl, by omega, by omega, HN, HB⟩
                  case measure => simp [intOf]; omega
              · obtain rfl : n = z := by
                  rw [hb.out]
                  cases ff with
                  | zero => rfl
                  | succ ff => show (if z / 8 < z % si then _ else _) = _; rw [if_neg hcc]
                clear hb hzz n1 n2
                have hnp : 0 ≤ n / p := Int.ediv_nonneg (by omega) (by omega)
                have hns : 0 ≤ n / si := Int.ediv_nonneg (by omega) (by omega)
                have hnp2 : n / p ≤ n := Int.ediv_le_self _ (by omega)
                obtain ⟨g, cap, rfl, hbg, hgl, hnc, hcm⟩ := own_form HG.out.own
                have hcm' : cap ≤ 9223372036854775807 := by unfold maxLen at hcm; omega
                clear hcm
                have hsz := HG.out.ext.size
                cases r with
                | nil =>
                  obtain rfl : k = 0 := by simpa using HG.out.len.symm
                  exfalso
                  omega
                | cons x r =>
                  have hx8 := HOK.out x (List.mem_cons_self)
                  obtain ⟨x1, x2, x3, x4, x5, -, -⟩ := hx8
                  obtain ⟨c0, c1⟩ := last_cells HG.out.own HG.out.len
                  have hk1 : 1 ≤ k := by have := HG.out.len; simp at this; omega
                  have hd1 : decide (0 < (k : Int)) = true := decide_eq_true (by omega)
                  have hd2 : decide (0 < k) = true := decide_eq_true (by omega)
                  have hxp : x.b * p ≤ 33 * 65536 := Int.mul_le_mul x4 p2 (by omega) (by omega)
                  have hq1 : 0 ≤ x.b * p / x.a := Int.ediv_nonneg (by omega) (by omega)
                  have fz := fun j => HG.out.own.frozenAt (g := g) j
                  cases hE1 : (x.b == n / p)
                  · have HF : Hid (gather p m (m / 8).toNat [] 8 8 = gather p m f (⟨si, n / p, 0, 0⟩ :: x :: r) (si / 8) (si + (si / 8))) := Lib.hid (by rw [HF1.out, addC_new (by unfold sameB; rw [hE1]; rfl)])
                    have HA2 := Lib.hid (show ∀ z ∈ (⟨si, n / p, 0, 0⟩ :: x :: r : List Cl), okC p m z by have := HA.out; rw [addC_new (by unfold sameB; rw [hE1]; rfl)] at this; exact this)
                    clear HF1 HA
                    have HA := HA2
                    clear HA2
                    obtain ⟨xa, xb, xc, xd⟩ := x
                    dsimp only at *
                    go_wp2
                    go_quiet (fail)
                    go_wp2_with (first | (at_builtin; refine wpList_append_off w.heap.size _ rfl (.tmp 105) (.tmp 111) 23 rfl 33 i0 _ 4 32 Tryd.underlying23 hi hz0 hz1 hz2 rfl (by decide) _ _ _ (by rfl) (by exact owns_later HG.out.own (Ext.below (by repeat (first | exact Ext.refl _ | refine Ext.drew ?_ | refine Ext.drewN ?_ _ | refine Ext.alloc ?_ _ _)))) (.slice (some ⟨wr.heap.size, 0, none⟩) 1 1) 1 [.int .i64 si, .int .i64 (n / p), .int .i64 0, .int .u32 0] (by rfl) (by exact src_new _ [.int .i64 si, .int .i64 (n / p), .int .i64 0, .int .u32 0] _ rfl) (by intro u hu; simp at hu; rcases hu with rfl | rfl | rfl | rfl <;> rfl) (by unfold maxLen; omega) (by omega) (by simp; omega) ?_) | fail)
                    intro v' w3 hown' hoff
                    have hx3 : Ext w w3 := (HG.out.ext.trans (by repeat (first | exact Ext.refl _ | refine Ext.drew ?_ | refine Ext.drewN ?_ _ | refine Ext.alloc ?_ _ _))).ofOff hoff (Nat.le_refl _)
                    have HN := Lib.hid (grel_new HG.out.len (by first | exact hown' | (rw [List.reverse_cons]; exact hown')) hx3)
                    clear hown' hoff hx3
                    go_wp2
                    go_roundw
                    case rel => exact ⟨_, k + 1, f, (si / 8), si + (si / 8), rfl, rfl, by omega, by omega, by omega, by omega, by omega, by omega, .inl (by omega), HN, HA, HF⟩
                    case measure => simp [intOf]; omega
                  · have hxn : x.b * p = n := by
                      rw [beq_iff_eq.1 hE1, ← HNK.out, Int.mul_ediv_cancel_left _ (by omega), Int.mul_comm]
                    have hna : 0 ≤ n / x.a := Int.ediv_nonneg (by omega) (by omega)
                    rw [hxn] at hxp x5 hq1
                    have HXN := Lib.hid hxn
                    clear hxn
                    cases hE2 : (n / x.a == n / si)
                    · have HF : Hid (gather p m (m / 8).toNat [] 8 8 = gather p m f (⟨si, n / p, 0, 0⟩ :: x :: r) (si / 8) (si + (si / 8))) := Lib.hid (by rw [HF1.out, addC_new (by unfold sameB; rw [hE1, HXN.out, hE2]; rfl)])
                      have HA2 := Lib.hid (show ∀ z ∈ (⟨si, n / p, 0, 0⟩ :: x :: r : List Cl), okC p m z by have := HA.out; rw [addC_new (by unfold sameB; rw [hE1, HXN.out, hE2]; rfl)] at this; exact this)
                      clear HF1 HA
                      have HA := HA2
                      clear HA2
                      obtain ⟨xa, xb, xc, xd⟩ := x
                      dsimp only at *
                      go_wp2
                      go_quiet (fail)
                      go_wp2_with (first | (at_builtin; refine wpList_append_off w.heap.size _ rfl (.tmp 105) (.tmp 111) 23 rfl 33 i0 _ 4 32 Tryd.underlying23 hi hz0 hz1 hz2 rfl (by decide) _ _ _ (by rfl) (by exact owns_later HG.out.own (Ext.below (by repeat (first | exact Ext.refl _ | refine Ext.drew ?_ | refine Ext.drewN ?_ _ | refine Ext.alloc ?_ _ _)))) (.slice (some ⟨wr.heap.size, 0, none⟩) 1 1) 1 [.int .i64 si, .int .i64 (n / p), .int .i64 0, .int .u32 0] (by rfl) (by exact src_new _ [.int .i64 si, .int .i64 (n / p), .int .i64 0, .int .u32 0] _ rfl) (by intro u hu; simp at hu; rcases hu with rfl | rfl | rfl | rfl <;> rfl) (by unfold maxLen; omega) (by omega) (by simp; omega) ?_) | fail)
                      intro v' w3 hown' hoff
                      have hx3 : Ext w w3 := (HG.out.ext.trans (by repeat (first | exact Ext.refl _ | refine Ext.drew ?_ | refine Ext.drewN ?_ _ | refine Ext.alloc ?_ _ _))).ofOff hoff (Nat.le_refl _)
                      have HN := Lib.hid (grel_new HG.out.len (by first | exact hown' | (rw [List.reverse_cons]; exact hown')) hx3)
                      clear hown' hoff hx3
                      go_wp2
                      go_roundw
                      case rel => exact ⟨_, k + 1, f, (si / 8), si + (si / 8), rfl, rfl, by omega, by omega, by omega, by omega, by omega, by omega, .inl (by omega), HN, HA, HF⟩
                      case measure => simp [intOf]; omega
                    · have HF : Hid (gather p m (m / 8).toNat [] 8 8 = gather p m f (⟨si, x.b, x.c, x.d⟩ :: r) (si / 8) (si + (si / 8))) := Lib.hid (by rw [HF1.out, addC_len_same (by unfold sameB; rw [hE1, HXN.out, hE2]; rfl)])
                      have HA2 := Lib.hid (show ∀ z ∈ (⟨si, x.b, x.c, x.d⟩ :: r : List Cl), okC p m z by have := HA.out; rw [addC_len_same (by unfold sameB; rw [hE1, HXN.out, hE2]; rfl)] at this; exact this)
                      clear HF1 HA
                      have HO := Lib.hid (last_set (s := si) HG.out.own HG.out.len)
                      have HX := Lib.hid (HG.out.ext.setCell (p := ⟨g, k * 4, none⟩) hbg (.int .i64 si))
                      have HL : Hid ((⟨si, x.b, x.c, x.d⟩ :: r : List Cl).length = k) := Lib.hid (by have := HG.out.len; simpa using this)
                      clear HG
                      obtain ⟨xa, xb, xc, xd⟩ := x
                      dsimp only at *
                      go_wp2
                      go_quiet (fail)
                      go_wp2
                      go_roundw
                      case rel => exact ⟨_, k, f, (si / 8), si + (si / 8), rfl, rfl, by omega, by omega, by omega, by omega, by omega, by omega, .inl hk1, Lib.hid ⟨HL.out, by first | exact HO.out | exact owns_later HO.out ((Ext.refl _).drewN _).below, by first | exact HX.out | exact HX.out.drewN _⟩, HA2, HF⟩
                      case measure => simp [intOf]; omega
          · by_cases t3 : 32 ≤ si
            · have HE := Lib.hid (show stepV si yi = 16 by unfold stepV; rw [if_pos hpw, if_neg t1, if_neg t2, if_pos t3])
              rw [HE.out] at HF1 st1 st2
              have HPW := Lib.hid hpw
              clear HE hpw
              go_wp2_with fail
              refine (rpow_any si _ (by omega) (by omega)).mono ?_
              rintro e w1 ⟨rfl, rfl⟩
              rw [HPW.out]
              go_wp2_with fail
              have hsi0 : (si == 0) = false := by simp; omega
              have hsi1 : si ≠ 0 := by omega
              go_loop [9] (fun tt => ∃ (z : Int) (ff j : Nat), ff + j = 32 ∧ tt = .int .i64 z ∧ 1 ≤ z ∧ z ≤ 65536 * (j + 1) ∧ Hid (z = p * (j + 1)) ∧ Hid (n = bytesV si p ff z)) (fun tt => (65536 * 40 - intOf tt).toNat)
              case atStart => exact ⟨p, 32, 0, rfl, rfl, by omega, by omega, Lib.hid (by simp), Lib.hid HBK.out.symm⟩
              case round =>
                obtain ⟨z, ff, j, hff, rfl, n1, n2, hzz, hb⟩ := hrel
                by_cases hcc : z / 8 < z % si
                · cases ff with
                  | zero =>
                    exfalso
                    have h32 : p * 32 ≤ z := by
                      rw [hzz.out]
                      exact Int.mul_le_mul_of_nonneg_left (by omega) (by omega)
                    have hmm : z % si < si := Int.emod_lt_of_pos z (by omega)
                    omega
                  | succ ff =>
                    have HB : Hid (n = bytesV si p ff (z + p)) := Lib.hid (by rw [hb.out]; show (if z / 8 < z % si then _ else _) = _; rw [if_pos hcc])
                    have HN : Hid (z + p = p * (((j + 1 : Nat) : Int) + 1)) := Lib.hid (by rw [hzz.out, Int.natCast_add, Int.mul_add, Int.mul_add, Int.mul_add]; simp)
                    go_wp2
                    go_round
                    case rel => exact ⟨z + p, ff, j + 1, by omega, rfl, by omega, by omega, HN, HB⟩
                    case measure => simp [intOf]; omega
                · obtain rfl : n = z := by
                    rw [hb.out]
                    cases ff with
                    | zero => rfl
                    | succ ff => show (if z / 8 < z % si then _ else _) = _; rw [if_neg hcc]
                  clear hb hzz n1 n2
                  have hnp : 0 ≤ n / p := Int.ediv_nonneg (by omega) (by omega)
                  have hns : 0 ≤ n / si := Int.ediv_nonneg (by omega) (by omega)
                  have hnp2 : n / p ≤ n := Int.ediv_le_self _ (by omega)
                  obtain ⟨g, cap, rfl, hbg, hgl, hnc, hcm⟩ := own_form HG.out.own
                  have hcm' : cap ≤ 9223372036854775807 := by unfold maxLen at hcm; omega
                  clear hcm
                  have hsz := HG.out.ext.size
                  cases r with
                  | nil =>
                    obtain rfl : k = 0 := by simpa using HG.out.len.symm
                    exfalso
                    omega
                  | cons x r =>
                    have hx8 := HOK.out x (List.mem_cons_self)
                    obtain ⟨x1, x2, x3, x4, x5, -, -⟩ := hx8
                    obtain ⟨c0, c1⟩ := last_cells HG.out.own HG.out.len
                    have hk1 : 1 ≤ k := by have := HG.out.len; simp at this; omega
                    have hd1 : decide (0 < (k : Int)) = true := decide_eq_true (by omega)
                    have hd2 : decide (0 < k) = true := decide_eq_true (by omega)
                    have hxp : x.b * p ≤ 33 * 65536 := Int.mul_le_mul x4 p2 (by omega) (by omega)
                    have hq1 : 0 ≤ x.b * p / x.a := Int.ediv_nonneg (by omega) (by omega)
                    have fz := fun j => HG.out.own.frozenAt (g := g) j
                    cases hE1 : (x.b == n / p)
                    · have HF : Hid (gather p m (m / 8).toNat [] 8 8 = gather p m f (⟨si, n / p, 0, 0⟩ :: x :: r) 16 (si + 16)) := Lib.hid (by rw [HF1.out, addC_new (by unfold sameB; rw [hE1]; rfl)])
                      have HA2 := Lib.hid (show ∀ z ∈ (⟨si, n / p, 0, 0⟩ :: x :: r : List Cl), okC p m z by have := HA.out; rw [addC_new (by unfold sameB; rw [hE1]; rfl)] at this; exact this)
                      clear HF1 HA
                      have HA := HA2
                      clear HA2
                      obtain ⟨xa, xb, xc, xd⟩ := x
                      dsimp only at *
                      go_wp2
                      go_quiet (fail)
                      go_wp2_with (first | (at_builtin; refine wpList_append_off w.heap.size _ rfl (.tmp 105) (.tmp 111) 23 rfl 33 i0 _ 4 32 Tryd.underlying23 hi hz0 hz1 hz2 rfl (by decide) _ _ _ (by rfl) (by exact owns_later HG.out.own (Ext.below (by repeat (first | exact Ext.refl _ | refine Ext.drew ?_ | refine Ext.drewN ?_ _ | refine Ext.alloc ?_ _ _)))) (.slice (some ⟨wr.heap.size, 0, none⟩) 1 1) 1 [.int .i64 si, .int .i64 (n / p), .int .i64 0, .int .u32 0] (by rfl) (by exact src_new _ [.int .i64 si, .int .i64 (n / p), .int .i64 0, .int .u32 0] _ rfl) (by intro u hu; simp at hu; rcases hu with rfl | rfl | rfl | rfl <;> rfl) (by unfold maxLen; omega) (by omega) (by simp; omega) ?_) | fail)
                      intro v' w3 hown' hoff
                      have hx3 : Ext w w3 := (HG.out.ext.trans (by repeat (first | exact Ext.refl _ | refine Ext.drew ?_ | refine Ext.drewN ?_ _ | refine Ext.alloc ?_ _ _))).ofOff hoff (Nat.le_refl _)
                      have HN := Lib.hid (grel_new HG.out.len (by first | exact hown' | (rw [List.reverse_cons]; exact hown')) hx3)
                      clear hown' hoff hx3
                      go_wp2
                      go_roundw
                      case rel => exact ⟨_, k + 1, f, 16, si + 16, rfl, rfl, by omega, by omega, by omega, by omega, by omega, by omega, .inl (by omega), HN, HA, HF⟩
                      case measure => simp [intOf]; omega
                    · have hxn : x.b * p = n := by
                        rw [beq_iff_eq.1 hE1, ← HNK.out, Int.mul_ediv_cancel_left _ (by omega), Int.mul_comm]
                      have hna : 0 ≤ n / x.a := Int.ediv_nonneg (by omega) (by omega)
                      rw [hxn] at hxp x5 hq1
                      have HXN := Lib.hid hxn
                      clear hxn
                      cases hE2 : (n / x.a == n / si)
                      · have HF : Hid (gather p m (m / 8).toNat [] 8 8 = gather p m f (⟨si, n / p, 0, 0⟩ :: x :: r) 16 (si + 16)) := Lib.hid (by rw [HF1.out, addC_new (by unfold sameB; rw [hE1, HXN.out, hE2]; rfl)])
                        have HA2 := Lib.hid (show ∀ z ∈ (⟨si, n / p, 0, 0⟩ :: x :: r : List Cl), okC p m z by have := HA.out; rw [addC_new (by unfold sameB; rw [hE1, HXN.out, hE2]; rfl)] at this; exact this)
                        clear HF1 HA
                        have HA := HA2
                        clear HA2
                        obtain ⟨xa, xb, xc, xd⟩ := x
                        dsimp only at *
                        go_wp2
                        go_quiet (fail)
                        go_wp2_with (first | (at_builtin; refine wpList_append_off w.heap.size _ rfl (.tmp 105) (.tmp 111) 23 rfl 33 i0 _ 4 32 Tryd.underlying23 hi hz0 hz1 hz2 rfl (by decide) _ _ _ (by rfl) (by exact owns_later HG.out.own (Ext.below (by repeat (first | exact Ext.refl _ | refine Ext.drew ?_ | refine Ext.drewN ?_ _ | refine Ext.alloc ?_ _ _)))) (.slice (some ⟨wr.heap.size, 0, none⟩) 1 1) 1 [.int .i64 si, .int .i64 (n / p), .int .i64 0, .int .u32 0] (by rfl) (by exact src_new _ [.int .i64 si, .int .i64 (n / p), .int .i64 0, .int .u32 0] _ rfl) (by intro u hu; simp at hu; rcases hu with rfl | rfl | rfl | rfl <;> rfl) (by unfold maxLen; omega) (by omega) (by simp; omega) ?_) | fail)
                        intro v' w3 hown' hoff
                        have hx3 : Ext w w3 := (HG.out.ext.trans (by repeat (first | exact Ext.refl _ | refine Ext.drew ?_ | refine Ext.drewN ?_ _ | refine Ext.alloc ?_ _ _))).ofOff hoff (Nat.le_refl _)
                        have HN := Lib.hid (grel_new HG.out.len (by first | exact hown' | (rw [List.reverse_cons]; exact hown')) hx3)
                        clear hown' hoff hx3
                        go_wp2
                        go_roundw
                        case rel => exact ⟨_, k + 1, f, 16, si + 16, rfl, rfl, by omega, by omega, by omega, by omega, by omega, by omega, .inl (by omega), HN, HA, HF⟩
                        case measure => simp [intOf]; omega
                      · have HF : Hid (gather p m (m / 8).toNat [] 8 8 = gather p m f (⟨si, x.b, x.c, x.d⟩ :: r) 16 (si + 16)) := Lib.hid (by rw [HF1.out, addC_len_same (by unfold sameB; rw [hE1, HXN.out, hE2]; rfl)])
                        have HA2 := Lib.hid (show ∀ z ∈ (⟨si, x.b, x.c, x.d⟩ :: r : List Cl), okC p m z by have := HA.out; rw [addC_len_same (by unfold sameB; rw [hE1, HXN.out, hE2]; rfl)] at this; exact this)
                        clear HF1 HA
                        have HO := Lib.hid (last_set (s := si) HG.out.own HG.out.len)
                        have HX := Lib.hid (HG.out.ext.setCell (p := ⟨g, k * 4, none⟩) hbg (.int .i64 si))
                        have HL : Hid ((⟨si, x.b, x.c, x.d⟩ :: r : List Cl).length = k) := Lib.hid (by have := HG.out.len; simpa using this)
                        clear HG
                        obtain ⟨xa, xb, xc, xd⟩ := x
                        dsimp only at *
                        go_wp2
                        go_quiet (fail)
                        go_wp2
                        go_roundw
                        case rel => exact ⟨_, k, f, 16, si + 16, rfl, rfl, by omega, by omega, by omega, by omega, by omega, by omega, .inl hk1, Lib.hid ⟨HL.out, by first | exact HO.out | exact owns_later HO.out ((Ext.refl _).drewN _).below, by first | exact HX.out | exact HX.out.drewN _⟩, HA2, HF⟩
                        case measure => simp [intOf]; omega
            · have HE := Lib.hid (show stepV si yi = yi by unfold stepV; rw [if_pos hpw, if_neg t1, if_neg t2, if_neg t3])
              rw [HE.out] at HF1 st1 st2
              have HPW := Lib.hid hpw
              clear HE hpw
              go_wp2_with fail
              refine (rpow_any si _ (by omega) (by omega)).mono ?_
              rintro e w1 ⟨rfl, rfl⟩
              rw [HPW.out]
              go_wp2_with fail
              have hsi0 : (si == 0) = false := by simp; omega
              have hsi1 : si ≠ 0 := by omega
              go_loop [9] (fun tt => ∃ (z : Int) (ff j : Nat), ff + j = 32 ∧ tt = .int .i64 z ∧ 1 ≤ z ∧ z ≤ 65536 * (j + 1) ∧ Hid (z = p * (j + 1)) ∧ Hid (n = bytesV si p ff z)) (fun tt => (65536 * 40 - intOf tt).toNat)
              case atStart => exact ⟨p, 32, 0, rfl, rfl, by omega, by omega, Lib.hid (by simp), Lib.hid HBK.out.symm⟩
              case round =>
                obtain ⟨z, ff, j, hff, rfl, n1, n2, hzz, hb⟩ := hrel
                by_cases hcc : z / 8 < z % si
                · cases ff with
                  | zero =>
                    exfalso
                    have h32 : p * 32 ≤ z := by
                      rw [hzz.out]
                      exact Int.mul_le_mul_of_nonneg_left (by omega) (by omega)
                    have hmm : z % si < si := Int.emod_lt_of_pos z (by omega)
                    omega
                  | succ ff =>
                    have HB : Hid (n = bytesV si p ff (z + p)) := Lib.hid (by rw [hb.out]; show (if z / 8 < z % si then _ else _) = _; rw [if_pos hcc])
                    have HN : Hid (z + p = p * (((j + 1 : Nat) : Int) + 1)) := Lib.hid (by rw [hzz.out, Int.natCast_add, Int.mul_add, Int.mul_add, Int.mul_add]; simp)
                    go_wp2
                    go_round
                    case rel => exact ⟨z + p, ff, j + 1, by omega, rfl, by omega, by omega, HN, HB⟩
                    case measure => simp [intOf]; omega
                · obtain rfl : n = z := by
                    rw [hb.out]
                    cases ff with
                    | zero => rfl
                    | succ ff => show (if z / 8 < z % si then _ else _) = _; rw [if_neg hcc]
                  clear hb hzz n1 n2
                  have hnp : 0 ≤ n / p := Int.ediv_nonneg (by omega) (by omega)
                  have hns : 0 ≤ n / si := Int.ediv_nonneg (by omega) (by omega)
                  have hnp2 : n / p ≤ n := Int.ediv_le_self _ (by omega)
                  obtain ⟨g, cap, rfl, hbg, hgl, hnc, hcm⟩ := own_form HG.out.own
                  have hcm' : cap ≤ 9223372036854775807 := by unfold maxLen at hcm; omega
                  clear hcm
                  have hsz := HG.out.ext.size
                  cases r with
                  | nil =>
                    obtain rfl : k = 0 := by simpa using HG.out.len.symm
                    have HF : Hid (gather p m (m / 8).toNat [] 8 8 = gather p m f [⟨si, n / p, 0, 0⟩] yi (si + yi)) := HF1
                    clear HF1
                    go_wp2
                    go_quiet (fail)
                    go_wp2_with (first | (at_builtin; refine wpList_append_off w.heap.size _ rfl (.tmp 105) (.tmp 111) 23 rfl 33 i0 _ 4 32 Tryd.underlying23 hi hz0 hz1 hz2 rfl (by decide) _ _ _ (by rfl) (by exact owns_later HG.out.own (Ext.below (by repeat (first | exact Ext.refl _ | refine Ext.drew ?_ | refine Ext.drewN ?_ _ | refine Ext.alloc ?_ _ _)))) (.slice (some ⟨wr.heap.size, 0, none⟩) 1 1) 1 [.int .i64 si, .int .i64 (n / p), .int .i64 0, .int .u32 0] (by rfl) (by exact src_new _ [.int .i64 si, .int .i64 (n / p), .int .i64 0, .int .u32 0] _ rfl) (by intro u hu; simp at hu; rcases hu with rfl | rfl | rfl | rfl <;> rfl) (by unfold maxLen; omega) (by omega) (by simp; omega) ?_) | fail)
                    intro v' w3 hown' hoff
                    have hx3 : Ext w w3 := (HG.out.ext.trans (by repeat (first | exact Ext.refl _ | refine Ext.drew ?_ | refine Ext.drewN ?_ _ | refine Ext.alloc ?_ _ _))).ofOff hoff (Nat.le_refl _)
                    have HN := Lib.hid (grel_new HG.out.len (by first | exact hown' | (rw [List.reverse_cons]; exact hown')) hx3)
                    clear hown' hoff hx3
                    go_wp2
                    go_roundw
                    case rel => exact ⟨_, 0 + 1, f, yi, si + yi, rfl, rfl, by omega, by omega, by omega, by omega, by omega, by omega, .inl (by omega), HN, HA, HF⟩
                    case measure => simp [intOf]; omega
                  | cons x r =>
                    have hx8 := HOK.out x (List.mem_cons_self)
                    obtain ⟨x1, x2, x3, x4, x5, -, -⟩ := hx8
                    obtain ⟨c0, c1⟩ := last_cells HG.out.own HG.out.len
                    have hk1 : 1 ≤ k := by have := HG.out.len; simp at this; omega
                    have hd1 : decide (0 < (k : Int)) = true := decide_eq_true (by omega)
                    have hd2 : decide (0 < k) = true := decide_eq_true (by omega)
                    have hxp : x.b * p ≤ 33 * 65536 := Int.mul_le_mul x4 p2 (by omega) (by omega)
                    have hq1 : 0 ≤ x.b * p / x.a := Int.ediv_nonneg (by omega) (by omega)
                    have fz := fun j => HG.out.own.frozenAt (g := g) j
                    cases hE1 : (x.b == n / p)
                    · have HF : Hid (gather p m (m / 8).toNat [] 8 8 = gather p m f (⟨si, n / p, 0, 0⟩ :: x :: r) yi (si + yi)) := Lib.hid (by rw [HF1.out, addC_new (by unfold sameB; rw [hE1]; rfl)])
                      have HA2 := Lib.hid (show ∀ z ∈ (⟨si, n / p, 0, 0⟩ :: x :: r : List Cl), okC p m z by have := HA.out; rw [addC_new (by unfold sameB; rw [hE1]; rfl)] at this; exact this)
                      clear HF1 HA
                      have HA := HA2
                      clear HA2
                      obtain ⟨xa, xb, xc, xd⟩ := x
                      dsimp only at *
                      go_wp2
                      go_quiet (fail)
                      go_wp2_with (first | (at_builtin; refine wpList_append_off w.heap.size _ rfl (.tmp 105) (.tmp 111) 23 rfl 33 i0 _ 4 32 Tryd.underlying23 hi hz0 hz1 hz2 rfl (by decide) _ _ _ (by rfl) (by exact owns_later HG.out.own (Ext.below (by repeat (first | exact Ext.refl _ | refine Ext.drew ?_ | refine Ext.drewN ?_ _ | refine Ext.alloc ?_ _ _)))) (.slice (some ⟨wr.heap.size, 0, none⟩) 1 1) 1 [.int .i64 si, .int .i64 (n / p), .int .i64 0, .int .u32 0] (by rfl) (by exact src_new _ [.int .i64 si, .int .i64 (n / p), .int .i64 0, .int .u32 0] _ rfl) (by intro u hu; simp at hu; rcases hu with rfl | rfl | rfl | rfl <;> rfl) (by unfold maxLen; omega) (by omega) (by simp; omega) ?_) | fail)
                      intro v' w3 hown' hoff
                      have hx3 : Ext w w3 := (HG.out.ext.trans (by repeat (first | exact Ext.refl _ | refine Ext.drew ?_ | refine Ext.drewN ?_ _ | refine Ext.alloc ?_ _ _))).ofOff hoff (Nat.le_refl _)
                      have HN := Lib.hid (grel_new HG.out.len (by first | exact hown' | (rw [List.reverse_cons]; exact hown')) hx3)
                      clear hown' hoff hx3
                      go_wp2
                      go_roundw
                      case rel => exact ⟨_, k + 1, f, yi, si + yi, rfl, rfl, by omega, by omega, by omega, by omega, by omega, by omega, .inl (by omega), HN, HA, HF⟩
                      case measure => simp [intOf]; omega
                    · have hxn : x.b * p = n := by
                        rw [beq_iff_eq.1 hE1, ← HNK.out, Int.mul_ediv_cancel_left _ (by omega), Int.mul_comm]
                      have hna : 0 ≤ n / x.a := Int.ediv_nonneg (by omega) (by omega)
                      rw [hxn] at hxp x5 hq1
                      have HXN := Lib.hid hxn
                      clear hxn
                      cases hE2 : (n / x.a == n / si)
                      · have HF : Hid (gather p m (m / 8).toNat [] 8 8 = gather p m f (⟨si, n / p, 0, 0⟩ :: x :: r) yi (si + yi)) := Lib.hid (by rw [HF1.out, addC_new (by unfold sameB; rw [hE1, HXN.out, hE2]; rfl)])
                        have HA2 := Lib.hid (show ∀ z ∈ (⟨si, n / p, 0, 0⟩ :: x :: r : List Cl), okC p m z by have := HA.out; rw [addC_new (by unfold sameB; rw [hE1, HXN.out, hE2]; rfl)] at this; exact this)
                        clear HF1 HA
                        have HA := HA2
                        clear HA2
                        obtain ⟨xa, xb, xc, xd⟩ := x
                        dsimp only at *
                        go_wp2
                        go_quiet (fail)
                        go_wp2_with (first | (at_builtin; refine wpList_append_off w.heap.size _ rfl (.tmp 105) (.tmp 111) 23 rfl 33 i0 _ 4 32 Tryd.underlying23 hi hz0 hz1 hz2 rfl (by decide) _ _ _ (by rfl) (by exact owns_later HG.out.own (Ext.below (by repeat (first | exact Ext.refl _ | refine Ext.drew ?_ | refine Ext.drewN ?_ _ | refine Ext.alloc ?_ _ _)))) (.slice (some ⟨wr.heap.size, 0, none⟩) 1 1) 1 [.int .i64 si, .int .i64 (n / p), .int .i64 0, .int .u32 0] (by rfl) (by exact src_new _ [.int .i64 si, .int .i64 (n / p), .int .i64 0, .int .u32 0] _ rfl) (by intro u hu; simp at hu; rcases hu with rfl | rfl | rfl | rfl <;> rfl) (by unfold maxLen; omega) (by omega) (by simp; omega) ?_) | fail)
                        intro v' w3 hown' hoff
                        have hx3 : Ext w w3 := (HG.out.ext.trans (by repeat (first | exact Ext.refl _ | refine Ext.drew ?_ | refine Ext.drewN ?_ _ | refine Ext.alloc ?_ _ _))).ofOff hoff (Nat.le_refl _)
                        have HN := Lib.hid (grel_new HG.out.len (by first | exact hown' | (rw [List.reverse_cons]; exact hown')) hx3)
                        clear hown' hoff hx3
                        go_wp2
                        go_roundw
                        case rel => exact ⟨_, k + 1, f, yi, si + yi, rfl, rfl, by omega, by omega, by omega, by omega, by omega, by omega, .inl (by omega), HN, HA, HF⟩
                        case measure => simp [intOf]; omega
                      · have HF : Hid (gather p m (m / 8).toNat [] 8 8 = gather p m f (⟨si, x.b, x.c, x.d⟩ :: r) yi (si + yi)) := Lib.hid (by rw [HF1.out, addC_len_same (by unfold sameB; rw [hE1, HXN.out, hE2]; rfl)])
                        have HA2 := Lib.hid (show ∀ z ∈ (⟨si, x.b, x.c, x.d⟩ :: r : List Cl), okC p m z by have := HA.out; rw [addC_len_same (by unfold sameB; rw [hE1, HXN.out, hE2]; rfl)] at this; exact this)
                        clear HF1 HA
                        have HO := Lib.hid (last_set (s := si) HG.out.own HG.out.len)
                        have HX := Lib.hid (HG.out.ext.setCell (p := ⟨g, k * 4, none⟩) hbg (.int .i64 si))
                        have HL : Hid ((⟨si, x.b, x.c, x.d⟩ :: r : List Cl).length = k) := Lib.hid (by have := HG.out.len; simpa using this)
                        clear HG
                        obtain ⟨xa, xb, xc, xd⟩ := x
                        dsimp only at *
                        go_wp2
                        go_quiet (fail)
                        go_wp2
                        go_roundw
                        case rel => exact ⟨_, k, f, yi, si + yi, rfl, rfl, by omega, by omega, by omega, by omega, by omega, by omega, .inl hk1, Lib.hid ⟨HL.out, by first | exact HO.out | exact owns_later HO.out ((Ext.refl _).drewN _).below, by first | exact HX.out | exact HX.out.drewN _⟩, HA2, HF⟩
                        case measure => simp [intOf]; omega
    · have HB : Hid (r.reverse = bodyL p m) := Lib.hid (by unfold bodyL; rw [HF0.out.trans (gather_end hc)])
      have HK : Hid ((bodyL p m).length = k) := Lib.hid (by rw [← HB.out, List.length_reverse]; exact HG.out.len)
      have HO : Hid (∀ x ∈ bodyL p m, okC p m x) := Lib.hid (by rw [← HB.out]; intro x hx; exact HA0.out x (List.mem_reverse.1 hx))
      obtain ⟨g, cap, rfl, hbg, hgl, hnc, hcm⟩ := own_form HG.out.own
      have hcm' : cap ≤ 9223372036854775807 := by unfold maxLen at hcm; omega
      clear hcm
      have hk1 : 1 ≤ k := by omega
      have hsz := HG.out.ext.size
      have HW := Lib.hid HG.out.own
      rw [HB.out] at HW
      have HE := Lib.hid HG.out.ext
      have hc1 : cap ≠ 1 := by omega
      clear HF0 HA0 HG HB hk8
      generalize hBB : bodyL p m = B at *
      have HBB := Lib.hid hBB
      clear hBB
      go_wp2
      go_loopw [11] (fun i wx => ∃ t : Nat, t ≤ k ∧ i = .int .i64 ((t : Int) + 1) ∧ Hid (wx.ownsRow w.heap.size 33 4 (.slice (some ⟨g, 0, none⟩) (k + 1) cap) (k + 1) (cls (doneTo p B t))) ∧ Hid (Ext w wx)) (fun i _ => k + 1 - (intOf i).toNat)
      case atStart => exact ⟨0, Nat.zero_le _, by simp, Lib.hid (by simpa [doneTo] using HW.out), HE⟩
      case round =>
        obtain ⟨t, ht, rfl, HT, HX⟩ := hrel
        by_cases htk : t < k
        · have htB : t < B.length := by rw [HK.out]; exact htk
          have htD : t + 1 < (doneTo p B t).length := by rw [done_len]; omega
          obtain ⟨q0, q1, q2, q3⟩ := cls_at (doneTo p B t) (t + 1) htD
          have hget := done_get p B t htB
          rw [hget] at q0 q1 q2 q3
          have hlt4 : (t + 1) * 4 + 3 < (k + 1) * 4 := by omega
          have c0 := (HT.out.cellAt ((t + 1) * 4) (by omega)).trans q0
          have c1 := (HT.out.cellAt ((t + 1) * 4 + 1) (by omega)).trans q1
          have c2 := (HT.out.cellAt ((t + 1) * 4 + 2) (by omega)).trans q2
          have c3 := (HT.out.cellAt ((t + 1) * 4 + 3) hlt4).trans q3
          have fz := fun j => HT.out.frozenAt (g := g) j
          have hgw := (owns_lt HT.out g rfl).2
          obtain ⟨x1, x2, x3, x4, x5, -, -⟩ := HO.out B[t] (List.getElem_mem htB)
          have HN := Lib.hid (done_next p B t htB)
          have HA := Lib.hid (own_three HT.out htD hget)
          have HA2 := Lib.hid (own_two HT.out htD hget)
          have HFC := Lib.hid (show finC p B[t] = (let a := if B[t].a < B[t].b * p / (B[t].b * p / B[t].a) / 128 * 128 then B[t].b * p / (B[t].b * p / B[t].a) / 128 * 128 else B[t].a; ⟨a, B[t].b, B[t].b * p / a, magicV a⟩ : Cl) from rfl)
          generalize B[t] = x at *
          obtain ⟨xa, xb, xc, xd⟩ := x
          dsimp only at *
          have hn : xb * p ≤ 33 * 65536 := Int.mul_le_mul x4 p2 (by omega) (by omega)
          have hn0 : 1 ≤ xb * p := by omega
          have q1 : 1 ≤ xb * p / xa := by
            have := Int.ediv_le_ediv (show 0 < xa by omega) x5
            rwa [Int.ediv_self (by omega)] at this
          have q2 : xb * p / xa ≤ xb * p := Int.ediv_le_self _ (by omega)
          have u0 : 0 ≤ xb * p / (xb * p / xa) := Int.ediv_nonneg (by omega) (by omega)
          have u1 : xb * p / (xb * p / xa) ≤ xb * p := Int.ediv_le_self _ (by omega)
          clear q0 q3 hget hlt4
          by_cases hw : xa < xb * p / (xb * p / xa) / 128 * 128
          · rw [if_pos hw] at HFC
            have v0 : 0 ≤ xb * p / (xb * p / (xb * p / xa) / 128 * 128) := Int.ediv_nonneg (by omega) (by omega)
            have v1 : xb * p / (xb * p / (xb * p / xa) / 128 * 128) ≤ xb * p := Int.ediv_le_self _ (by omega)
            have hmg := magic_range (d := xb * p / (xb * p / xa) / 128 * 128) (by omega)
            go_wp2_with (go_at_call 54; refine (rmagic_any _ _ (by omega) (by omega)).mono ?_; rintro e w5 ⟨rfl, rfl⟩)
            go_roundw
            case rel => exact ⟨t + 1, htk, by go_num, Lib.hid (by rw [← HN.out, HFC.out]; exact HA.out _ _ _), Lib.hid (((HX.out.setCell hbg _).setCell hbg _).setCell hbg _)⟩
            case measure => simp [intOf]; omega
          · rw [if_neg hw] at HFC
            have v0 : 0 ≤ xb * p / xa := Int.ediv_nonneg (by omega) (by omega)
            have v1 : xb * p / xa ≤ xb * p := Int.ediv_le_self _ (by omega)
            have hmg := magic_range (d := xa) (by omega)
            go_wp2_with (go_at_call 54; refine (rmagic_any _ _ (by omega) (by omega)).mono ?_; rintro e w5 ⟨rfl, rfl⟩)
            go_roundw
            case rel => exact ⟨t + 1, htk, by go_num, Lib.hid (by rw [← HN.out, HFC.out]; exact HA2.out _ _), Lib.hid ((HX.out.setCell hbg _).setCell hbg _)⟩
            case measure => simp [intOf]; omega
        · obtain rfl : t = k := by omega
          go_wp2
          go_ret2
          refine ⟨_, rfl, ?_, HX.out⟩
          have h1 := HT.out
          rw [← HK.out, done_all] at h1
          rw [← HK.out]
          simpa [makeL, HBB.out] using h1

end Go.Proofs.YticaamdghjfifaaDoor
