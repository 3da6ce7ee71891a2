/- The contract of class.Make. -/
import Derived.Test.YticaamdghjfifaaDoorMakeA
namespace Go.Proofs.YticaamdghjfifaaDoor
open Go.RowKit
set_option linter.unusedVariables false

theorem infoClass : (Tryd.prog.info? 33).map (fun i => (i.zero, i.size, i.bytes)) = some (some (.agg #[.int .i64 0, .int .i64 0, .int .i64 0, .int .u32 0]), 4, 32) := by kernel_rfl

theorem src_new (W : World) (vs : List Value) (t : TypeId) {m size c : Nat} (hl : vs.length = m * size) : Src (W.alloc (.cells vs.toArray t)) size (.slice (some ⟨W.heap.size, 0, none⟩) m c) m vs := by
  refine .inr ⟨_, _, rfl, hl, fun j u hu => ?_⟩
  rw [Addr.add_lit, Nat.zero_add, cell_new]
  simpa using hu

/-- the memory while classes are gathered. -/
structure GRel (w wr : World) (v : Value) (r : List Cl) (k : Nat) : Prop where
  len : r.length = k
  own : wr.ownsRow w.heap.size 33 4 v (k + 1) (cls (zeroC :: r.reverse))
  ext : Ext w wr

theorem own_form {w : World} {B n : Nat} {e : TypeId} {size : Nat} {v : Value} {xs : List Value} (h : w.ownsRow B e size v (n + 1) xs) : ∃ g cap, v = .slice (some ⟨g, 0, none⟩) (n + 1) cap ∧ B ≤ g ∧ g < w.heap.size ∧ n + 1 ≤ cap ∧ cap ≤ maxLen := by
  rcases h.2 with ⟨-, h0⟩ | ⟨g, cap, cur, rfl, hb, hg, hnc, hcm, -⟩
  · omega
  · exact ⟨g, cap, rfl, hb, (Array.getElem?_eq_some_iff.1 hg).1, hnc, hcm⟩

theorem Ext.ofOff {W w w' : World} (h : Ext W w) {B : Nat} (k : Off B w w') (hB : W.heap.size ≤ B) : Ext W w' :=
  ⟨h.below.trans (k.below.mono hB), fun x => (k.frozen x).trans (h.frozen x)⟩
theorem Ext.drewN {W w : World} (h : Ext W w) (n : Nat) : Ext W (w.drewN n) := ⟨⟨h.below.os, h.below.tape, h.below.output, h.below.size, h.below.block⟩, h.frozen⟩

theorem last_cells {w : World} {B g cap k : Nat} {x : Cl} {r : List Cl} (h : w.ownsRow B 33 4 (.slice (some ⟨g, 0, none⟩) (k + 1) cap) (k + 1) (cls (zeroC :: (x :: r).reverse))) (hk : (x :: r).length = k) :
    w.cell? ⟨g, k * 4, none⟩ = some (.int .i64 x.a) ∧ w.cell? ⟨g, k * 4 + 1, none⟩ = some (.int .i64 x.b) := by
  have hk' : k = r.length + 1 := by simpa using hk.symm
  subst hk'
  have hl : r.length + 1 < (zeroC :: (x :: r).reverse).length := by simp
  obtain ⟨c0, c1, -, -⟩ := cls_at (zeroC :: (x :: r).reverse) (r.length + 1) hl
  have e : (zeroC :: (x :: r).reverse)[r.length + 1] = x := by
    simp
  rw [e] at c0 c1
  exact ⟨(h.cellAt _ (by omega)).trans c0, (h.cellAt _ (by omega)).trans c1⟩

theorem last_set {w : World} {B g cap k : Nat} {x : Cl} {r : List Cl} (h : w.ownsRow B 33 4 (.slice (some ⟨g, 0, none⟩) (k + 1) cap) (k + 1) (cls (zeroC :: (x :: r).reverse))) (hk : (x :: r).length = k) (s : Int) :
    (w.setCell ⟨g, k * 4, none⟩ (.int .i64 s)).ownsRow B 33 4 (.slice (some ⟨g, 0, none⟩) (k + 1) cap) (k + 1) (cls (zeroC :: ((⟨s, x.b, x.c, x.d⟩ : Cl) :: r).reverse)) := by
  have hk' : k = r.length + 1 := by simpa using hk.symm
  subst hk'
  have hl : r.length + 1 < (zeroC :: (x :: r).reverse).length := by simp
  have h1 := (h.stored ((r.length + 1) * 4) (.int .i64 s)).1
  rw [cls_setA _ _ hl] at h1
  have e : (zeroC :: (x :: r).reverse)[r.length + 1] = x := by simp
  rw [e] at h1
  have e2 : (zeroC :: (x :: r).reverse).set (r.length + 1) ⟨s, x.b, x.c, x.d⟩ = zeroC :: ((⟨s, x.b, x.c, x.d⟩ : Cl) :: r).reverse := by
    rw [List.set_cons_succ, List.reverse_cons, List.reverse_cons, List.set_append_right _ _ (by simp)]
    simp
  rw [e2] at h1
  exact h1

theorem grel_new {w w1 : World} {v : Value} {r : List Cl} {k : Nat} {a b : Int} (hl : r.length = k) (h : w1.ownsRow w.heap.size 33 4 v (k + 1 + 1) (cls (zeroC :: r.reverse) ++ [.int .i64 a, .int .i64 b, .int .i64 0, .int .u32 0])) (hx : Ext w w1) : GRel w w1 v (⟨a, b, 0, 0⟩ :: r) (k + 1) where
  len := by simp [hl]
  own := by
    have e : cls (zeroC :: r.reverse) ++ [.int .i64 a, .int .i64 b, .int .i64 0, .int .u32 0] = cls (zeroC :: ((⟨a, b, 0, 0⟩ : Cl) :: r).reverse) := by
      rw [List.reverse_cons, ← List.cons_append, ← cls_snoc]; rfl
    rw [← e]; exact h
  ext := hx

/-! ### slots and magics are counted, class by class -/
def doneTo (p : Int) (B : List Cl) (t : Nat) : List Cl := zeroC :: ((B.take t).map (finC p) ++ B.drop t)

theorem done_len (p : Int) (B : List Cl) (t : Nat) : (doneTo p B t).length = B.length + 1 := by
  unfold doneTo
  simp
  omega

theorem done_get (p : Int) (B : List Cl) (t : Nat) (h : t < B.length) : (doneTo p B t)[t + 1]'(by rw [done_len]; omega) = B[t] := by
  unfold doneTo
  rw [List.getElem_cons_succ, List.getElem_append_right (by simp; omega)]
  simp [show min t B.length = t by omega]

theorem done_next (p : Int) (B : List Cl) (t : Nat) (h : t < B.length) : (doneTo p B t).set (t + 1) (finC p B[t]) = doneTo p B (t + 1) := by
  unfold doneTo
  rw [List.set_cons_succ, List.set_append_right _ _ (by simp; omega)]
  have e : t - ((B.take t).map (finC p)).length = 0 := by simp; omega
  rw [e, List.drop_eq_getElem_cons h, List.set_cons_zero, List.take_succ_eq_append_getElem h, List.map_append]
  simp only [List.map_cons, List.map_nil, List.append_assoc, List.singleton_append]

theorem done_all (p : Int) (B : List Cl) : doneTo p B B.length = zeroC :: B.map (finC p) := by
  unfold doneTo
  simp

theorem own_three {w : World} {B g n cap i : Nat} {L : List Cl} {x : Cl} (h : w.ownsRow B 33 4 (.slice (some ⟨g, 0, none⟩) n cap) n (cls L)) (hi : i < L.length) (hx : L[i] = x) (a c d : Int) :
    (((w.setCell ⟨g, i * 4, none⟩ (.int .i64 a)).setCell ⟨g, i * 4 + 2, none⟩ (.int .i64 c)).setCell ⟨g, i * 4 + 3, none⟩ (.int .u32 d)).ownsRow B 33 4 (.slice (some ⟨g, 0, none⟩) n cap) n (cls (L.set i ⟨a, x.b, c, d⟩)) := by
  have h1 := (h.stored (i * 4) (.int .i64 a)).1
  rw [cls_setA _ _ hi, hx] at h1
  have h2 := (h1.stored (i * 4 + 2) (.int .i64 c)).1
  rw [cls_setC _ _ (by simpa using hi)] at h2
  have h3 := (h2.stored (i * 4 + 3) (.int .u32 d)).1
  rw [cls_setD _ _ (by simpa using hi)] at h3
  simpa using h3

theorem own_two {w : World} {B g n cap i : Nat} {L : List Cl} {x : Cl} (h : w.ownsRow B 33 4 (.slice (some ⟨g, 0, none⟩) n cap) n (cls L)) (hi : i < L.length) (hx : L[i] = x) (c d : Int) :
    ((w.setCell ⟨g, i * 4 + 2, none⟩ (.int .i64 c)).setCell ⟨g, i * 4 + 3, none⟩ (.int .u32 d)).ownsRow B 33 4 (.slice (some ⟨g, 0, none⟩) n cap) n (cls (L.set i ⟨x.a, x.b, c, d⟩)) := by
  have h2 := (h.stored (i * 4 + 2) (.int .i64 c)).1
  rw [cls_setC _ _ hi, hx] at h2
  have h3 := (h2.stored (i * 4 + 3) (.int .u32 d)).1
  rw [cls_setD _ _ (by simpa using hi)] at h3
  simpa using h3

theorem addC_len_same {p s n : Int} {x : Cl} {r : List Cl} (h : sameB p s n x = true) : addC p s n (x :: r) = ⟨s, x.b, x.c, x.d⟩ :: r := by
  show (if sameB p s n x = true then _ else _) = _; rw [if_pos h]
theorem addC_new {p s n : Int} {x : Cl} {r : List Cl} (h : sameB p s n x = false) : addC p s n (x :: r) = ⟨s, n / p, 0, 0⟩ :: x :: r := by
  show (if sameB p s n x = true then _ else _) = _; rw [if_neg (by rw [h]; decide)]

theorem gather_on {p m y s : Int} {f : Nat} {r : List Cl} (h : s ≤ m) : gather p m (f + 1) r y s = gather p m f (addC p s (bytesV s p 32 p) r) (stepV s y) (s + stepV s y) := by
  show (if s ≤ m then _ else _) = _; rw [if_pos h]
theorem gather_end {p m y s : Int} {f : Nat} {r : List Cl} (h : ¬ s ≤ m) : gather p m f r y s = r := by
  cases f with
  | zero => rfl
  | succ f => show (if s ≤ m then _ else _) = _; rw [if_neg h]

set_option maxRecDepth 100000 in
set_option maxHeartbeats 1000000 in
theorem make_yes (p m : Int) (w : World) (hok : makeOk p m = true) (p1 : 1024 ≤ p) (p2 : p ≤ 65536) (m1 : 64 ≤ m) (m2 : m ≤ 4 * p) (hpp : Hid (powB p = true)) (hpm : Hid (powB m = true)) :
    Calls Tryd.prog 27 #[.int .i64 p, .int .i64 m] w fun r w' => ∃ v, r = .returned (.tuple #[v, .int .i64 0]) ∧ w'.ownsRow w.heap.size 33 4 v (makeL p m).length (cls (makeL p m)) ∧ Ext w w' := by
  obtain ⟨i0, hi, hz0, hz1, hz2⟩ := info_parts infoClass
  go_enter Tryd.func27, Tryd.ntmps27
  go_wp2_with fail
  refine (pow_any p _ (by omega) (by omega)).mono ?_
  rintro e w1 ⟨rfl, rfl⟩
  rw [hpp.out]
  go_wp2_with fail
  refine (pow_any m _ (by omega) (by omega)).mono ?_
  rintro e w1 ⟨rfl, rfl⟩
  rw [hpm.out]
  go_wp2_with fail
  go_loopw [6, 7, 8] (fun v y s wr => ∃ (r : List Cl) (k f : Nat) (yi si : Int), y = .int .i64 yi ∧ s = .int .i64 si ∧ 8 ≤ yi ∧ yi ≤ 65536 ∧ 8 ≤ si ∧ si ≤ m + 65536 ∧ m < si + 8 * f ∧ k * 8 ≤ si ∧ (1 ≤ k ∨ si = 8) ∧ Hid (GRel w wr v r k) ∧ Hid (∀ x ∈ r, okC p m x) ∧ Hid (gather p m (m / 8).toNat [] 8 8 = gather p m f r yi si)) (fun _ _ s _ => (m + 1 - intOf s).toNat)
  case atStart => exact ⟨[], 0, (m / 8).toNat, 8, 8, rfl, rfl, by omega, by omega, by omega, by omega, by omega, by omega, .inr rfl, Lib.hid ⟨rfl, ⟨rfl, .inr ⟨w.heap.size, 1, _, rfl, Nat.le_refl _, heap_alloc_new w _, by omega, by unfold maxLen; omega, by rfl, by rfl⟩⟩, (Ext.refl _).alloc _ _⟩, Lib.hid (by simp), Lib.hid rfl⟩
  case round =>
    obtain ⟨r, k, f, yi, si, rfl, rfl, y1, y2, s1, s2, hf, hks, hk8, HG, HA0, HF0⟩ := hrel
    by_cases hc : si ≤ m
    · obtain ⟨kk, k1, k2, hbk, hsn⟩ := bytes_is si p (by omega) (by omega) (by omega) 32 0 rfl
      rw [show p * (((0 : Nat) : Int) + 1) = p by simp] at hbk
      have st1 := step_lo (s := si) y1 s1
      have st2 := step_hi (s := si) y2 (by omega) s1
      cases f with
      | zero => omega
      | succ f =>
      have HF1 := Lib.hid (HF0.out.trans (gather_on hc))
      have HS := Lib.hid (step_any si yi)
      have HB := Lib.hid (bytes_any si p)
      have HA := Lib.hid (add_ok (n := p * kk) HA0.out (by omega) s1 hc kk k1 k2 rfl hsn)
      rw [hbk] at HF1
      have hnb : p * kk ≤ 65536 * 33 := Int.mul_le_mul p2 k2 (by omega) (by omega)
      have HBK := Lib.hid hbk
      have HOK := Lib.hid HA0.out
      clear HF0 HA0 hbk
      generalize hn : p * kk = n at *
      have HNK := Lib.hid hn
      clear hn
      go_wp2_with fail
      refine (HS.out _ (by omega) (by omega)).mono ?_
      rintro e w1 ⟨rfl, rfl⟩
      go_wp2_with fail
      refine (HB.out _ (by omega) (by omega) (by omega) (by omega)).mono ?_
      rintro e w1 ⟨rfl, rfl⟩
      rw [HBK.out]
      generalize stepV si yi = y' at *
      have hnp : 0 ≤ n / p := Int.ediv_nonneg (by omega) (by omega)
      have hns : 0 ≤ n / si := Int.ediv_nonneg (by omega) (by omega)
      have hnp2 : n / p ≤ n := Int.ediv_le_self _ (by omega)
      obtain ⟨g, cap, rfl, hbg, hgl, hnc, hcm⟩ := own_form HG.out.own
      have hcm' : cap ≤ 9223372036854775807 := by unfold maxLen at hcm; omega
      clear hcm
      have hsz := HG.out.ext.size
      cases r with
      | nil =>
        obtain rfl : k = 0 := by simpa using HG.out.len.symm
        have HF : Hid (gather p m (m / 8).toNat [] 8 8 = gather p m f [⟨si, n / p, 0, 0⟩] y' (si + y')) := HF1
        clear HF1
        go_wp2
        go_quiet (fail)
        go_wp2_with (first | (at_builtin; refine wpList_append_off w.heap.size _ rfl (.tmp 96) (.tmp 102) 23 rfl 33 i0 _ 4 32 Tryd.underlying23 hi hz0 hz1 hz2 rfl (by decide) _ _ _ (by rfl) (by exact owns_later HG.out.own (Ext.below (by repeat (first | exact Ext.refl _ | refine Ext.drew ?_ | refine Ext.drewN ?_ _ | refine Ext.alloc ?_ _ _)))) (.slice (some ⟨wr.heap.size, 0, none⟩) 1 1) 1 [.int .i64 si, .int .i64 (n / p), .int .i64 0, .int .u32 0] (by rfl) (by exact src_new _ [.int .i64 si, .int .i64 (n / p), .int .i64 0, .int .u32 0] _ rfl) (by intro u hu; simp at hu; rcases hu with rfl | rfl | rfl | rfl <;> rfl) (by unfold maxLen; omega) (by omega) (by simp; omega) ?_) | fail)
        intro v' w3 hown' hoff
        have hx3 : Ext w w3 := (HG.out.ext.trans (by repeat (first | exact Ext.refl _ | refine Ext.drew ?_ | refine Ext.drewN ?_ _ | refine Ext.alloc ?_ _ _))).ofOff hoff (Nat.le_refl _)
        have HN := Lib.hid (grel_new HG.out.len (by first | exact hown' | (rw [List.reverse_cons]; exact hown')) hx3)
        clear hown' hoff hx3
        go_wp2
        go_roundw
        case rel => exact ⟨_, 0 + 1, f, y', si + y', rfl, rfl, by omega, by omega, by omega, by omega, by omega, by omega, .inl (by omega), HN, HA, HF⟩
        case measure => simp [intOf]; omega
      | cons x r =>
        have hx8 := HOK.out x (List.mem_cons_self)
        obtain ⟨x1, x2, x3, x4, x5, -, -⟩ := hx8
        obtain ⟨c0, c1⟩ := last_cells HG.out.own HG.out.len
        have hk1 : 1 ≤ k := by have := HG.out.len; simp at this; omega
        have hd1 : decide ((1 : Int) < ((k + 1 : Nat) : Int)) = true := decide_eq_true (by omega)
        have hd2 : decide ((1 : Int) < (k : Int) + 1) = true := decide_eq_true (by omega)
        have hxp : x.b * p ≤ 33 * 65536 := Int.mul_le_mul x4 p2 (by omega) (by omega)
        have hq1 : 0 ≤ x.b * p / x.a := Int.ediv_nonneg (by omega) (by omega)
        have fz := fun j => HG.out.own.frozenAt (g := g) j
        cases hE1 : (x.b == n / p)
        · have HF : Hid (gather p m (m / 8).toNat [] 8 8 = gather p m f (⟨si, n / p, 0, 0⟩ :: x :: r) y' (si + y')) := Lib.hid (by rw [HF1.out, addC_new (by unfold sameB; rw [hE1]; rfl)])
          have HA2 := Lib.hid (show ∀ z ∈ (⟨si, n / p, 0, 0⟩ :: x :: r : List Cl), okC p m z by have := HA.out; rw [addC_new (by unfold sameB; rw [hE1]; rfl)] at this; exact this)
          clear HF1 HA
          have HA := HA2
          clear HA2
          obtain ⟨xa, xb, xc, xd⟩ := x
          dsimp only at *
          go_wp2
          go_quiet (fail)
          go_wp2_with (first | (at_builtin; refine wpList_append_off w.heap.size _ rfl (.tmp 96) (.tmp 102) 23 rfl 33 i0 _ 4 32 Tryd.underlying23 hi hz0 hz1 hz2 rfl (by decide) _ _ _ (by rfl) (by exact owns_later HG.out.own (Ext.below (by repeat (first | exact Ext.refl _ | refine Ext.drew ?_ | refine Ext.drewN ?_ _ | refine Ext.alloc ?_ _ _)))) (.slice (some ⟨wr.heap.size, 0, none⟩) 1 1) 1 [.int .i64 si, .int .i64 (n / p), .int .i64 0, .int .u32 0] (by rfl) (by exact src_new _ [.int .i64 si, .int .i64 (n / p), .int .i64 0, .int .u32 0] _ rfl) (by intro u hu; simp at hu; rcases hu with rfl | rfl | rfl | rfl <;> rfl) (by unfold maxLen; omega) (by omega) (by simp; omega) ?_) | fail)
          intro v' w3 hown' hoff
          have hx3 : Ext w w3 := (HG.out.ext.trans (by repeat (first | exact Ext.refl _ | refine Ext.drew ?_ | refine Ext.drewN ?_ _ | refine Ext.alloc ?_ _ _))).ofOff hoff (Nat.le_refl _)
          have HN := Lib.hid (grel_new HG.out.len (by first | exact hown' | (rw [List.reverse_cons]; exact hown')) hx3)
          clear hown' hoff hx3
          go_wp2
          go_roundw
          case rel => exact ⟨_, k + 1, f, y', si + y', rfl, rfl, by omega, by omega, by omega, by omega, by omega, by omega, .inl (by omega), HN, HA, HF⟩
          case measure => simp [intOf]; omega
        · cases hE2 : (x.b * p / x.a == n / si)
          · have HF : Hid (gather p m (m / 8).toNat [] 8 8 = gather p m f (⟨si, n / p, 0, 0⟩ :: x :: r) y' (si + y')) := Lib.hid (by rw [HF1.out, addC_new (by unfold sameB; rw [hE1, hE2]; rfl)])
            have HA2 := Lib.hid (show ∀ z ∈ (⟨si, n / p, 0, 0⟩ :: x :: r : List Cl), okC p m z by have := HA.out; rw [addC_new (by unfold sameB; rw [hE1, hE2]; rfl)] at this; exact this)
            clear HF1 HA
            have HA := HA2
            clear HA2
            obtain ⟨xa, xb, xc, xd⟩ := x
            dsimp only at *
            go_wp2
            go_quiet (fail)
            go_wp2_with (first | (at_builtin; refine wpList_append_off w.heap.size _ rfl (.tmp 96) (.tmp 102) 23 rfl 33 i0 _ 4 32 Tryd.underlying23 hi hz0 hz1 hz2 rfl (by decide) _ _ _ (by rfl) (by exact owns_later HG.out.own (Ext.below (by repeat (first | exact Ext.refl _ | refine Ext.drew ?_ | refine Ext.drewN ?_ _ | refine Ext.alloc ?_ _ _)))) (.slice (some ⟨wr.heap.size, 0, none⟩) 1 1) 1 [.int .i64 si, .int .i64 (n / p), .int .i64 0, .int .u32 0] (by rfl) (by exact src_new _ [.int .i64 si, .int .i64 (n / p), .int .i64 0, .int .u32 0] _ rfl) (by intro u hu; simp at hu; rcases hu with rfl | rfl | rfl | rfl <;> rfl) (by unfold maxLen; omega) (by omega) (by simp; omega) ?_) | fail)
            intro v' w3 hown' hoff
            have hx3 : Ext w w3 := (HG.out.ext.trans (by repeat (first | exact Ext.refl _ | refine Ext.drew ?_ | refine Ext.drewN ?_ _ | refine Ext.alloc ?_ _ _))).ofOff hoff (Nat.le_refl _)
            have HN := Lib.hid (grel_new HG.out.len (by first | exact hown' | (rw [List.reverse_cons]; exact hown')) hx3)
            clear hown' hoff hx3
            go_wp2
            go_roundw
            case rel => exact ⟨_, k + 1, f, y', si + y', rfl, rfl, by omega, by omega, by omega, by omega, by omega, by omega, .inl (by omega), HN, HA, HF⟩
            case measure => simp [intOf]; omega
          · have HF : Hid (gather p m (m / 8).toNat [] 8 8 = gather p m f (⟨si, x.b, x.c, x.d⟩ :: r) y' (si + y')) := Lib.hid (by rw [HF1.out, addC_len_same (by unfold sameB; rw [hE1, hE2]; rfl)])
            have HA2 := Lib.hid (show ∀ z ∈ (⟨si, x.b, x.c, x.d⟩ :: r : List Cl), okC p m z by have := HA.out; rw [addC_len_same (by unfold sameB; rw [hE1, hE2]; rfl)] at this; exact this)
            clear HF1 HA
            have HO := Lib.hid (last_set (s := si) HG.out.own HG.out.len)
            have HX := Lib.hid (HG.out.ext.setCell (p := ⟨g, k * 4, none⟩) hbg (.int .i64 si))
            have HL : Hid ((⟨si, x.b, x.c, x.d⟩ :: r : List Cl).length = k) := Lib.hid (by have := HG.out.len; simpa using this)
            clear HG
            obtain ⟨xa, xb, xc, xd⟩ := x
            dsimp only at *
            go_wp2
            go_quiet (fail)
            go_wp2
            go_roundw
            case rel => exact ⟨_, k, f, y', si + y', rfl, rfl, by omega, by omega, by omega, by omega, by omega, by omega, .inl hk1, Lib.hid ⟨HL.out, by first | exact HO.out | exact owns_later HO.out ((Ext.refl _).drewN _).below, by first | exact HX.out | exact HX.out.drewN _⟩, HA2, HF⟩
            case measure => simp [intOf]; omega
    · have HB : Hid (r.reverse = bodyL p m) := Lib.hid (by unfold bodyL; rw [HF0.out.trans (gather_end hc)])
      have HK : Hid ((bodyL p m).length = k) := Lib.hid (by rw [← HB.out, List.length_reverse]; exact HG.out.len)
      have HO : Hid (∀ x ∈ bodyL p m, okC p m x) := Lib.hid (by rw [← HB.out]; intro x hx; exact HA0.out x (List.mem_reverse.1 hx))
      obtain ⟨g, cap, rfl, hbg, hgl, hnc, hcm⟩ := own_form HG.out.own
      have hcm' : cap ≤ 9223372036854775807 := by unfold maxLen at hcm; omega
      clear hcm
      have hk1 : 1 ≤ k := by omega
      have hsz := HG.out.ext.size
      have HW := Lib.hid HG.out.own
      rw [HB.out] at HW
      have HE := Lib.hid HG.out.ext
      have hc1 : cap ≠ 1 := by omega
      clear HF0 HA0 HG HB hk8
      generalize hBB : bodyL p m = B at *
      have HBB := Lib.hid hBB
      clear hBB
      go_wp2
      go_loopw [107] (fun i wx => ∃ t : Nat, t ≤ k ∧ i = .int .i64 t ∧ Hid (wx.ownsRow w.heap.size 33 4 (.slice (some ⟨g, 0, none⟩) (k + 1) cap) (k + 1) (cls (doneTo p B t))) ∧ Hid (Ext w wx)) (fun i _ => k - (intOf i).toNat)
      case atStart => exact ⟨0, Nat.zero_le _, rfl, Lib.hid (by simpa [doneTo] using HW.out), HE⟩
      case round =>
        obtain ⟨t, ht, rfl, HT, HX⟩ := hrel
        by_cases htk : t < k
        · have htB : t < B.length := by rw [HK.out]; exact htk
          have htD : t + 1 < (doneTo p B t).length := by rw [done_len]; omega
          obtain ⟨q0, q1, q2, q3⟩ := cls_at (doneTo p B t) (t + 1) htD
          have hget := done_get p B t htB
          rw [hget] at q0 q1 q2 q3
          have hlt4 : (t + 1) * 4 + 3 < (k + 1) * 4 := by omega
          have c0 := (HT.out.cellAt ((t + 1) * 4) (by omega)).trans q0
          have c1 := (HT.out.cellAt ((t + 1) * 4 + 1) (by omega)).trans q1
          have c2 := (HT.out.cellAt ((t + 1) * 4 + 2) (by omega)).trans q2
          have c3 := (HT.out.cellAt ((t + 1) * 4 + 3) hlt4).trans q3
          have fz := fun j => HT.out.frozenAt (g := g) j
          have hgw := (owns_lt HT.out g rfl).2
          obtain ⟨x1, x2, x3, x4, x5, -, -⟩ := HO.out B[t] (List.getElem_mem htB)
          have HN := Lib.hid (done_next p B t htB)
          have HA := Lib.hid (own_three HT.out htD hget)
          have HA2 := Lib.hid (own_two HT.out htD hget)
          have HFC := Lib.hid (show finC p B[t] = (let a := if B[t].a < B[t].b * p / (B[t].b * p / B[t].a) / 128 * 128 then B[t].b * p / (B[t].b * p / B[t].a) / 128 * 128 else B[t].a; ⟨a, B[t].b, B[t].b * p / a, magicV a⟩ : Cl) from rfl)
          generalize B[t] = x at *
          obtain ⟨xa, xb, xc, xd⟩ := x
          dsimp only at *
          have hn : xb * p ≤ 33 * 65536 := Int.mul_le_mul x4 p2 (by omega) (by omega)
          have hn0 : 1 ≤ xb * p := by omega
          have q1 : 1 ≤ xb * p / xa := by
            have := Int.ediv_le_ediv (show 0 < xa by omega) x5
            rwa [Int.ediv_self (by omega)] at this
          have q2 : xb * p / xa ≤ xb * p := Int.ediv_le_self _ (by omega)
          have u0 : 0 ≤ xb * p / (xb * p / xa) := Int.ediv_nonneg (by omega) (by omega)
          have u1 : xb * p / (xb * p / xa) ≤ xb * p := Int.ediv_le_self _ (by omega)
          clear q0 q3 hget hlt4
          by_cases hw : xa < xb * p / (xb * p / xa) / 128 * 128
          · rw [if_pos hw] at HFC
            have v0 : 0 ≤ xb * p / (xb * p / (xb * p / xa) / 128 * 128) := Int.ediv_nonneg (by omega) (by omega)
            have v1 : xb * p / (xb * p / (xb * p / xa) / 128 * 128) ≤ xb * p := Int.ediv_le_self _ (by omega)
            have hmg := magic_range (d := xb * p / (xb * p / xa) / 128 * 128) (by omega)
            go_wp2_with (go_at_call 52; refine (magic_any _ _ (by omega) (by omega)).mono ?_; rintro e w5 ⟨rfl, rfl⟩)
            go_roundw
            case rel => exact ⟨t + 1, htk, by go_num, Lib.hid (by rw [← HN.out, HFC.out]; exact HA.out _ _ _), Lib.hid (((HX.out.setCell hbg _).setCell hbg _).setCell hbg _)⟩
            case measure => simp [intOf]; omega
          · rw [if_neg hw] at HFC
            have v0 : 0 ≤ xb * p / xa := Int.ediv_nonneg (by omega) (by omega)
            have v1 : xb * p / xa ≤ xb * p := Int.ediv_le_self _ (by omega)
            have hmg := magic_range (d := xa) (by omega)
            go_wp2_with (go_at_call 52; refine (magic_any _ _ (by omega) (by omega)).mono ?_; rintro e w5 ⟨rfl, rfl⟩)
            go_roundw
            case rel => exact ⟨t + 1, htk, by go_num, Lib.hid (by rw [← HN.out, HFC.out]; exact HA2.out _ _), Lib.hid ((HX.out.setCell hbg _).setCell hbg _)⟩
            case measure => simp [intOf]; omega
        · obtain rfl : t = k := by omega
          go_wp2
          go_ret2
          refine ⟨_, rfl, ?_, HX.out⟩
          have h1 := HT.out
          rw [← HK.out, done_all] at h1
          rw [← HK.out]
          simpa [makeL, HBB.out] using h1

end Go.Proofs.YticaamdghjfifaaDoor
