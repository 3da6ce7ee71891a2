/- The walk of the law ClassMakes. -/
import Derived.Test.YtiocfifgfjkgfaaSame2
import Derived.BigRegion
namespace Go.Proofs.Ytiocfifgfjkgfaa
open Go.RowKit
set_option linter.unusedVariables false

/-- two rows that share no block. -/
def Apart (v v' : Value) : Prop := ∀ g g', v.ownBlock = some g → v'.ownBlock = some g' → g ≠ g'

theorem apart_of {w w' : World} {B B' s s' n n' : Nat} {e e' : TypeId} {v v' : Value} {xs xs' : List Value} (h : w.ownsRow B e s v n xs) (h' : w'.ownsRow B' e' s' v' n' xs') (hB : w.heap.size ≤ B') : Apart v v' := fun g g' hg hg' => by
  have := (owns_lt h g hg).2
  have := (owns_lt h' g' hg').1
  omega

/-- the four lists of the law. -/
structure Four4 (W wr : World) (va vb vt vc : Value) (B : Nat) (na nb nc : Nat) (La Lb Lc : List Cl) : Prop where
  a : wr.ownsRow B 30 4 va na (cls La)
  b : wr.ownsRow B 30 4 vb nb (cls Lb)
  t : wr.ownsRow B 30 4 vt 68 (cls tabC)
  c : wr.ownsRow B 30 4 vc nc (cls Lc)
  ext : Ext W wr

theorem owns_base {w : World} {B B' s n : Nat} {e : TypeId} {v : Value} {xs : List Value} (h : w.ownsRow B e s v n xs) (hB : B' ≤ B) : w.ownsRow B' e s v n xs := by
  refine ⟨h.1, ?_⟩
  rcases h.2 with hn | ⟨g, cap, cur, rfl, hb, rest⟩
  · exact .inl hn
  · exact .inr ⟨g, cap, cur, rfl, Nat.le_trans hB hb, rest⟩

theorem Four4.later {W wr w' : World} {va vb vt vc : Value} {B na nb nc : Nat} {La Lb Lc : List Cl} (h : Four4 W wr va vb vt vc B na nb nc La Lb Lc) (hx : Ext wr w') : Four4 W w' va vb vt vc B na nb nc La Lb Lc :=
  ⟨owns_later h.a hx.below, owns_later h.b hx.below, owns_later h.t hx.below, owns_later h.c hx.below, h.ext.trans hx⟩

theorem four_at {w : World} {B g cap n : Nat} {l : List Cl} (h : w.ownsRow B 30 4 (.slice (some ⟨g, 0, none⟩) n cap) n (cls l)) (hn : n = l.length) {i : Nat} (hi : i < l.length) : ∃ x : Cl, w.cell? ⟨g, i * 4, none⟩ = some (.int .i64 x.a) ∧ w.cell? ⟨g, i * 4 + 1, none⟩ = some (.int .i64 x.b) ∧ w.cell? ⟨g, i * 4 + 2, none⟩ = some (.int .i64 x.c) ∧ w.cell? ⟨g, i * 4 + 3, none⟩ = some (.int .u32 x.d) := by
  subst hn
  obtain ⟨a, b, c, d⟩ := cls_at l i hi
  exact ⟨l[i], (h.cellAt _ (by omega)).trans a, (h.cellAt _ (by omega)).trans b, (h.cellAt _ (by omega)).trans c, (h.cellAt _ (by omega)).trans d⟩

theorem owns_grown {w w' : World} {row : Option Nat} (h : w.grownBy w' row) {B n : Nat} {v : Value} {xs : List Value} (ho : w.ownsRow B 30 4 v n xs) (hne : ∀ b, v.ownBlock = some b → row ≠ some b) : w'.ownsRow B 30 4 v n xs :=
  owns_block ho fun b hb => h.block b (owns_lt ho b hb).2 (fun e => hne b hb e.symm)

theorem ext4 {W w : World} (h : Ext W w) {g o : Nat} (hg : W.heap.size ≤ g) (x0 x1 x2 x3 : Value) : Ext W ((((w.setCell ⟨g, o, none⟩ x0).setCell ⟨g, o + 1, none⟩ x1).setCell ⟨g, o + 2, none⟩ x2).setCell ⟨g, o + 3, none⟩ x3) :=
  (((h.setCell hg _).setCell hg _).setCell hg _).setCell hg _

abbrev st4 (w : World) (g o : Nat) (u : Int) : World :=
  (((w.setCell ⟨g, o, none⟩ (.int .i64 u)).setCell ⟨g, o + 1, none⟩ (.int .i64 0)).setCell ⟨g, o + 2, none⟩ (.int .i64 0)).setCell ⟨g, o + 3, none⟩ (.int .u32 0)

theorem mark_cell {w : World} {B g cap n : Nat} {x : Cl} (h : w.ownsRow B 30 4 (.slice (some ⟨g, 0, none⟩) (n + 1) cap) (n + 1) (cls (List.replicate n x ++ [x]))) {k : Nat} (hk : k < n + 1) : w.cell? ⟨g, k * 4, none⟩ = some (.int .i64 x.a) := by
  rw [← List.replicate_succ'] at h
  have hl : k < (List.replicate (n + 1) x).length := by simpa using hk
  have := (cls_at (List.replicate (n + 1) x) k hl).1
  rw [List.getElem_replicate] at this
  exact (h.cellAt _ (by omega)).trans this

/-- a row of other marks lies in another block. -/
theorem marks_apart {w : World} {B B' : Nat} {va vb : Value} {L : List Cl} (ha : w.ownsRow B 30 4 va (L.length + 1) (cls (List.replicate L.length ⟨201, 0, 0, 0⟩ ++ [⟨201, 0, 0, 0⟩])))
    (hb : w.ownsRow B' 30 4 vb L.length (cls (List.replicate L.length ⟨202, 0, 0, 0⟩))) (hn : L = [] → vb = .slice none 0 0) : ∀ b, va.ownBlock = some b → vb.ownBlock = some b → False := by
  intro b h1 h2
  by_cases h0 : L = []
  · rw [hn h0] at h2; cases h2
  · have hp : 0 < L.length := List.length_pos_iff.2 h0
    obtain ⟨n, hn⟩ : ∃ n, L.length = n + 1 := ⟨L.length - 1, by omega⟩
    rw [hn] at ha hb
    have e1 := ha.cells h1 0 (.int .i64 201) (by simp [List.replicate_succ, cls_cons])
    have e2 := hb.cells h2 0 (.int .i64 202) (by simp [List.replicate_succ, cls_cons])
    rw [e1] at e2
    simp at e2

set_option maxRecDepth 100000 in
set_option maxHeartbeats 4000000 in
theorem makes_any (p m : Int) (W : World) : Calls Try.prog 3 #[.int .i64 p, .int .i64 m] W fun r w' => r = .returned (.bool true) ∧ Ext W w' := by
  have HK := Lib.hid (make_all p m)
  have HR := Lib.hid (rmake_all p m)
  have HL := Lib.hid (listL_len p m)
  obtain ⟨i0, hi, hz0, hz1, hz2⟩ := info_parts infoClass
  generalize listL p m = L at *
  generalize errL p m = e at *
  go_enter Try.func3, Try.ntmps3
  go_wp2_with fail
  refine (HR.out _).mono ?_
  rintro r w1 ⟨vw, rfl, how, hx1⟩
  have HW1 := Lib.hid how
  have HX1 := Lib.hid hx1
  clear how hx1
  go_wp2_with fail
  refine (HK.out _).mono ?_
  rintro r w2 ⟨va, rfl, hna, ho, hx⟩
  have HNA := Lib.hid hna
  clear hna
  have HA2 := Lib.hid ho
  have HW2 := Lib.hid (owns_later HW1.out hx.below)
  have HX2 := Lib.hid (HX1.out.trans hx)
  have HZ2 := Lib.hid (Nat.le_trans HX1.out.size (Nat.le_refl _))
  clear ho hx
  go_wp2_with fail
  refine (HK.out _).mono ?_
  rintro r w3 ⟨vb, rfl, hnb, ho, hx⟩
  have HNB := Lib.hid hnb
  clear hnb
  have HAB := Lib.hid (apart_of HA2.out ho (Nat.le_refl _))
  have HB3 := Lib.hid ho
  have HA3 := Lib.hid (owns_later HA2.out hx.below)
  have HW3 := Lib.hid (owns_later HW2.out hx.below)
  have HX3 := Lib.hid (HX2.out.trans hx)
  clear ho hx
  go_wp2_with fail
  refine (same_any va vw _ _ L _ HL.out HA3.out HW3.out).mono ?_
  rintro r w4 ⟨rfl, n4, rfl⟩
  go_wp2_with fail
  refine (same_any vb vw _ _ L _ HL.out (owns_later HB3.out ((Ext.refl _).drewN _).below) (owns_later HW3.out ((Ext.refl _).drewN _).below)).mono ?_
  rintro r w5 ⟨rfl, n5, rfl⟩
  have he : (e != e) = false := by simp
  go_wp2_with fail
  refine (rtable_any _).mono ?_
  rintro r w6 ⟨vt, rfl, ho, hx⟩
  have HT6 := Lib.hid (owns_base (B' := W.heap.size) ho (by have := HX3.out.drewN (n4 + n5); exact this.size))
  have HAT := Lib.hid (apart_of HA3.out ho (Nat.le_refl _))
  have HBT := Lib.hid (apart_of HB3.out ho (Nat.le_refl _))
  have HA6 := Lib.hid (owns_base (B' := W.heap.size) (owns_later HA3.out (((Ext.refl w3).drewN (n4 + n5)).trans hx).below) HX1.out.size)
  have HB6 := Lib.hid (owns_base (B' := W.heap.size) (owns_later HB3.out (((Ext.refl w3).drewN (n4 + n5)).trans hx).below) HX2.out.size)
  have HX6 := Lib.hid (HX3.out.trans (((Ext.refl w3).drewN (n4 + n5)).trans hx))
  clear HA2 HW2 HA3 HB3 HW3 HX3 HW1 ho hx
  go_wp2_with fail
  refine (table_any _).mono ?_
  rintro r w7 htab
  obtain ⟨vc, rfl, ho, hx⟩ := htab
  have HAC := Lib.hid (apart_of HA6.out ho (Nat.le_refl _))
  have HBC := Lib.hid (apart_of HB6.out ho (Nat.le_refl _))
  have HTC := Lib.hid (apart_of HT6.out ho (Nat.le_refl _))
  have HF := Lib.hid (Four4.mk (owns_later HA6.out hx.below) (owns_later HB6.out hx.below) (owns_later HT6.out hx.below) (owns_base (B' := W.heap.size) ho HX6.out.size) (HX6.out.trans hx))
  clear HA6 HB6 HT6 HX6 HX1 HX2 HZ2 ho hx HK HR
  go_wp2_with fail
  refine (same_any vc vt _ _ tabC _ (by rw [tab_len]; omega) (by rw [tab_len]; exact HF.out.c) (by rw [tab_len]; exact HF.out.t)).mono ?_
  rintro r w8 ⟨rfl, n8, rfl⟩
  have HF8 := Lib.hid (HF.out.later ((Ext.refl _).drewN n8))
  clear HF
  generalize w7.drewN n8 = w8 at *
  obtain ⟨pa, capa, rfl, hpa⟩ := own_open HF8.out.a
  obtain ⟨pb, capb, rfl, hpb⟩ := own_open HF8.out.b
  have HPA := Lib.hid hpa
  have HPB := Lib.hid hpb
  clear hpa hpb
  go_wp2_with fail
  go_loopw [14] (fun i wr => ∃ k : Nat, k ≤ L.length ∧ i = .int .i64 k ∧ Hid (Four4 W wr (.slice pa L.length capa) (.slice pb L.length capb) vt vc W.heap.size L.length L.length 68 (fillL 201 k L) (fillL 202 k L) tabC)) (fun i _ => L.length - (intOf i).toNat)
  case atStart => exact ⟨0, Nat.zero_le _, rfl, HF8⟩
  case round =>
    obtain ⟨k, hk, rfl, hR⟩ := hrel
    have hL2 := HL.out
    by_cases hlt : k < L.length
    · obtain ⟨ga, rfl, hga, -⟩ : ∃ g, pa = some ⟨g, 0, none⟩ ∧ W.heap.size ≤ g ∧ ListAt w8 g L := by
        rcases HPA.out with h0 | h0
        · rw [h0] at hlt; simp at hlt
        · exact h0
      obtain ⟨gb, rfl, hgb, -⟩ : ∃ g, pb = some ⟨g, 0, none⟩ ∧ W.heap.size ≤ g ∧ ListAt w8 g L := by
        rcases HPB.out with h0 | h0
        · rw [h0] at hlt; simp at hlt
        · exact h0
      have hla := fill_len 201 (k := k) (l := L) hk
      have hlb := fill_len 202 (k := k) (l := L) hk
      obtain ⟨x, e0, e1, e2, e3⟩ := four_at hR.out.a hla.symm (i := k) (by omega)
      obtain ⟨y, f0, f1, f2, f3⟩ := four_at hR.out.b hlb.symm (i := k) (by omega)
      have hne : ga ≠ gb := HAB.out ga gb rfl rfl
      have hne2 : gb ≠ ga := fun h => hne h.symm
      have fza := fun j => hR.out.a.frozenAt (g := ga) j
      have fzb := fun j => hR.out.b.frozenAt (g := gb) j
      have HN := Lib.hid (show Four4 W (st4 (st4 wr ga (k * 4) 201) gb (k * 4) 202) (.slice (some ⟨ga, 0, none⟩) L.length capa) (.slice (some ⟨gb, 0, none⟩) L.length capb) vt vc W.heap.size L.length L.length 68 (fillL 201 (k + 1) L) (fillL 202 (k + 1) L) tabC from
        ⟨by rw [← fill_next 201 hlt]; exact own_far4 (own_set4 hR.out.a (i := k) (by omega) ⟨201, 0, 0, 0⟩) (by intro b hb; cases hb; exact hne) (.int .i64 202) (.int .i64 0) (.int .i64 0) (.int .u32 0),
         by rw [← fill_next 202 hlt]; exact own_set4 (own_far4 hR.out.b (by intro b hb; cases hb; exact hne2) _ _ _ _) (i := k) (by omega) ⟨202, 0, 0, 0⟩,
         own_far4 (own_far4 hR.out.t (fun b hb h => HAT.out ga b rfl hb h.symm) _ _ _ _) (fun b hb h => HBT.out gb b rfl hb h.symm) _ _ _ _,
         own_far4 (own_far4 hR.out.c (fun b hb h => HAC.out ga b rfl hb h.symm) _ _ _ _) (fun b hb h => HBC.out gb b rfl hb h.symm) _ _ _ _,
         ext4 (ext4 hR.out.ext hga _ _ _ _) hgb _ _ _ _⟩)
      clear hR
      go_wp2
      go_roundw
      case rel => exact ⟨k + 1, hlt, by go_num, HN⟩
      case measure => simp [intOf]; omega
    · obtain rfl : k = L.length := by omega
      have HF9 : Hid (Four4 W wr (.slice pa L.length capa) (.slice pb L.length capb) vt vc W.heap.size L.length L.length 68 (List.replicate L.length ⟨201, 0, 0, 0⟩) (List.replicate L.length ⟨202, 0, 0, 0⟩) tabC) := Lib.hid (by have := hR.out; rwa [fill_all, fill_all] at this)
      clear hR HF8 HPA HPB hlt hk
      obtain ⟨gc, capc, rfl, hgc, -, -, -⟩ := own_form (n := 67) HF9.out.c
      go_wp2_with fail
      go_loopw [15] (fun i w9 => ∃ k : Nat, k ≤ 68 ∧ i = .int .i64 k ∧ Hid (Four4 W w9 (.slice pa L.length capa) (.slice pb L.length capb) vt (.slice (some ⟨gc, 0, none⟩) (67 + 1) capc) W.heap.size L.length L.length 68 (List.replicate L.length ⟨201, 0, 0, 0⟩) (List.replicate L.length ⟨202, 0, 0, 0⟩) (fillL 203 k tabC))) (fun i _ => 68 - (intOf i).toNat)
      case atStart => exact ⟨0, by omega, rfl, HF9⟩
      case round =>
        obtain ⟨k, hk, rfl, hR⟩ := hrel
        by_cases hlt : k < 68
        · have hlt' : k < tabC.length := by rw [tab_len]; exact hlt
          have hlc := fill_len 203 (k := k) (l := tabC) (by omega)
          obtain ⟨x, e0, e1, e2, e3⟩ := four_at hR.out.c (by rw [hlc, tab_len]) (i := k) (by omega)
          have fza := fun j => hR.out.c.frozenAt (g := gc) j
          have HN := Lib.hid (show Four4 W (st4 _ gc (k * 4) 203) (.slice pa L.length capa) (.slice pb L.length capb) vt (.slice (some ⟨gc, 0, none⟩) (67 + 1) capc) W.heap.size L.length L.length 68 (List.replicate L.length ⟨201, 0, 0, 0⟩) (List.replicate L.length ⟨202, 0, 0, 0⟩) (fillL 203 (k + 1) tabC) from
            ⟨own_far4 hR.out.a (fun b hb h => HAC.out b gc hb rfl h) _ _ _ _,
             own_far4 hR.out.b (fun b hb h => HBC.out b gc hb rfl h) _ _ _ _,
             own_far4 hR.out.t (fun b hb h => HTC.out b gc hb rfl h) _ _ _ _,
             by rw [← fill_next 203 hlt']; exact own_set4 hR.out.c (i := k) (by omega) ⟨203, 0, 0, 0⟩,
             ext4 hR.out.ext hgc _ _ _ _⟩)
          clear hR
          go_wp2
          go_roundw
          case rel => exact ⟨k + 1, hlt, by go_num, HN⟩
          case measure => simp [intOf]; omega
        · have hL2 := HL.out
          obtain rfl : k = 68 := by omega
          clear hlt hk HAC HBC HTC
          go_wp2_with (first | (at_builtin; refine wpList_append_far W.heap.size _ rfl (.tmp 88) (.tmp 90) 22 rfl 30 i0 _ 4 32 Try.underlying22 hi hz0 hz1 hz2 rfl (by decide) _ _ _ (by rfl) (by exact owns_later hR.out.a (Ext.below (by repeat (first | exact Ext.refl _ | refine Ext.drew ?_ | refine Ext.drewN ?_ _ | refine Ext.alloc ?_ _ _)))) (.slice (some ⟨wr.heap.size, 0, none⟩) 1 1) 1 [.int .i64 201, .int .i64 0, .int .i64 0, .int .u32 0] (by rfl) (by exact src_new _ [.int .i64 201, .int .i64 0, .int .i64 0, .int .u32 0] _ rfl) (by intro u hu; simp at hu; rcases hu with rfl | rfl | rfl | rfl <;> rfl) (by unfold maxLen; omega) (by omega) (by have := hR.out.ext.size; simp; omega) ?_) | fail)
          intro va' w10 hown hoff hgr
          have HX10 : Hid (Ext W w10) := Lib.hid ((hR.out.ext.alloc _ _).ofOff hoff (Nat.le_refl _))
          have HA10 := Lib.hid (show w10.ownsRow W.heap.size 30 4 va' (L.length + 1) (cls (List.replicate L.length ⟨201, 0, 0, 0⟩ ++ [⟨201, 0, 0, 0⟩])) by rw [← cls_snoc]; exact hown)
          have HB10 := Lib.hid (owns_grown hgr (owns_later hR.out.b ((Ext.refl _).alloc _ _).below) (fun b hb h => HAB.out b b h hb rfl))
          have HT10 := Lib.hid (owns_grown hgr (owns_later hR.out.t ((Ext.refl _).alloc _ _).below) (fun b hb h => HAT.out b b h hb rfl))
          clear hown hoff hgr hR HF9
          go_wp2_with (first | (at_builtin; refine wpList_append_far W.heap.size _ rfl (.tmp 92) (.tmp 94) 22 rfl 30 i0 _ 4 32 Try.underlying22 hi hz0 hz1 hz2 rfl (by decide) _ _ _ (by rfl) (by exact owns_later HB10.out (Ext.below (by repeat (first | exact Ext.refl _ | refine Ext.drew ?_ | refine Ext.drewN ?_ _ | refine Ext.alloc ?_ _ _)))) (.slice (some ⟨w10.heap.size, 0, none⟩) 1 1) 1 [.int .i64 202, .int .i64 0, .int .i64 0, .int .u32 0] (by rfl) (by exact src_new _ [.int .i64 202, .int .i64 0, .int .i64 0, .int .u32 0] _ rfl) (by intro u hu; simp at hu; rcases hu with rfl | rfl | rfl | rfl <;> rfl) (by unfold maxLen; omega) (by omega) (by have := HX10.out.size; simp; omega) ?_) | fail)
          intro vb' w11 hown hoff hgr
          have HX11 : Hid (Ext W w11) := Lib.hid ((HX10.out.alloc _ _).ofOff hoff (Nat.le_refl _))
          have HB11 := Lib.hid (show w11.ownsRow W.heap.size 30 4 vb' (L.length + 1) (cls (List.replicate L.length ⟨202, 0, 0, 0⟩ ++ [⟨202, 0, 0, 0⟩])) by rw [← cls_snoc]; exact hown)
          have HA11 := Lib.hid (owns_grown hgr (owns_later HA10.out ((Ext.refl _).alloc _ _).below) (fun b hb h => marks_apart HA10.out HB10.out HNB.out b hb h))
          have HT11 := Lib.hid (owns_grown hgr (owns_later HT10.out ((Ext.refl _).alloc _ _).below) (fun b hb h => HBT.out b b h hb rfl))
          clear hown hoff hgr HA10 HB10 HT10 HX10
          obtain ⟨ga2, capa2, rfl, -, -, -, -⟩ := own_form (n := L.length) HA11.out
          obtain ⟨gb2, capb2, rfl, -, -, -, -⟩ := own_form (n := L.length) HB11.out
          have ML := Lib.hid (fun k (hk : k < L.length + 1) => mark_cell (x := ⟨201, 0, 0, 0⟩) HA11.out hk)
          have MR := Lib.hid (fun k (hk : k < L.length + 1) => mark_cell (x := ⟨202, 0, 0, 0⟩) HB11.out hk)
          go_wp2_with fail
          go_loop [16] (fun i => ∃ k : Nat, k ≤ L.length + 1 ∧ i = .int .i64 k) (fun i => L.length + 1 - (intOf i).toNat)
          case atStart => exact ⟨0, by omega, rfl⟩
          case round =>
            obtain ⟨k, hk, rfl⟩ := hrel
            by_cases hlt : k < L.length + 1
            · have e0 := ML.out k hlt
              have f0 := MR.out k hlt
              go_wp2
              go_round
              case rel => exact ⟨k + 1, hlt, by go_num⟩
              case measure => simp [intOf]; omega
            · obtain rfl : k = L.length + 1 := by omega
              clear hlt hk
              go_wp2_with fail
              refine (table_any _).mono ?_
              rintro r w12 htab
              obtain ⟨vc2, rfl, ho, hx⟩ := htab
              have HT12 := Lib.hid (owns_later HT11.out hx.below)
              have HC12 := Lib.hid ho
              have HX12 := Lib.hid (HX11.out.trans hx)
              clear ho hx
              go_wp2_with fail
              refine (same_any vc2 vt _ _ tabC _ (by rw [tab_len]; omega) (by rw [tab_len]; exact HC12.out) (by rw [tab_len]; exact HT12.out)).mono ?_
              rintro r w13 ⟨rfl, n13, rfl⟩
              go_wp2_with fail
              refine (awake_any _).mono ?_
              rintro r w14 ⟨rfl, hx14⟩
              have HX14 := Lib.hid ((HX12.out.drewN n13).trans hx14)
              clear hx14
              go_wp2_with fail
              go_ret
              exact ⟨rfl, HX14.out⟩

theorem walk_ClassMakes (p : Int) (wp : (Lit.int .i64 p).wf = true) (m : Int) (wm : (Lit.int .i64 m).wf = true) (W : World) : Calls Try.prog 3 #[.int .i64 p, .int .i64 m] W fun r w' => r = .returned (.bool true) ∧ Ext W w' :=
  makes_any p m W

end Go.Proofs.Ytiocfifgfjkgfaa
