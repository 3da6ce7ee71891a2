/- The contracts of package pack: rows of summaries. -/
import Derived.Test.YtbfnadfbanhgcaaWalks
namespace Go.Proofs.Ytbfnadfbanhgcaa
open Go.RowKit
set_option linter.unusedVariables false

theorem rights_no1 (v : Value) (p : Int) (w : World) (h : p < 1) (l : List Sm) :
    Calls Try.prog 23 #[v, .int .i64 p] w fun r w' => r = .returned (.bool (rightsB l p)) ∧ Ext w w' := by
  have HR := Lib.hid (show rightsB l p = false by unfold rightsB; rw [decide_eq_false (by omega)]; rfl)
  go_enter Try.func23, Try.ntmps23
  go_wp2
  go_ret
  exact ⟨by rw [HR.out]; rfl, Ext.refl _⟩

theorem rights_no2 (v : Value) (p : Int) (w : World) (h : 2097152 < p) (l : List Sm) :
    Calls Try.prog 23 #[v, .int .i64 p] w fun r w' => r = .returned (.bool (rightsB l p)) ∧ Ext w w' := by
  have HR := Lib.hid (show rightsB l p = false by unfold rightsB; rw [decide_eq_false (by omega)]; rfl)
  go_enter Try.func23, Try.ntmps23
  go_wp2
  go_ret
  exact ⟨by rw [HR.out]; rfl, Ext.refl _⟩

theorem rights_no3 (b off cap : Nat) (l : List Sm) (p : Int) (w : World) (h1 : 1 ≤ p) (h2 : p ≤ 2097152) (h : 64 < l.length) :
    Calls Try.prog 23 #[.slice (some ⟨b, off, none⟩) l.length cap, .int .i64 p] w fun r w' => r = .returned (.bool (rightsB l p)) ∧ Ext w w' := by
  have HR := Lib.hid (show rightsB l p = false by unfold rightsB; rw [decide_eq_false (by omega)]; rfl)
  go_enter Try.func23, Try.ntmps23
  go_wp2
  go_ret
  exact ⟨by rw [HR.out]; rfl, Ext.refl _⟩

theorem rights_nil (p : Int) (w : World) (h1 : 1 ≤ p) (h2 : p ≤ 2097152) :
    Calls Try.prog 23 #[.slice none 0 0, .int .i64 p] w fun r w' => r = .returned (.bool (rightsB [] p)) ∧ Ext w w' := by
  have HR := Lib.hid (show rightsB [] p = true by unfold rightsB; rw [decide_eq_true ⟨h1, h2, by simp⟩]; rfl)
  go_enter Try.func23, Try.ntmps23
  go_wp2
  refine wp_loop_rounds 1 ?_
  rw [rounds_succ]
  go_wp2
  go_ret
  exact ⟨by rw [HR.out]; rfl, Ext.refl _⟩

/-- a slice value that reads as a row of summaries. -/
def SlAt (w : World) (v : Value) (l : List Sm) : Prop :=
  (v = .slice none 0 0 ∧ l = []) ∨ ∃ b off cap, v = .slice (some ⟨b, off, none⟩) l.length cap ∧ b < w.heap.size ∧ SumsAt w b off l

theorem SumsAt.ext {w w' : World} {b off : Nat} {l : List Sm} (h : SumsAt w b off l) (hb : b < w.heap.size) (hx : Ext w w') : SumsAt w' b off l :=
  fun i hi => ⟨(hx.cell b _ hb).trans (h i hi).1, (hx.cell b _ hb).trans (h i hi).2.1, (hx.cell b _ hb).trans (h i hi).2.2⟩

theorem SlAt.ext {w w' : World} {v : Value} {l : List Sm} (h : SlAt w v l) (hx : Ext w w') : SlAt w' v l := by
  rcases h with h | ⟨b, off, cap, h1, h2, h3⟩
  · exact Or.inl h
  · exact Or.inr ⟨b, off, cap, h1, Nat.lt_of_lt_of_le h2 hx.size, h3.ext h2 hx⟩

theorem rights_any (v : Value) (l : List Sm) (p : Int) (w : World) (h : SlAt w v l) :
    Calls Try.prog 23 #[v, .int .i64 p] w fun r w' => r = .returned (.bool (rightsB l p)) ∧ Ext w w' := by
  by_cases h1 : 1 ≤ p
  · by_cases h2 : p ≤ 2097152
    · rcases h with ⟨rfl, rfl⟩ | ⟨b, off, cap, rfl, hb, hc⟩
      · exact rights_nil p w h1 h2
      · by_cases h3 : l.length ≤ 64
        · exact rights_yes b off cap l p w hb (Lib.hid hc) h1 h2 h3
        · exact rights_no3 b off cap l p w h1 h2 (by omega)
    · exact rights_no2 v p w (by omega) l
  · exact rights_no1 v p w (by omega) l

/-! ### Merge -/
/-- one row more. -/
def mergeStep (p : Int) (o : Sm) (i : Int) (x : Sm) : Sm :=
  { s := if o.s = i * p then o.s + x.s else o.s, m := if (if o.m < x.m then x.m else o.m) < o.e + x.s then o.e + x.s else if o.m < x.m then x.m else o.m, e := if x.s = p then o.e + p else x.e }

def mergeTo (p : Int) (l : List Sm) : Nat → Sm
  | 0 => ⟨0, 0, 0⟩
  | k + 1 => mergeStep p (mergeTo p l k) k (l.getD k ⟨0, 0, 0⟩)

theorem merge_no (v : Value) (l : List Sm) (p : Int) (w : World) (h : SlAt w v l) (hr : rightsB l p = false) :
    Calls Try.prog 11 #[v, .int .i64 p] w fun r w' => r = .returned (.tuple #[.agg #[.int .i64 0, .int .i64 0, .int .i64 0], .int .i64 1]) ∧ Ext w w' := by
  have H := Lib.hid h
  clear h
  go_enter Try.func11, Try.ntmps11
  go_wp2_with fail
  refine (rights_any _ l _ _ (H.out.ext ((Ext.refl _).alloc _ _))).mono ?_
  rintro e w1 ⟨rfl, hg⟩
  obtain ⟨q0, q1, q2, f, hz⟩ := hg.new3
  have hx := (Ext.refl w).alloc #[.int .i64 0, .int .i64 0, .int .i64 0] 25 |>.trans hg
  clear hg
  go_wp2
  refine bodyPost_ret (v := .tuple #[.agg #[.int .i64 0, .int .i64 0, .int .i64 0], .int .i64 1]) (by simp [results, Try.results11, go_sem, q0, q1, q2, f]) rfl ⟨rfl, ?_⟩
  exact ((hx.setCell (Nat.le_refl _) _).setCell (Nat.le_refl _) _).setCell (Nat.le_refl _) _

theorem getD_lt {l : List Sm} {k : Nat} (h : k < l.length) : l.getD k ⟨0, 0, 0⟩ = l[k] := by
  simp [List.getD, h]

/-- what a right row keeps to. -/
def mergeOk (p : Int) (k : Nat) (o : Sm) : Prop := 0 ≤ o.s ∧ o.s ≤ k * p ∧ 0 ≤ o.m ∧ o.m ≤ k * p ∧ 0 ≤ o.e ∧ o.e ≤ k * p

/-- the memory of a call that gathers a summary in block B1, its answer's block B0. -/
structure MInv (w : World) (B0 B1 b off : Nat) (l : List Sm) (o : Sm) (wr : World) : Prop where
  ext : Ext w wr
  hB0 : w.heap.size ≤ B0
  hB : B0 < B1
  size : B1 < wr.heap.size
  hb : b < w.heap.size
  sums : SumsAt wr b off l
  a0 : wr.cell? ⟨B0, 0, none⟩ = some (.int .i64 0)
  a1 : wr.cell? ⟨B0, 1, none⟩ = some (.int .i64 0)
  a2 : wr.cell? ⟨B0, 2, none⟩ = some (.int .i64 0)
  o0 : wr.cell? ⟨B1, 0, none⟩ = some (.int .i64 o.s)
  o1 : wr.cell? ⟨B1, 1, none⟩ = some (.int .i64 o.m)
  o2 : wr.cell? ⟨B1, 2, none⟩ = some (.int .i64 o.e)
  fa : ∀ j, wr.frozen? ⟨B0, j, none⟩ = false
  fo : ∀ j, wr.frozen? ⟨B1, j, none⟩ = false

theorem SumsAt.setCell {w : World} {b off : Nat} {l : List Sm} (h : SumsAt w b off l) {b' o : Nat} (hb : b' ≠ b) (v : Value) : SumsAt (w.setCell ⟨b', o, none⟩ v) b off l :=
  fun i hi => ⟨(set_other (ne_block hb)).trans (h i hi).1, (set_other (ne_block hb)).trans (h i hi).2.1, (set_other (ne_block hb)).trans (h i hi).2.2⟩

theorem MInv.set0 {w : World} {B0 B1 b off : Nat} {l : List Sm} {o : Sm} {wr : World} (h : MInv w B0 B1 b off l o wr) (x : Int) : MInv w B0 B1 b off l ⟨x, o.m, o.e⟩ (wr.setCell ⟨B1, 0, none⟩ (.int .i64 x)) where
  ext := h.ext.setCell (Nat.le_trans h.hB0 (Nat.le_of_lt h.hB)) _
  hB0 := h.hB0
  hB := h.hB
  size := by simpa using h.size
  hb := h.hb
  sums := h.sums.setCell (by have := h.hB0; have := h.hB; have := h.hb; omega) _
  a0 := (set_other (ne_block (by have := h.hB; omega))).trans h.a0
  a1 := (set_other (ne_block (by have := h.hB; omega))).trans h.a1
  a2 := (set_other (ne_block (by have := h.hB; omega))).trans h.a2
  o0 := set_same h.o0
  o1 := (set_other (ne_off (by decide))).trans h.o1
  o2 := (set_other (ne_off (by decide))).trans h.o2
  fa := fun j => (World.frozen?_setCell _ _ _ _).trans (h.fa j)
  fo := fun j => (World.frozen?_setCell _ _ _ _).trans (h.fo j)

theorem MInv.set1 {w : World} {B0 B1 b off : Nat} {l : List Sm} {o : Sm} {wr : World} (h : MInv w B0 B1 b off l o wr) (x : Int) : MInv w B0 B1 b off l ⟨o.s, x, o.e⟩ (wr.setCell ⟨B1, 1, none⟩ (.int .i64 x)) where
  ext := h.ext.setCell (Nat.le_trans h.hB0 (Nat.le_of_lt h.hB)) _
  hB0 := h.hB0
  hB := h.hB
  size := by simpa using h.size
  hb := h.hb
  sums := h.sums.setCell (by have := h.hB0; have := h.hB; have := h.hb; omega) _
  a0 := (set_other (ne_block (by have := h.hB; omega))).trans h.a0
  a1 := (set_other (ne_block (by have := h.hB; omega))).trans h.a1
  a2 := (set_other (ne_block (by have := h.hB; omega))).trans h.a2
  o0 := (set_other (ne_off (by decide))).trans h.o0
  o1 := set_same h.o1
  o2 := (set_other (ne_off (by decide))).trans h.o2
  fa := fun j => (World.frozen?_setCell _ _ _ _).trans (h.fa j)
  fo := fun j => (World.frozen?_setCell _ _ _ _).trans (h.fo j)

theorem MInv.set2 {w : World} {B0 B1 b off : Nat} {l : List Sm} {o : Sm} {wr : World} (h : MInv w B0 B1 b off l o wr) (x : Int) : MInv w B0 B1 b off l ⟨o.s, o.m, x⟩ (wr.setCell ⟨B1, 2, none⟩ (.int .i64 x)) where
  ext := h.ext.setCell (Nat.le_trans h.hB0 (Nat.le_of_lt h.hB)) _
  hB0 := h.hB0
  hB := h.hB
  size := by simpa using h.size
  hb := h.hb
  sums := h.sums.setCell (by have := h.hB0; have := h.hB; have := h.hb; omega) _
  a0 := (set_other (ne_block (by have := h.hB; omega))).trans h.a0
  a1 := (set_other (ne_block (by have := h.hB; omega))).trans h.a1
  a2 := (set_other (ne_block (by have := h.hB; omega))).trans h.a2
  o0 := (set_other (ne_off (by decide))).trans h.o0
  o1 := (set_other (ne_off (by decide))).trans h.o1
  o2 := set_same h.o2
  fa := fun j => (World.frozen?_setCell _ _ _ _).trans (h.fa j)
  fo := fun j => (World.frozen?_setCell _ _ _ _).trans (h.fo j)

theorem MInv.later {w : World} {B0 B1 b off : Nat} {l : List Sm} {o : Sm} {wr w' : World} (h : MInv w B0 B1 b off l o wr) (hx : Ext wr w') : MInv w B0 B1 b off l o w' where
  ext := h.ext.trans hx
  hB0 := h.hB0
  hB := h.hB
  size := Nat.lt_of_lt_of_le h.size hx.size
  hb := h.hb
  sums := h.sums.ext (by have := h.hB0; have := h.hB; have := h.hb; have := h.size; omega) hx
  a0 := (hx.cell _ _ (Nat.lt_trans h.hB h.size)).trans h.a0
  a1 := (hx.cell _ _ (Nat.lt_trans h.hB h.size)).trans h.a1
  a2 := (hx.cell _ _ (Nat.lt_trans h.hB h.size)).trans h.a2
  o0 := (hx.cell _ _ h.size).trans h.o0
  o1 := (hx.cell _ _ h.size).trans h.o1
  o2 := (hx.cell _ _ h.size).trans h.o2
  fa := fun j => (hx.frozen _).trans (h.fa j)
  fo := fun j => (hx.frozen _).trans (h.fo j)

theorem MInv.alloc {w : World} {B0 B1 b off : Nat} {l : List Sm} {o : Sm} {wr : World} (h : MInv w B0 B1 b off l o wr) (c : Array Value) (t : TypeId) : MInv w B0 B1 b off l o (wr.alloc (.cells c t)) :=
  h.later ((Ext.refl _).alloc c t)

set_option maxHeartbeats 1000000 in
theorem merge_yes (b off cap : Nat) (l : List Sm) (p : Int) (w : World) (hb : b < w.heap.size) (h : SumsAt w b off l) (hr : rightsB l p = true) (hp : 1 ≤ p) (hp2 : p ≤ 2097152) (hl : l.length ≤ 64)
    (hok : ∀ k, k ≤ l.length → mergeOk p k (mergeTo p l k)) (hfit : ∀ k, (hk : k < l.length) → 0 ≤ l[k].s ∧ l[k].s ≤ p ∧ 0 ≤ l[k].e ∧ l[k].e ≤ p ∧ 0 ≤ l[k].m ∧ l[k].m ≤ p) :
    Calls Try.prog 11 #[.slice (some ⟨b, off, none⟩) l.length cap, .int .i64 p] w fun r w' => r = .returned (.tuple #[(mergeTo p l l.length).val, .int .i64 0]) ∧ Ext w w' := by
  have H : Hid (SlAt w (.slice (some ⟨b, off, none⟩) l.length cap) l) := Lib.hid (Or.inr ⟨b, off, cap, rfl, hb, h⟩)
  have HO := Lib.hid hok
  have HF := Lib.hid hfit
  have HC := Lib.hid h
  clear h hok hfit
  go_enter Try.func11, Try.ntmps11
  go_wp2_with fail
  refine (rights_any _ l _ _ (H.out.ext ((Ext.refl _).alloc _ _))).mono ?_
  rintro e w1 ⟨rfl, hg⟩
  obtain ⟨q0, q1, q2, f, hz⟩ := hg.new3
  have hx := (Ext.refl w).alloc #[.int .i64 0, .int .i64 0, .int .i64 0] 25 |>.trans hg
  clear hg
  go_wp2
  go_loopw [16] (fun i wr => ∃ k : Nat, k ≤ l.length ∧ i = .int .i64 k ∧ MInv w w.heap.size w1.heap.size b off l (mergeTo p l k) wr) (fun i _ => l.length - (intOf i).toNat)
  case atStart =>
    have hx2 := (Ext.refl w1).alloc #[.int .i64 0, .int .i64 0, .int .i64 0] 25
    obtain ⟨r0, r1, r2, g, hz2⟩ := Ext.new3 (Ext.refl (w1.alloc (.cells #[.int .i64 0, .int .i64 0, .int .i64 0] 25)))
    exact ⟨0, Nat.zero_le _, rfl, { ext := hx.trans hx2, hB0 := Nat.le_refl _, hB := hz, size := hz2, hb := hb, sums := (HC.out.ext hb hx).ext (by omega) hx2, a0 := (hx2.cell _ _ hz).trans q0, a1 := (hx2.cell _ _ hz).trans q1, a2 := (hx2.cell _ _ hz).trans q2, o0 := r0, o1 := r1, o2 := r2, fa := fun j => (hx2.frozen _).trans (f j), fo := g }⟩
  case round =>
    obtain ⟨k, hk, rfl, inv⟩ := hrel
    have a0 := inv.a0
    have a1 := inv.a1
    have a2 := inv.a2
    have fa := inv.fa
    have fo := inv.fo
    have o0 := inv.o0
    have o1 := inv.o1
    have o2 := inv.o2
    have hzr := inv.size
    by_cases hlt : k < l.length
    · obtain ⟨c1, c2, c3⟩ := inv.sums k hlt
      obtain ⟨v0, v1, v2, v3, v4, v5⟩ := HF.out k hlt
      obtain ⟨b0, b1, b2, b3, b4, b5⟩ := HO.out k hk
      have hbb : b ≠ w1.heap.size := by omega
      have hkp : (k : Int) * p ≤ 64 * 2097152 := Int.mul_le_mul (by omega) hp2 (by omega) (by omega)
      have hkp0 : 0 ≤ (k : Int) * p := Int.mul_nonneg (by omega) (by omega)
      have HS := Lib.hid (show mergeTo p l (k + 1) = mergeStep p (mergeTo p l k) k (l.getD k ⟨0, 0, 0⟩) from rfl)
      rw [getD_lt hlt] at HS
      generalize mergeTo p l k = o at *
      generalize l[k] = x at *
      obtain ⟨os, om, oe⟩ := o
      obtain ⟨xs, xm, xe⟩ := x
      dsimp only at *
      have HI := Lib.hid inv
      clear inv
      by_cases h1 : os = k * p
      · have t1 : (os == (k : Int) * p) = true := by simpa using h1
        by_cases h2 : xs = p
        · have t2 : (xs == p) = true := by simpa using h2
          have HT := Lib.hid (show mergeTo p l (k + 1) = ⟨os + xs, if (if om < xm then xm else om) < oe + xs then oe + xs else if om < xm then xm else om, oe + p⟩ by rw [HS.out]; unfold mergeStep; rw [if_pos h1, if_pos h2])
          clear h1 h2 HS
          go_wp2
          go_roundw
          case rel => exact ⟨k + 1, hlt, by go_num, by rw [HT.out]; exact (((HI.out.set0 _).set1 _).set2 _).alloc _ _⟩
          case measure => simp [intOf]; omega
        · have t2 : (xs == p) = false := by simpa using h2
          have HT := Lib.hid (show mergeTo p l (k + 1) = ⟨os + xs, if (if om < xm then xm else om) < oe + xs then oe + xs else if om < xm then xm else om, xe⟩ by rw [HS.out]; unfold mergeStep; rw [if_pos h1, if_neg h2])
          clear h1 h2 HS
          go_wp2
          go_roundw
          case rel => exact ⟨k + 1, hlt, by go_num, by rw [HT.out]; exact (((HI.out.set0 _).set1 _).set2 _).alloc _ _⟩
          case measure => simp [intOf]; omega
      · have t1 : (os == (k : Int) * p) = false := by simpa using h1
        by_cases h2 : xs = p
        · have t2 : (xs == p) = true := by simpa using h2
          have HT := Lib.hid (show mergeTo p l (k + 1) = ⟨os, if (if om < xm then xm else om) < oe + xs then oe + xs else if om < xm then xm else om, oe + p⟩ by rw [HS.out]; unfold mergeStep; rw [if_neg h1, if_pos h2])
          clear h1 h2 HS
          go_wp2
          go_roundw
          case rel => exact ⟨k + 1, hlt, by go_num, by rw [HT.out]; exact ((HI.out.set1 _).set2 _).alloc _ _⟩
          case measure => simp [intOf]; omega
        · have t2 : (xs == p) = false := by simpa using h2
          have HT := Lib.hid (show mergeTo p l (k + 1) = ⟨os, if (if om < xm then xm else om) < oe + xs then oe + xs else if om < xm then xm else om, xe⟩ by rw [HS.out]; unfold mergeStep; rw [if_neg h1, if_neg h2])
          clear h1 h2 HS
          go_wp2
          go_roundw
          case rel => exact ⟨k + 1, hlt, by go_num, by rw [HT.out]; exact ((HI.out.set1 _).set2 _).alloc _ _⟩
          case measure => simp [intOf]; omega
    · obtain rfl : k = l.length := by omega
      have HI := Lib.hid inv
      clear inv
      generalize hE : mergeTo p l l.length = o at *
      have HE := Lib.hid hE
      clear hE
      obtain ⟨os, om, oe⟩ := o
      dsimp only at *
      go_wp2
      refine bodyPost_ret (v := .tuple #[.agg #[.int .i64 os, .int .i64 om, .int .i64 oe], .int .i64 0]) (by simp [results, Try.results11, go_sem, a0, a1, a2, fa]) rfl ⟨by rw [HE.out]; rfl, ?_⟩
      exact ((HI.out.ext.setCell (Nat.le_refl _) _).setCell (Nat.le_refl _) _).setCell (Nat.le_refl _) _

end Go.Proofs.Ytbfnadfbanhgcaa
