/- The walk of the law StatsPlay. -/
import Derived.Test.YtdklcflclpmcbaaPlayC
import Derived.Test.YtdklcflclpmcbaaAwake
import Derived.Test.YtdklcflclpmcbaaFrame
import Derived.Test.YtdklcflclpmcbaaLater
namespace Go.Proofs.Ytdklcflclpmcbaa
open Go.RowKit
set_option linter.unusedVariables false

/-! ### the acts -/
structure Acts where
  len : Nat
  x : Nat → Int
  p : Nat → Int
  q : Nat → Int
  c : Nat → Int
  b : Nat → Int

def ActsAt (W : World) (p : Option Addr) (l : Acts) : Prop := ∀ i, i < l.len → ∃ b off, p = some ⟨b, off, none⟩ ∧ b < W.heap.size ∧
  W.cell? ⟨b, off + i * 5, none⟩ = some (.int .i64 (l.x i)) ∧ W.cell? ⟨b, off + i * 5 + 1, none⟩ = some (.int .i64 (l.p i)) ∧ W.cell? ⟨b, off + i * 5 + 2, none⟩ = some (.int .i64 (l.q i)) ∧
  W.cell? ⟨b, off + i * 5 + 3, none⟩ = some (.int .i64 (l.c i)) ∧ W.cell? ⟨b, off + i * 5 + 4, none⟩ = some (.int .u64 (l.b i))

def ActsIn (W : World) (v : Value) (l : Acts) : Prop := l.len ≤ maxLen ∧ ∃ p cap, v = .slice p l.len cap ∧ ActsAt W p l

theorem open_acts {H : Type} {enc : TypeId × Value → H} {W : World} {base : Nat} {v : Value} {d : DataW H} {p : List MemPlace} (hval : Value.okWide Try.prog W .any base 34 v) (h : DataW.Trod enc Try.prog W 0 (fun _ => true) true 34 v d p) :
    ∃ l : Acts, ActsIn W v l := by
  rcases open_recs (fs := _) Try.underlying34 Try.underlying41 (by kernel_rfl) (by kernel_rfl) (by decide) hval h with hv | ⟨b, off, len, cap, hv, hm, hb, hc⟩
  · exact ⟨⟨0, fun _ => 0, fun _ => 0, fun _ => 0, fun _ => 0, fun _ => 0⟩, by simp, none, 0, hv, fun i hi => absurd hi (by simp)⟩
  · have each : ∀ i, i < len → ∃ x : Int × Int × Int × Int × Int, W.cell? ⟨b, off + i * 5, none⟩ = some (.int .i64 x.1) ∧ W.cell? ⟨b, off + i * 5 + 1, none⟩ = some (.int .i64 x.2.1) ∧ W.cell? ⟨b, off + i * 5 + 2, none⟩ = some (.int .i64 x.2.2.1) ∧ W.cell? ⟨b, off + i * 5 + 3, none⟩ = some (.int .i64 x.2.2.2.1) ∧ W.cell? ⟨b, off + i * 5 + 4, none⟩ = some (.int .u64 x.2.2.2.2) := by
      intro i hi
      obtain ⟨u0, y0, n0, c0, t0⟩ := hc i hi 0 _ rfl
      obtain ⟨u1, y1, n1, c1, t1⟩ := hc i hi 1 _ rfl
      obtain ⟨u2, y2, n2, c2, t2⟩ := hc i hi 2 _ rfl
      obtain ⟨u3, y3, n3, c3, t3⟩ := hc i hi 3 _ rfl
      obtain ⟨u4, y4, n4, c4, t4⟩ := hc i hi 4 _ rfl
      obtain ⟨z0, e0, -, f0⟩ := DataW.trod_int Try.underlying3 t0
      obtain ⟨z1, e1, -, f1⟩ := DataW.trod_int Try.underlying3 t1
      obtain ⟨z2, e2, -, f2⟩ := DataW.trod_int Try.underlying3 t2
      obtain ⟨z3, e3, -, f3⟩ := DataW.trod_int Try.underlying3 t3
      obtain ⟨z4, e4, -, f4⟩ := DataW.trod_int Try.underlying22 t4
      simp only [List.cons.injEq, and_true] at e0 e1 e2 e3 e4
      subst e0 e1 e2 e3 e4
      exact ⟨⟨z0, z1, z2, z3, z4⟩, c0, c1, c2, c3, c4⟩
    let f : Nat → Int × Int × Int × Int × Int := fun i => if h : i < len then Classical.choose (each i h) else ⟨0, 0, 0, 0, 0⟩
    refine ⟨⟨len, fun i => (f i).1, fun i => (f i).2.1, fun i => (f i).2.2.1, fun i => (f i).2.2.2.1, fun i => (f i).2.2.2.2⟩, hm, some ⟨b, off, none⟩, cap, hv, fun i hi => ?_⟩
    have hf := Classical.choose_spec (each i hi)
    have he : f i = Classical.choose (each i hi) := by simp only [f]; exact dif_pos hi
    rw [← he] at hf
    exact ⟨b, off, rfl, hb, hf⟩

/-- the act's own block. -/
structure Box (w : World) (a : Nat) (x p q c b : Int) : Prop where
  c0 : w.cell? ⟨a, 0, none⟩ = some (.int .i64 x)
  c1 : w.cell? ⟨a, 1, none⟩ = some (.int .i64 p)
  c2 : w.cell? ⟨a, 2, none⟩ = some (.int .i64 q)
  c3 : w.cell? ⟨a, 3, none⟩ = some (.int .i64 c)
  c4 : w.cell? ⟨a, 4, none⟩ = some (.int .u64 b)
  lt : a < w.heap.size
theorem Box.new (w : World) (x p q c b : Int) : Box (w.alloc (.cells #[.int .i64 x, .int .i64 p, .int .i64 q, .int .i64 c, .int .u64 b] 41)) w.heap.size x p q c b :=
  ⟨by simp, by simp, by simp, by simp, by simp, by simp⟩
theorem Box.rest {w w' : World} {a : Nat} {x p q c b : Int} {B B' : Nat} (h : Box w a x p q c b) (hr : Rest B B' w w') (h1 : a ≠ B) (h2 : a ≠ B') : Box w' a x p q c b :=
  ⟨(hr.2 _ _ h.lt h1 h2).trans h.c0, (hr.2 _ _ h.lt h1 h2).trans h.c1, (hr.2 _ _ h.lt h1 h2).trans h.c2, (hr.2 _ _ h.lt h1 h2).trans h.c3, (hr.2 _ _ h.lt h1 h2).trans h.c4, Nat.lt_of_lt_of_le h.lt hr.1⟩

theorem made_none (n k : Nat) (hk : k < n * 4) : ((List.replicate (n * 4) (0 : Int)).getD k 0) = 0 := rep_get _ _

def zeroU (n : Nat) : Array Value := ⟨List.replicate n (.int .u64 0)⟩
theorem zeroU_get (n j : Nat) (h : j < n) : (zeroU n)[j]? = some (.int .u64 0) := by
  unfold zeroU
  rw [List.getElem?_toArray, List.getElem?_replicate, if_pos h]
theorem zero68 (w : World) : (zeroValue 39).run Try.prog w = .ok (.agg (zeroU 68)) w := by kernel_rfl
theorem rep0 (K j : Nat) : (List.replicate K (0 : Int)).getD j 0 = 0 := rep_get K j
theorem sumI_rep (K c : Nat) : ∀ k, sumI (List.replicate K 0) c k = 0
  | 0 => rfl
  | k + 1 => by
    show sumI (List.replicate K 0) c k + (List.replicate K (0 : Int)).getD (k * 4 + c) 0 = 0
    rw [sumI_rep K c k, rep0]; rfl
theorem csumI_rep (K : Nat) : ∀ k, csumI (List.replicate K 0) k = 0
  | 0 => rfl
  | k + 1 => by
    show csumI (List.replicate K 0) k + (List.replicate K (0 : Int)).getD (k * 2) 0 = 0
    rw [csumI_rep K k, rep0]; rfl
theorem same_start {n : Nat} : Same (List.replicate (n * 4) 0) (List.replicate 136 0) n := by
  unfold Same
  rw [sumTo_is, csum_is, sumI_rep, csumI_rep]
theorem play_start {W w1 : World} {n : Nat} (ht : Tab w1 (W.heap.size + 1) W.heap.size n (List.replicate (n * 4) 0) (List.replicate 136 0)) (hx : Ext W w1) :
    PR W (((w1.alloc (.cells (madeCells #[.int .u64 0, .int .u64 0, .int .u64 0, .int .u64 0] (n * 4)) 31)).alloc (.cells (zeroU 68) 39)).alloc (.cells (zeroU 68) 39)) w1.heap.size (w1.heap.size + 1) (w1.heap.size + 1 + 1) n (List.replicate (n * 4) 0) (List.replicate 136 0) (List.replicate (n * 4) 0) (List.replicate 136 0) := by
  have h1 := ht.hB
  have x1 : Ext w1 (w1.alloc (.cells (madeCells #[.int .u64 0, .int .u64 0, .int .u64 0, .int .u64 0] (n * 4)) 31)) := (Ext.refl _).alloc _ _
  have s1 : (w1.alloc (.cells (madeCells #[.int .u64 0, .int .u64 0, .int .u64 0, .int .u64 0] (n * 4)) 31)).heap.size = w1.heap.size + 1 := World.size_alloc _ _
  have p1 : ∀ j, (w1.alloc (.cells (madeCells #[.int .u64 0, .int .u64 0, .int .u64 0, .int .u64 0] (n * 4)) 31)).cell? ⟨w1.heap.size, j, none⟩ = (madeCells #[.int .u64 0, .int .u64 0, .int .u64 0, .int .u64 0] (n * 4))[j]? := fun j => cell_new _ _ _ _
  generalize w1.alloc (.cells (madeCells #[.int .u64 0, .int .u64 0, .int .u64 0, .int .u64 0] (n * 4)) 31) = w2 at *
  have x2 : Ext w2 (w2.alloc (.cells (zeroU 68) 39)) := (Ext.refl _).alloc _ _
  have s2 : (w2.alloc (.cells (zeroU 68) 39)).heap.size = w2.heap.size + 1 := World.size_alloc _ _
  have p2 : ∀ j, (w2.alloc (.cells (zeroU 68) 39)).cell? ⟨w2.heap.size, j, none⟩ = (zeroU 68)[j]? := fun j => cell_new _ _ _ _
  generalize w2.alloc (.cells (zeroU 68) 39) = w3 at *
  have x3 : Ext w3 (w3.alloc (.cells (zeroU 68) 39)) := (Ext.refl _).alloc _ _
  have s3 : (w3.alloc (.cells (zeroU 68) 39)).heap.size = w3.heap.size + 1 := World.size_alloc _ _
  have p3 : ∀ j, (w3.alloc (.cells (zeroU 68) 39)).cell? ⟨w3.heap.size, j, none⟩ = (zeroU 68)[j]? := fun j => cell_new _ _ _ _
  generalize w3.alloc (.cells (zeroU 68) 39) = w4 at *
  have x13 := (x1.trans x2).trans x3
  refine ⟨ht.later x13, List.length_replicate, List.length_replicate, fun j hj => ?_, fun j hj => ?_, fun j hj => ?_, h1, by omega, by omega, by omega, hx.trans x13⟩
  · rw [(x2.trans x3).cell _ _ (by omega), p1, made_get _ _ hj, rep0]
  · rw [x3.cell _ _ (by omega), ← s1, p2, zeroU_get _ _ hj, rep0]
  · rw [show w1.heap.size + 1 + 1 = w3.heap.size by omega, p3, zeroU_get _ _ hj, rep0]

theorem PR.far {W w : World} {bp bi bo n : Nat} {L C L2 C2 : List Int} (h : PR W w bp bi bo n L C L2 C2) {b : Nat} (hb : bo < b) (o : Nat) (v : Value) : PR W (w.setCell ⟨b, o, none⟩ v) bp bi bo n L C L2 C2 := by
  have h1 := h.o1; have h2 := h.o2; have h3 := h.o3; have h4 := h.o4
  exact ⟨h.tab_far (by omega) _ _, h.hl, h.hc, fun k hk => (set_other (ne_block (by omega))).trans (h.ps k hk), fun k hk => (set_other (ne_block (by omega))).trans (h.ins k hk), fun k hk => (set_other (ne_block (by omega))).trans (h.outs k hk), h1, h2, h3, by rw [World.size_setCell]; exact h4, h.ext.setCell (by show W.heap.size ≤ b; omega) _⟩
/-- the sums of the first m Ps beside it. -/
structure AR (W w : World) (bp bi bo ba n : Nat) (L C : List Int) (m : Nat) : Prop where
  pr : PR W w bp bi bo n L C L C
  c0 : w.cell? ⟨ba, 0, none⟩ = some (.int .u64 (sumTo L 0 m))
  c1 : w.cell? ⟨ba, 1, none⟩ = some (.int .u64 (sumTo L 1 m))
  c2 : w.cell? ⟨ba, 2, none⟩ = some (.int .u64 (sumTo L 2 m))
  c3 : w.cell? ⟨ba, 3, none⟩ = some (.int .u64 (sumTo L 3 m))
  oa : bo < ba
  la : ba < w.heap.size
theorem AR.later {W w w' : World} {bp bi bo ba n m : Nat} {L C : List Int} (h : AR W w bp bi bo ba n L C m) (hx : Ext w w') : AR W w' bp bi bo ba n L C m :=
  ⟨h.pr.later hx, (hx.cell _ _ h.la).trans h.c0, (hx.cell _ _ h.la).trans h.c1, (hx.cell _ _ h.la).trans h.c2, (hx.cell _ _ h.la).trans h.c3, h.oa, Nat.lt_of_lt_of_le h.la hx.size⟩
theorem AR.start {W w : World} {bp bi bo n : Nat} {L C : List Int} (h : PR W w bp bi bo n L C L C) : AR W (w.alloc (.cells #[.int .u64 0, .int .u64 0, .int .u64 0, .int .u64 0] 31)) bp bi bo w.heap.size n L C 0 :=
  ⟨h.later ((Ext.refl _).alloc _ _), by simp [sumTo], by simp [sumTo], by simp [sumTo], by simp [sumTo], h.o4, by simp⟩
theorem AR.add {W w : World} {bp bi bo ba n m : Nat} {L C : List Int} (h : AR W w bp bi bo ba n L C m) :
    AR W ((((w.setCell ⟨ba, 0, none⟩ (.int .u64 (plus (sumTo L 0 m) (L.getD (m * 4) 0)))).setCell ⟨ba, 1, none⟩ (.int .u64 (plus (sumTo L 1 m) (L.getD (m * 4 + 1) 0)))).setCell ⟨ba, 2, none⟩ (.int .u64 (plus (sumTo L 2 m) (L.getD (m * 4 + 2) 0)))).setCell ⟨ba, 3, none⟩ (.int .u64 (plus (sumTo L 3 m) (L.getD (m * 4 + 3) 0)))) bp bi bo ba n L C (m + 1) where
  pr := (((h.pr.far h.oa _ _).far h.oa _ _).far h.oa _ _).far h.oa _ _
  c0 := (set_other (ne_off (by omega))).trans ((set_other (ne_off (by omega))).trans ((set_other (ne_off (by omega))).trans (set_same h.c0)))
  c1 := (set_other (ne_off (by omega))).trans ((set_other (ne_off (by omega))).trans (set_same ((set_other (ne_off (by omega))).trans h.c1)))
  c2 := (set_other (ne_off (by omega))).trans (set_same ((set_other (ne_off (by omega))).trans ((set_other (ne_off (by omega))).trans h.c2)))
  c3 := set_same ((set_other (ne_off (by omega))).trans ((set_other (ne_off (by omega))).trans ((set_other (ne_off (by omega))).trans h.c3)))
  oa := h.oa
  la := by rw [World.size_setCell, World.size_setCell, World.size_setCell, World.size_setCell]; exact h.la
theorem Ext.drewN'' {W w : World} (h : Ext W w) (n : Nat) : Ext W (w.drewN n) := ⟨⟨h.below.os, h.below.tape, h.below.output, h.below.size, h.below.block⟩, h.frozen⟩
theorem all_lit' (B B' n : Nat) (L C : List Int) (w : World) (h : Tab w B B' n L C) :
    Calls Try.prog 16 #[.pointer (some ⟨B, 0, none⟩)] w fun r w' => r = .returned (.agg #[.int .u64 (sumTo L 0 n), .int .u64 (sumTo L 1 n), .int .u64 (sumTo L 2 n), .int .u64 (sumTo L 3 n)]) ∧ Ext w w' := all_any B B' n L C w h

set_option maxRecDepth 100000 in
set_option maxHeartbeats 20000000 in
theorem play_any (n : Nat) (p : Option Addr) (cap : Nat) (l : Acts) (W : World) (n1 : 1 ≤ n) (n2 : n ≤ 64) (hl : l.len ≤ 300) (hA : ActsAt W p l) :
    Calls Try.prog 5 #[.int .i64 n, .slice p l.len cap] W fun r w' => r = .returned (.bool true) ∧ Ext W w' := by
  have HA := Lib.hid hA
  clear hA
  have k1 : decide (300 < (l.len : Int)) = false := decide_eq_false (by omega)
  have k2 : decide ((n : Int) < 1) = false := decide_eq_false (by omega)
  have k3 : decide (64 < (n : Int)) = false := decide_eq_false (by omega)
  obtain ⟨i0, hi, hz0, hz1, hz2⟩ := info_parts info31
  have hm := fun w : World => run_makeSlice (P := Try.prog) w 29 31 i0 _ Try.underlying29 hi hz0 .i64 .i64 n n (by omega) (by omega) (by rw [hz1]; omega) (by rw [hz2]; omega) (by omega)
  rw [hz1] at hm
  have hz := zero68
  clear hi hz0 hz1 hz2
  go_enter Try.func5, Try.ntmps5
  go_wp2_with fail
  refine (new_some n _ n1 n2).mono ?_
  rintro r w1 ⟨rfl, ht, hx⟩
  have HT := Lib.hid ht
  have HX := Lib.hid hx
  clear ht hx
  go_wp2_with fail
  clear k1 k2 k3 hm hz
  have HP := Lib.hid (play_start HT.out HX.out)
  have HS : Hid (Same (List.replicate (n * 4) 0) (List.replicate 136 0) n) := Lib.hid same_start
  clear HT HX
  generalize w1.heap.size + 1 + 1 = bo at *
  generalize w1.heap.size + 1 = bi at *
  generalize w1.heap.size = bp at *
  generalize ((w1.alloc _).alloc _).alloc _ = w2 at *
  go_loopw [10] (fun vk wr => ∃ (k : Nat) (L C : List Int), vk = .int .i64 k ∧ k ≤ l.len ∧ Hid (PR W wr bp bi bo n L C L C) ∧ Hid (Same L C n)) (fun vk _ => l.len - (intOf vk).toNat)
  case atStart => exact ⟨0, _, _, rfl, by omega, HP, HS⟩
  case round =>
    obtain ⟨k, L, C, rfl, hk, hP, hS⟩ := hrel
    clear HP HS
    by_cases hlt : k < l.len
    · obtain ⟨b0, off, rfl, hb0, e0, e1, e2, e3, e4⟩ := HA.out k hlt
      have e0 := (hP.out.ext.cell _ _ hb0).trans e0
      have e1 := (hP.out.ext.cell _ _ hb0).trans e1
      have e2 := (hP.out.ext.cell _ _ hb0).trans e2
      have e3 := (hP.out.ext.cell _ _ hb0).trans e3
      have e4 := (hP.out.ext.cell _ _ hb0).trans e4
      generalize l.x k = x at *
      generalize l.p k = P at *
      generalize l.q k = Q at *
      generalize l.c k = c at *
      generalize l.b k = b at *
      have hPw : P < 0 ∨ (0 ≤ P ∧ (n : Int) ≤ P) ∨ ∃ i : Nat, P = i ∧ i < n := by
        by_cases h1 : P < 0
        · exact .inl h1
        · by_cases h2 : (n : Int) ≤ P
          · exact .inr (.inl ⟨by omega, h2⟩)
          · exact .inr (.inr ⟨P.toNat, by omega, by omega⟩)
      have hQw : Q < 0 ∨ (0 ≤ Q ∧ (n : Int) ≤ Q) ∨ ∃ i : Nat, Q = i ∧ i < n := by
        by_cases h1 : Q < 0
        · exact .inl h1
        · by_cases h2 : (n : Int) ≤ Q
          · exact .inr (.inl ⟨by omega, h2⟩)
          · exact .inr (.inr ⟨Q.toNat, by omega, by omega⟩)
      have hCw : c < 0 ∨ (0 ≤ c ∧ 67 < c) ∨ ∃ i : Nat, c = i ∧ i < 68 := by
        by_cases h1 : c < 0
        · exact .inl h1
        · by_cases h2 : 67 < c
          · exact .inr (.inl ⟨by omega, h2⟩)
          · exact .inr (.inr ⟨c.toNat, by omega, by omega⟩)
      by_cases h3 : x = 3
      · subst h3
        clear hCw
        rcases hPw with h | h | ⟨i, rfl, hi⟩
        · as_aux_lemma =>
            have p1 : decide (P < 0) = true := decide_eq_true (by omega)
            have HP := Lib.hid (hP.out.later ((Ext.refl _).alloc #[.int .i64 3, .int .i64 P, .int .i64 Q, .int .i64 c, .int .u64 b] 41))
            have HBX := Lib.hid (Box.new wr 3 P Q c b)
            have hab : Hid (bo < wr.heap.size) := Lib.hid hP.out.o4
            clear hP
            go_wp2_with fail
            refine (move_no (W.heap.size + 1) W.heap.size n P Q L C _ HP.out.tab (by omega)).mono ?_
            rintro r w5 ⟨rfl, hw⟩
            subst hw
            go_wp2_with fail
            go_roundw
            case rel => exact ⟨k + 1, L, C, by go_num, by omega, HP, hS⟩
            case measure => simp [intOf]; omega
        · as_aux_lemma =>
            have p1 : decide (P < 0) = false := decide_eq_false (by omega)
            have p2 : decide ((n : Int) ≤ P) = true := decide_eq_true (by omega)
            have HP := Lib.hid (hP.out.later ((Ext.refl _).alloc #[.int .i64 3, .int .i64 P, .int .i64 Q, .int .i64 c, .int .u64 b] 41))
            have HBX := Lib.hid (Box.new wr 3 P Q c b)
            have hab : Hid (bo < wr.heap.size) := Lib.hid hP.out.o4
            clear hP
            go_wp2_with fail
            refine (move_no (W.heap.size + 1) W.heap.size n P Q L C _ HP.out.tab (by omega)).mono ?_
            rintro r w5 ⟨rfl, hw⟩
            subst hw
            go_wp2_with fail
            go_roundw
            case rel => exact ⟨k + 1, L, C, by go_num, by omega, HP, hS⟩
            case measure => simp [intOf]; omega
        · rcases hQw with h | h | ⟨j, rfl, hj⟩
          · as_aux_lemma =>
              have p1 : decide ((i : Int) < 0) = false := decide_eq_false (by omega)
              have p2 : decide ((n : Int) ≤ (i : Int)) = false := decide_eq_false (by omega)
              have q1 : decide (Q < 0) = true := decide_eq_true (by omega)
              have HP := Lib.hid (hP.out.later ((Ext.refl _).alloc #[.int .i64 3, .int .i64 i, .int .i64 Q, .int .i64 c, .int .u64 b] 41))
              have HBX := Lib.hid (Box.new wr 3 i Q c b)
              have hab : Hid (bo < wr.heap.size) := Lib.hid hP.out.o4
              clear hP
              go_wp2_with fail
              refine (move_no (W.heap.size + 1) W.heap.size n i Q L C _ HP.out.tab (by omega)).mono ?_
              rintro r w5 ⟨rfl, hw⟩
              subst hw
              go_wp2_with fail
              go_roundw
              case rel => exact ⟨k + 1, L, C, by go_num, by omega, HP, hS⟩
              case measure => simp [intOf]; omega
          · as_aux_lemma =>
              have p1 : decide ((i : Int) < 0) = false := decide_eq_false (by omega)
              have p2 : decide ((n : Int) ≤ (i : Int)) = false := decide_eq_false (by omega)
              have q1 : decide (Q < 0) = false := decide_eq_false (by omega)
              have q2 : decide ((n : Int) ≤ Q) = true := decide_eq_true (by omega)
              have HP := Lib.hid (hP.out.later ((Ext.refl _).alloc #[.int .i64 3, .int .i64 i, .int .i64 Q, .int .i64 c, .int .u64 b] 41))
              have HBX := Lib.hid (Box.new wr 3 i Q c b)
              have hab : Hid (bo < wr.heap.size) := Lib.hid hP.out.o4
              clear hP
              go_wp2_with fail
              refine (move_no (W.heap.size + 1) W.heap.size n i Q L C _ HP.out.tab (by omega)).mono ?_
              rintro r w5 ⟨rfl, hw⟩
              subst hw
              go_wp2_with fail
              go_roundw
              case rel => exact ⟨k + 1, L, C, by go_num, by omega, HP, hS⟩
              case measure => simp [intOf]; omega
          · by_cases hne : i = j
            · subst hne
              as_aux_lemma =>
                have p1 : decide ((i : Int) < 0) = false := decide_eq_false (by omega)
                have p2 : decide ((n : Int) ≤ (i : Int)) = false := decide_eq_false (by omega)
                have HP := Lib.hid (hP.out.later ((Ext.refl _).alloc #[.int .i64 3, .int .i64 i, .int .i64 i, .int .i64 c, .int .u64 b] 41))
                have HBX := Lib.hid (Box.new wr 3 i i c b)
                have hab : Hid (bo < wr.heap.size) := Lib.hid hP.out.o4
                clear hP
                go_wp2_with fail
                refine (move_same (W.heap.size + 1) W.heap.size n i L C _ HP.out.tab (by omega)).mono ?_
                rintro r w5 ⟨rfl, hw⟩
                subst hw
                go_wp2_with fail
                go_roundw
                case rel => exact ⟨k + 1, L, C, by go_num, by omega, HP, hS⟩
                case measure => simp [intOf]; omega
            · have p1 : decide ((i : Int) < 0) = false := decide_eq_false (by omega)
              have p2 : decide ((n : Int) ≤ (i : Int)) = false := decide_eq_false (by omega)
              have q1 : decide ((j : Int) < 0) = false := decide_eq_false (by omega)
              have q2 : decide ((n : Int) ≤ (j : Int)) = false := decide_eq_false (by omega)
              have hij : ((i : Int) != (j : Int)) = true := by simp; omega
              have HP := Lib.hid (hP.out.later ((Ext.refl _).alloc #[.int .i64 3, .int .i64 i, .int .i64 j, .int .i64 c, .int .u64 b] 41))
              have HBX := Lib.hid (Box.new wr 3 i j c b)
              have hab : Hid (bo < wr.heap.size) := Lib.hid hP.out.o4
              clear hP
              have HFin := Lib.hid (fun w5 (h : PR W w5 bp bi bo n (moveL L i j) C L C) => (show PR W _ bp bi bo n (moveL L i j) C (moveL L i j) C from
                ((((((((h.setP (j := j * 4) (by omega) (plus (L.getD (j * 4) 0) (L.getD (i * 4) 0))).setP (j := j * 4 + 1) (by omega) (plus (L.getD (j * 4 + 1) 0) (L.getD (i * 4 + 1) 0))).setP (j := j * 4 + 2) (by omega) (plus (L.getD (j * 4 + 2) 0) (L.getD (i * 4 + 2) 0))).setP (j := j * 4 + 3) (by omega) (plus (L.getD (j * 4 + 3) 0) (L.getD (i * 4 + 3) 0))).setP (j := i * 4) (by omega) 0).setP (j := i * 4 + 1) (by omega) 0).setP (j := i * 4 + 2) (by omega) 0).setP (j := i * 4 + 3) (by omega) 0).drew))
              have HS2 := Lib.hid (same_move hS.out hi hj hne HP.out.tab.hL)
              go_wp2_with fail
              refine (move_yes (W.heap.size + 1) W.heap.size n i j L C _ HP.out.tab hi hj hne).mono ?_
              rintro r w5 ⟨rfl, ht, hk, ho⟩
              have h5 := HP.out.call ht hk (Rest.of_others ho)
              have hb5 := HBX.out.rest (Rest.of_others (B := W.heap.size + 1) ho) (by have := h5.o1; have := h5.o2; have := h5.o3; have := hab.out; omega) (by have := h5.o1; have := h5.o2; have := h5.o3; have := hab.out; omega)
              have HP5 := Lib.hid h5
              obtain ⟨c0, c1, c2, c3, c4, -⟩ := hb5
              have x0 := h5.ps (j * 4) (by omega)
              have x1 := h5.ps (j * 4 + 1) (by omega)
              have x2 := h5.ps (j * 4 + 2) (by omega)
              have x3 := h5.ps (j * 4 + 3) (by omega)
              have y0 := h5.ps (i * 4) (by omega)
              have y1 := h5.ps (i * 4 + 1) (by omega)
              have y2 := h5.ps (i * 4 + 2) (by omega)
              have y3 := h5.ps (i * 4 + 3) (by omega)
              have ff : ∀ o, w5.frozen? ⟨bp, o, none⟩ = false := fun o => h5.frozen bp o (by have := h5.o1; omega)
              have hna : bp ≠ wr.heap.size := by have := h5.o2; have := h5.o3; have := hab.out; omega
              have hnb : wr.heap.size ≠ bp := fun e => hna e.symm
              have hin : (i : Int) < n := by omega
              have hjn : (j : Int) < n := by omega
              clear h5 ht hk ho HP HBX hS
              generalize wr.heap.size = a at *
              generalize moveL L i j = L5 at *
              unfold plus at HFin
              generalize L.getD (j * 4) 0 = u0 at *
              generalize L.getD (j * 4 + 1) 0 = u1 at *
              generalize L.getD (j * 4 + 2) 0 = u2 at *
              generalize L.getD (j * 4 + 3) 0 = u3 at *
              generalize L.getD (i * 4) 0 = v0 at *
              generalize L.getD (i * 4 + 1) 0 = v1 at *
              generalize L.getD (i * 4 + 2) 0 = v2 at *
              generalize L.getD (i * 4 + 3) 0 = v3 at *
              go_wp2_with fail
              refine wp_region_head 57 (by kernel_rfl) (by kernel_rfl) ?_
              simp only [List.take_succ_cons, List.take_zero, List.drop_succ_cons, List.drop_zero]
              repeat (go_big_quiet_step (fail))
              refine wpQuiet_nil ?_
              go_wp2_with fail
              go_roundw
              case rel => exact ⟨k + 1, L5, C, by go_num, by omega, Lib.hid (HFin.out _ HP5.out), HS2⟩
              case measure => simp [intOf]; omega
      · clear hQw
        by_cases h2 : x = 2
        · subst h2
          clear h3
          rcases hPw with h | h | ⟨i, rfl, hi⟩
          · as_aux_lemma =>
              have p1 : decide (P < 0) = true := decide_eq_true (by omega)
              have HP := Lib.hid (hP.out.later ((Ext.refl _).alloc #[.int .i64 2, .int .i64 P, .int .i64 Q, .int .i64 c, .int .u64 b] 41))
              have HBX := Lib.hid (Box.new wr 2 P Q c b)
              have hab : Hid (bo < wr.heap.size) := Lib.hid hP.out.o4
              clear hP
              go_wp2_with fail
              refine (free_no (W.heap.size + 1) W.heap.size n P c b L C _ HP.out.tab (by omega)).mono ?_
              rintro r w5 ⟨rfl, hw⟩
              subst hw
              go_wp2_with fail
              go_roundw
              case rel => exact ⟨k + 1, L, C, by go_num, by omega, HP, hS⟩
              case measure => simp [intOf]; omega
          · as_aux_lemma =>
              have p1 : decide (P < 0) = false := decide_eq_false (by omega)
              have p2 : decide ((n : Int) ≤ P) = true := decide_eq_true (by omega)
              have HP := Lib.hid (hP.out.later ((Ext.refl _).alloc #[.int .i64 2, .int .i64 P, .int .i64 Q, .int .i64 c, .int .u64 b] 41))
              have HBX := Lib.hid (Box.new wr 2 P Q c b)
              have hab : Hid (bo < wr.heap.size) := Lib.hid hP.out.o4
              clear hP
              go_wp2_with fail
              refine (free_no (W.heap.size + 1) W.heap.size n P c b L C _ HP.out.tab (by omega)).mono ?_
              rintro r w5 ⟨rfl, hw⟩
              subst hw
              go_wp2_with fail
              go_roundw
              case rel => exact ⟨k + 1, L, C, by go_num, by omega, HP, hS⟩
              case measure => simp [intOf]; omega
          · rcases hCw with h | h | ⟨cc, rfl, hcc⟩
            · as_aux_lemma =>
                have p1 : decide ((i : Int) < 0) = false := decide_eq_false (by omega)
                have p2 : decide ((n : Int) ≤ (i : Int)) = false := decide_eq_false (by omega)
                have d1 : decide (c < 0) = true := decide_eq_true (by omega)
                have HP := Lib.hid (hP.out.later ((Ext.refl _).alloc #[.int .i64 2, .int .i64 i, .int .i64 Q, .int .i64 c, .int .u64 b] 41))
                have HBX := Lib.hid (Box.new wr 2 i Q c b)
                have hab : Hid (bo < wr.heap.size) := Lib.hid hP.out.o4
                clear hP
                go_wp2_with fail
                refine (free_no (W.heap.size + 1) W.heap.size n i c b L C _ HP.out.tab (by omega)).mono ?_
                rintro r w5 ⟨rfl, hw⟩
                subst hw
                go_wp2_with fail
                go_roundw
                case rel => exact ⟨k + 1, L, C, by go_num, by omega, HP, hS⟩
                case measure => simp [intOf]; omega
            · as_aux_lemma =>
                have p1 : decide ((i : Int) < 0) = false := decide_eq_false (by omega)
                have p2 : decide ((n : Int) ≤ (i : Int)) = false := decide_eq_false (by omega)
                have d1 : decide (c < 0) = false := decide_eq_false (by omega)
                have d2 : decide (67 < c) = true := decide_eq_true (by omega)
                have HP := Lib.hid (hP.out.later ((Ext.refl _).alloc #[.int .i64 2, .int .i64 i, .int .i64 Q, .int .i64 c, .int .u64 b] 41))
                have HBX := Lib.hid (Box.new wr 2 i Q c b)
                have hab : Hid (bo < wr.heap.size) := Lib.hid hP.out.o4
                clear hP
                go_wp2_with fail
                refine (free_no (W.heap.size + 1) W.heap.size n i c b L C _ HP.out.tab (by omega)).mono ?_
                rintro r w5 ⟨rfl, hw⟩
                subst hw
                go_wp2_with fail
                go_roundw
                case rel => exact ⟨k + 1, L, C, by go_num, by omega, HP, hS⟩
                case measure => simp [intOf]; omega
            · as_aux_lemma =>
                have p1 : decide ((i : Int) < 0) = false := decide_eq_false (by omega)
                have p2 : decide ((n : Int) ≤ (i : Int)) = false := decide_eq_false (by omega)
                have d1 : decide ((cc : Int) < 0) = false := decide_eq_false (by omega)
                have d2 : decide (67 < (cc : Int)) = false := decide_eq_false (by omega)
                have HP := Lib.hid (hP.out.later ((Ext.refl _).alloc #[.int .i64 2, .int .i64 i, .int .i64 Q, .int .i64 cc, .int .u64 b] 41))
                have HBX := Lib.hid (Box.new wr 2 i Q cc b)
                have hab : Hid (bo < wr.heap.size) := Lib.hid hP.out.o4
                clear hP
                have HFin := Lib.hid (fun w5 (h : PR W w5 bp bi bo n (freeL L i b) (freeC C cc) L C) => (show PR W _ bp bi bo n (freeL L i b) (freeC C cc) (freeL L i b) (freeC C cc) from
                  (((h.setP (j := i * 4 + 1) (by omega) (plus (L.getD (i * 4 + 1) 0) 1)).setP (j := i * 4 + 3) (by omega) (plus (L.getD (i * 4 + 3) 0) b)).setO hcc (plus (C.getD (cc * 2 + 1) 0) 1)).drew))
                have HS2 := Lib.hid (same_free b hS.out hi hcc HP.out.tab.hL HP.out.tab.hC)
                go_wp2_with fail
                refine (free_o (W.heap.size + 1) W.heap.size n i cc b L C _ HP.out.tab hi hcc).mono ?_
                rintro r w5 ⟨rfl, ht, hk, ho⟩
                have h5 := HP.out.call ht hk ho
                have hb5 := HBX.out.rest ho (by have := h5.o1; have := h5.o2; have := h5.o3; have := hab.out; omega) (by have := h5.o1; have := h5.o2; have := h5.o3; have := hab.out; omega)
                have HP5 := Lib.hid h5
                obtain ⟨c0, c1, c2, c3, c4, -⟩ := hb5
                have y0 := h5.ps (i * 4 + 1) (by omega)
                have y1 := h5.ps (i * 4 + 3) (by omega)
                have y2 := h5.outs cc (by omega)
                have ff : ∀ o, w5.frozen? ⟨bp, o, none⟩ = false := fun o => h5.frozen bp o (by have := h5.o1; omega)
                have fg : ∀ o, w5.frozen? ⟨bo, o, none⟩ = false := fun o => h5.frozen bo o (by have := h5.o1; have := h5.o2; have := h5.o3; omega)
                have hna : bp ≠ wr.heap.size := by have := h5.o2; have := h5.o3; have := hab.out; omega
                have hnb : wr.heap.size ≠ bp := fun e => hna e.symm
                have hnc : bo ≠ wr.heap.size := by have := h5.o2; have := h5.o3; have := hab.out; omega
                have hnd : wr.heap.size ≠ bo := fun e => hnc e.symm
                have hne : bp ≠ bo := by have := h5.o2; have := h5.o3; omega
                have hnf : bo ≠ bp := fun e => hne e.symm
                have hin : (i : Int) < n := by omega
                have hcn : (cc : Int) < 68 := by omega
                clear h5 ht hk ho HP HBX hS
                generalize wr.heap.size = a at *
                generalize freeL L i b = L5 at *
                generalize freeC C cc = C5 at *
                unfold plus at HFin
                generalize L.getD (i * 4 + 1) 0 = u0 at *
                generalize L.getD (i * 4 + 3) 0 = u1 at *
                generalize C.getD (cc * 2 + 1) 0 = u2 at *
                go_wp2_with fail
                refine wp_region_head 11 (by kernel_rfl) (by kernel_rfl) ?_
                simp only [List.take_succ_cons, List.take_zero, List.drop_succ_cons, List.drop_zero]
                repeat (go_big_quiet_step (fail))
                refine wpQuiet_nil ?_
                go_wp2_with fail
                go_roundw
                case rel => exact ⟨k + 1, L5, C5, by go_num, by omega, Lib.hid (HFin.out _ HP5.out), HS2⟩
                case measure => simp [intOf]; omega
        · rcases hPw with h | h | ⟨i, rfl, hi⟩
          · as_aux_lemma =>
              have x1 : (x == 3) = false := by simpa using h3
              have x2 : (x == 2) = false := by simpa using h2
              have p1 : decide (P < 0) = true := decide_eq_true (by omega)
              have HP := Lib.hid (hP.out.later ((Ext.refl _).alloc #[.int .i64 x, .int .i64 P, .int .i64 Q, .int .i64 c, .int .u64 b] 41))
              have HBX := Lib.hid (Box.new wr x P Q c b)
              have hab : Hid (bo < wr.heap.size) := Lib.hid hP.out.o4
              clear hP
              go_wp2_with fail
              refine (malloc_no (W.heap.size + 1) W.heap.size n P c b L C _ HP.out.tab (by omega)).mono ?_
              rintro r w5 ⟨rfl, hw⟩
              subst hw
              go_wp2_with fail
              go_roundw
              case rel => exact ⟨k + 1, L, C, by go_num, by omega, HP, hS⟩
              case measure => simp [intOf]; omega
          · as_aux_lemma =>
              have x1 : (x == 3) = false := by simpa using h3
              have x2 : (x == 2) = false := by simpa using h2
              have p1 : decide (P < 0) = false := decide_eq_false (by omega)
              have p2 : decide ((n : Int) ≤ P) = true := decide_eq_true (by omega)
              have HP := Lib.hid (hP.out.later ((Ext.refl _).alloc #[.int .i64 x, .int .i64 P, .int .i64 Q, .int .i64 c, .int .u64 b] 41))
              have HBX := Lib.hid (Box.new wr x P Q c b)
              have hab : Hid (bo < wr.heap.size) := Lib.hid hP.out.o4
              clear hP
              go_wp2_with fail
              refine (malloc_no (W.heap.size + 1) W.heap.size n P c b L C _ HP.out.tab (by omega)).mono ?_
              rintro r w5 ⟨rfl, hw⟩
              subst hw
              go_wp2_with fail
              go_roundw
              case rel => exact ⟨k + 1, L, C, by go_num, by omega, HP, hS⟩
              case measure => simp [intOf]; omega
          · rcases hCw with h | h | ⟨cc, rfl, hcc⟩
            · as_aux_lemma =>
                have x1 : (x == 3) = false := by simpa using h3
                have x2 : (x == 2) = false := by simpa using h2
                have p1 : decide ((i : Int) < 0) = false := decide_eq_false (by omega)
                have p2 : decide ((n : Int) ≤ (i : Int)) = false := decide_eq_false (by omega)
                have d1 : decide (c < 0) = true := decide_eq_true (by omega)
                have HP := Lib.hid (hP.out.later ((Ext.refl _).alloc #[.int .i64 x, .int .i64 i, .int .i64 Q, .int .i64 c, .int .u64 b] 41))
                have HBX := Lib.hid (Box.new wr x i Q c b)
                have hab : Hid (bo < wr.heap.size) := Lib.hid hP.out.o4
                clear hP
                go_wp2_with fail
                refine (malloc_no (W.heap.size + 1) W.heap.size n i c b L C _ HP.out.tab (by omega)).mono ?_
                rintro r w5 ⟨rfl, hw⟩
                subst hw
                go_wp2_with fail
                go_roundw
                case rel => exact ⟨k + 1, L, C, by go_num, by omega, HP, hS⟩
                case measure => simp [intOf]; omega
            · as_aux_lemma =>
                have x1 : (x == 3) = false := by simpa using h3
                have x2 : (x == 2) = false := by simpa using h2
                have p1 : decide ((i : Int) < 0) = false := decide_eq_false (by omega)
                have p2 : decide ((n : Int) ≤ (i : Int)) = false := decide_eq_false (by omega)
                have d1 : decide (c < 0) = false := decide_eq_false (by omega)
                have d2 : decide (67 < c) = true := decide_eq_true (by omega)
                have HP := Lib.hid (hP.out.later ((Ext.refl _).alloc #[.int .i64 x, .int .i64 i, .int .i64 Q, .int .i64 c, .int .u64 b] 41))
                have HBX := Lib.hid (Box.new wr x i Q c b)
                have hab : Hid (bo < wr.heap.size) := Lib.hid hP.out.o4
                clear hP
                go_wp2_with fail
                refine (malloc_no (W.heap.size + 1) W.heap.size n i c b L C _ HP.out.tab (by omega)).mono ?_
                rintro r w5 ⟨rfl, hw⟩
                subst hw
                go_wp2_with fail
                go_roundw
                case rel => exact ⟨k + 1, L, C, by go_num, by omega, HP, hS⟩
                case measure => simp [intOf]; omega
            · as_aux_lemma =>
                have x1 : (x == 3) = false := by simpa using h3
                have x2 : (x == 2) = false := by simpa using h2
                have p1 : decide ((i : Int) < 0) = false := decide_eq_false (by omega)
                have p2 : decide ((n : Int) ≤ (i : Int)) = false := decide_eq_false (by omega)
                have d1 : decide ((cc : Int) < 0) = false := decide_eq_false (by omega)
                have d2 : decide (67 < (cc : Int)) = false := decide_eq_false (by omega)
                have HP := Lib.hid (hP.out.later ((Ext.refl _).alloc #[.int .i64 x, .int .i64 i, .int .i64 Q, .int .i64 cc, .int .u64 b] 41))
                have HBX := Lib.hid (Box.new wr x i Q cc b)
                have hab : Hid (bo < wr.heap.size) := Lib.hid hP.out.o4
                clear hP
                have HFin := Lib.hid (fun w5 (h : PR W w5 bp bi bo n (mallocL L i b) (mallocC C cc) L C) => (show PR W _ bp bi bo n (mallocL L i b) (mallocC C cc) (mallocL L i b) (mallocC C cc) from
                  (((h.setP (j := i * 4) (by omega) (plus (L.getD (i * 4) 0) 1)).setP (j := i * 4 + 2) (by omega) (plus (L.getD (i * 4 + 2) 0) b)).setI hcc (plus (C.getD (cc * 2) 0) 1)).drew))
                have HS2 := Lib.hid (same_malloc b hS.out hi hcc HP.out.tab.hL HP.out.tab.hC)
                go_wp2_with fail
                refine (malloc_o (W.heap.size + 1) W.heap.size n i cc b L C _ HP.out.tab hi hcc).mono ?_
                rintro r w5 ⟨rfl, ht, hk, ho⟩
                have h5 := HP.out.call ht hk ho
                have hb5 := HBX.out.rest ho (by have := h5.o1; have := h5.o2; have := h5.o3; have := hab.out; omega) (by have := h5.o1; have := h5.o2; have := h5.o3; have := hab.out; omega)
                have HP5 := Lib.hid h5
                obtain ⟨c0, c1, c2, c3, c4, -⟩ := hb5
                have y0 := h5.ps (i * 4) (by omega)
                have y1 := h5.ps (i * 4 + 2) (by omega)
                have y2 := h5.ins cc (by omega)
                have ff : ∀ o, w5.frozen? ⟨bp, o, none⟩ = false := fun o => h5.frozen bp o (by have := h5.o1; omega)
                have fg : ∀ o, w5.frozen? ⟨bi, o, none⟩ = false := fun o => h5.frozen bi o (by have := h5.o1; have := h5.o2; have := h5.o3; omega)
                have hna : bp ≠ wr.heap.size := by have := h5.o2; have := h5.o3; have := hab.out; omega
                have hnb : wr.heap.size ≠ bp := fun e => hna e.symm
                have hnc : bi ≠ wr.heap.size := by have := h5.o2; have := h5.o3; have := hab.out; omega
                have hnd : wr.heap.size ≠ bi := fun e => hnc e.symm
                have hne : bp ≠ bi := by have := h5.o2; have := h5.o3; omega
                have hnf : bi ≠ bp := fun e => hne e.symm
                have hin : (i : Int) < n := by omega
                have hcn : (cc : Int) < 68 := by omega
                clear h5 ht hk ho HP HBX hS
                generalize wr.heap.size = a at *
                generalize mallocL L i b = L5 at *
                generalize mallocC C cc = C5 at *
                unfold plus at HFin
                generalize L.getD (i * 4) 0 = u0 at *
                generalize L.getD (i * 4 + 2) 0 = u1 at *
                generalize C.getD (cc * 2) 0 = u2 at *
                go_wp2_with fail
                refine wp_region_head 11 (by kernel_rfl) (by kernel_rfl) ?_
                simp only [List.take_succ_cons, List.take_zero, List.drop_succ_cons, List.drop_zero]
                repeat (go_big_quiet_step (fail))
                refine wpQuiet_nil ?_
                go_wp2_with fail
                go_roundw
                case rel => exact ⟨k + 1, L5, C5, by go_num, by omega, Lib.hid (HFin.out _ HP5.out), HS2⟩
                case measure => simp [intOf]; omega
    · as_aux_lemma =>
      go_wp2_with fail
      have HAR := Lib.hid (AR.start hP.out)
      clear hP
      generalize wr.heap.size = ba at *
      generalize wr.alloc _ = w3 at *
      go_loopw [15] (fun vi wr => ∃ (i : Int) (m : Nat), vi = .int .i64 i ∧ ((i = -1 ∧ m = 0) ∨ (i = m ∧ m ≤ n) ∨ (i = (n : Int) + 1 ∧ m = n)) ∧ Hid (AR W wr bp bi bo ba n L C m)) (fun vi _ => ((n : Int) + 1 - intOf vi).toNat)
      case atStart => exact ⟨-1, 0, rfl, .inl ⟨rfl, rfl⟩, HAR⟩
      case round =>
        obtain ⟨i, m, rfl, hway, hR⟩ := hrel
        clear HAR
        have hway : (i = -1 ∧ m = 0) ∨ (i = m ∧ m < n) ∨ (i = n ∧ m = n) ∨ (i = (n : Int) + 1 ∧ m = n) := by omega
        rcases hway with ⟨rfl, hm0⟩ | ⟨rfl, hmn⟩ | ⟨rfl, hmn⟩ | ⟨rfl, hmn⟩
        · have k1 : decide ((-1 : Int) ≤ (n : Int)) = true := decide_eq_true (by omega)
          go_wp2_with fail
          refine (p_no (W.heap.size + 1) W.heap.size n (-1) L C _ hR.out.pr.tab (by omega)).mono ?_
          rintro r w5 ⟨rfl, hx⟩
          have HR5 := Lib.hid ((hR.out.later hx).later ((Ext.refl _).alloc #[.int .u64 0, .int .u64 0, .int .u64 0, .int .u64 0] 31))
          clear hx hR
          go_wp2_with fail
          go_roundw
          case rel => exact ⟨0, m, rfl, .inr (.inl ⟨by omega, by omega⟩), HR5⟩
          case measure => simp [intOf]; omega
        · have k1 : decide ((m : Int) ≤ (n : Int)) = true := decide_eq_true (by omega)
          have k2 : decide ((m : Int) < 0) = false := decide_eq_false (by omega)
          have k3 : ((m : Int) == (n : Int)) = false := by simp; omega
          go_wp2_with fail
          refine (p_yes (W.heap.size + 1) W.heap.size n m L C _ hR.out.pr.tab hmn).mono ?_
          rintro r w5 ⟨rfl, hx⟩
          have h5 := (hR.out.later hx).later ((Ext.refl _).alloc #[.int .u64 (L.getD (m * 4) 0), .int .u64 (L.getD (m * 4 + 1) 0), .int .u64 (L.getD (m * 4 + 2) 0), .int .u64 (L.getD (m * 4 + 3) 0)] 31)
          have h6 := hR.out.later hx
          have x0 := h6.pr.ps (m * 4) (by omega)
          have x1 := h6.pr.ps (m * 4 + 1) (by omega)
          have x2 := h6.pr.ps (m * 4 + 2) (by omega)
          have x3 := h6.pr.ps (m * 4 + 3) (by omega)
          have a0 := h6.c0
          have a1 := h6.c1
          have a2 := h6.c2
          have a3 := h6.c3
          have fa : ∀ o, w5.frozen? ⟨ba, o, none⟩ = false := fun o => h6.pr.frozen ba o (by have := h6.pr.o1; have := h6.pr.o2; have := h6.pr.o3; have := h6.oa; omega)
          have hla := h6.la
          have hlp : bp < w5.heap.size := by have := h6.pr.o2; have := h6.pr.o3; have := h6.pr.o4; omega
          have hnx : ba ≠ w5.heap.size := by omega
          have hny : w5.heap.size ≠ ba := by omega
          have HN := Lib.hid (fun q : Nat => (h5.later ((Ext.refl _).drewN'' q)).add)
          have hmn2 : (m : Int) < n := by omega
          clear h5 h6 hx hR
          unfold plus at HN
          generalize L.getD (m * 4) 0 = u0 at *
          generalize L.getD (m * 4 + 1) 0 = u1 at *
          generalize L.getD (m * 4 + 2) 0 = u2 at *
          generalize L.getD (m * 4 + 3) 0 = u3 at *
          generalize sumTo L 0 m = s0 at *
          generalize sumTo L 1 m = s1 at *
          generalize sumTo L 2 m = s2 at *
          generalize sumTo L 3 m = s3 at *
          go_wp2_with fail
          go_quiet (fail)
          go_wp2_with fail
          go_roundw
          case rel => exact ⟨(m : Int) + 1, m + 1, by go_num, .inr (.inl ⟨by omega, by omega⟩), Lib.hid (HN.out _)⟩
          case measure => simp [intOf]; omega
        · have k1 : decide ((n : Int) ≤ (n : Int)) = true := decide_eq_true (by omega)
          have k2 : decide ((n : Int) < 0) = false := decide_eq_false (by omega)
          go_wp2_with fail
          refine (p_no (W.heap.size + 1) W.heap.size n n L C _ hR.out.pr.tab (by omega)).mono ?_
          rintro r w5 ⟨rfl, hx⟩
          have HR5 := Lib.hid ((hR.out.later hx).later ((Ext.refl _).alloc #[.int .u64 0, .int .u64 0, .int .u64 0, .int .u64 0] 31))
          clear hx hR
          go_wp2_with fail
          go_roundw
          case rel => exact ⟨(n : Int) + 1, m, rfl, .inr (.inr ⟨rfl, hmn⟩), HR5⟩
          case measure => simp [intOf]
        · as_aux_lemma =>
          have k1 : decide ((n : Int) + 1 ≤ (n : Int)) = false := decide_eq_false (by omega)
          rw [hmn] at hR
          clear hmn
          go_wp2_with fail
          go_loopw [18, 19] (fun vs vk wr => ∃ (i : Int) (m : Nat), vk = .int .i64 i ∧ vs = .int .u64 (csum C m) ∧ ((i = -1 ∧ m = 0) ∨ (i = m ∧ m ≤ 68) ∨ (i = 69 ∧ m = 68)) ∧ Hid (AR W wr bp bi bo ba n L C n)) (fun _ vk _ => (69 - intOf vk).toNat)
          case atStart => exact ⟨-1, 0, rfl, rfl, .inl ⟨rfl, rfl⟩, hR⟩
          case round =>
            obtain ⟨i, m, rfl, rfl, hway, hQ⟩ := hrel
            clear hR
            have hway : (i = -1 ∧ m = 0) ∨ (i = m ∧ m < 68) ∨ (i = 68 ∧ m = 68) ∨ (i = 69 ∧ m = 68) := by omega
            rcases hway with ⟨rfl, rfl⟩ | ⟨rfl, hmn⟩ | ⟨rfl, rfl⟩ | ⟨rfl, rfl⟩
            · go_wp2_with fail
              refine (class_no _ (-1) _ (by omega)).mono ?_
              rintro r w5 ⟨rfl, hw⟩
              subst hw
              go_wp2_with fail
              go_roundw
              case rel => exact ⟨0, 0, rfl, rfl, .inr (.inl ⟨rfl, by omega⟩), hQ⟩
              case measure => simp [intOf]
            · have k2 : decide ((m : Int) < 0) = false := decide_eq_false (by omega)
              have k3 : ((m : Int) == 68) = false := by simp; omega
              have hmn2 : (m : Int) < 68 := by omega
              have x0 := hQ.out.pr.ins m hmn
              have x1 := hQ.out.pr.outs m hmn
              have HQ5 := Lib.hid (hQ.out.later (Ext.refl _).drew)
              have HC := Lib.hid (class_yes (W.heap.size + 1) W.heap.size n m L C _ hQ.out.pr.tab hmn)
              have HE := Lib.hid (show csum C (m + 1) = plus (csum C m) (C.getD (m * 2) 0) from rfl)
              unfold plus at HE
              clear hQ
              generalize C.getD (m * 2) 0 = u0 at *
              generalize C.getD (m * 2 + 1) 0 = u1 at *
              generalize csum C m = s0 at *
              go_wp2_with fail
              refine HC.out.mono ?_
              rintro r w5 ⟨rfl, hw⟩
              subst hw
              clear HC
              go_wp2_with fail
              go_roundw
              case rel => exact ⟨(m : Int) + 1, m + 1, by go_num, by rw [HE.out], .inr (.inl ⟨by omega, by omega⟩), HQ5⟩
              case measure => simp [intOf]; omega
            · go_wp2_with fail
              refine (class_no _ 68 _ (by omega)).mono ?_
              rintro r w5 ⟨rfl, hw⟩
              subst hw
              go_wp2_with fail
              go_roundw
              case rel => exact ⟨69, 68, rfl, rfl, .inr (.inr ⟨rfl, rfl⟩), hQ⟩
              case measure => simp [intOf]
            · rw [show csum C 68 = sumTo L 0 n from hS.out.symm]
              have a0 := hQ.out.c0
              have a1 := hQ.out.c1
              have a2 := hQ.out.c2
              have a3 := hQ.out.c3
              have hla := hQ.out.la
              have HC := Lib.hid (fun (v : Later wr) => later_call (all_lit' (W.heap.size + 1) W.heap.size n L C v.w (hQ.out.pr.tab.later v.ext)))
              have HX := Lib.hid hQ.out.pr.ext
              clear hQ hS
              generalize sumTo L 0 n = s0 at *
              generalize sumTo L 1 n = s1 at *
              generalize sumTo L 2 n = s2 at *
              generalize sumTo L 3 n = s3 at *
              have l0 := later_cell a0 hla
              have l1 := later_cell a1 hla
              have l2 := later_cell a2 hla
              have l3 := later_cell a3 hla
              clear a0 a1 a2 a3 HA
              go_wp2_with fail
              refine wp_region_later wr (by kernel_rfl) (by kernel_rfl) (Ext.refl _) ?_
              repeat (go_big_quiet_step (first | (go_at_call 16; exact HC.out _) | (go_at_call 8; exact later_call (awake_any _))))
              refine wpQuiet_nil ?_
              rintro ⟨w7, hg7⟩
              dsimp only
              clear l0 l1 l2 l3
              go_wp2
              go_ret
              exact ⟨rfl, HX.out.trans hg7⟩

set_option maxRecDepth 100000 in
theorem play_out (x : Int) (p : Option Addr) (len cap : Nat) (w : World) (hm : len ≤ 9223372036854775807) (h : 300 < len) :
    Calls Try.prog 5 #[.int .i64 x, .slice p len cap] w fun r w' => r = .returned (.bool true) ∧ Ext w w' := by
  have k1 : decide (300 < (len : Int)) = true := decide_eq_true (by omega)
  go_enter Try.func5, Try.ntmps5
  go_wp2
  go_ret
  exact ⟨rfl, Ext.refl _⟩

set_option maxRecDepth 100000 in
theorem play_bad (x : Int) (p : Option Addr) (len cap : Nat) (w : World) (hl : len ≤ 300) (h : x < 1 ∨ 64 < x) :
    Calls Try.prog 5 #[.int .i64 x, .slice p len cap] w fun r w' => r = .returned (.bool true) ∧ Ext w w' := by
  have k1 : decide (300 < (len : Int)) = false := decide_eq_false (by omega)
  have hway : decide (x < 1) = true ∨ (decide (x < 1) = false ∧ decide (64 < x) = true) := by
    simp only [decide_eq_true_eq, decide_eq_false_iff_not]; omega
  have H := Lib.hid h
  clear h
  rcases hway with k2 | ⟨k2, k3⟩
  all_goals
    go_enter Try.func5, Try.ntmps5
    go_wp2_with fail
    refine (new_bad x _ H.out).mono ?_
    rintro r w1 ⟨rfl, hw⟩
    subst hw
    go_wp2_with (go_at_call 8; refine (awake_any _).mono ?_; rintro r w2 ⟨rfl, hx2⟩)
    go_ret
    exact ⟨rfl, hx2⟩

theorem walk_StatsPlay {W : World} (x : Int) (wx : (Lit.int .i64 x).wf = true) (v : Value) (l : Acts) (hl : ActsIn W v l) :
    Calls Try.prog 5 #[.int .i64 x, v] W fun r w' => r = .returned (.bool true) ∧ Ext W w' := by
  obtain ⟨hm, p, cap, rfl, hA⟩ := hl
  unfold maxLen at hm
  by_cases h : 300 < l.len
  · exact play_out x p l.len cap W hm h
  · by_cases h2 : x < 1 ∨ 64 < x
    · exact play_bad x p l.len cap W (by omega) h2
    · obtain ⟨n, rfl⟩ : ∃ n : Nat, x = n := ⟨x.toNat, by omega⟩
      exact play_any n p cap l W (by omega) (by omega) (by omega) hA


end Go.Proofs.Ytdklcflclpmcbaa
