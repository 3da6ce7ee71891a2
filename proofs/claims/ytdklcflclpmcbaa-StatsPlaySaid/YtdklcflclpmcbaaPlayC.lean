/- Malloc and Free with all that they leave alone; the memory of the law StatsPlay. -/
import Derived.Test.YtdklcflclpmcbaaMoveLaw
namespace Go.Proofs.Ytdklcflclpmcbaa
open Go.RowKit
set_option linter.unusedVariables false

/-- all blocks of before but the table's two keep their cells. -/
def Rest (B B' : Nat) (w w' : World) : Prop := w.heap.size ≤ w'.heap.size ∧ ∀ b o, b < w.heap.size → b ≠ B → b ≠ B' → w'.cell? ⟨b, o, none⟩ = w.cell? ⟨b, o, none⟩
theorem Rest.refl (B B' : Nat) (w : World) : Rest B B' w w := ⟨Nat.le_refl _, fun _ _ _ _ _ => rfl⟩
theorem Rest.setP {B B' : Nat} {w w' : World} (h : Rest B B' w w') (o : Nat) (v : Value) : Rest B B' w (w'.setCell ⟨B', o, none⟩ v) :=
  ⟨by rw [World.size_setCell]; exact h.1, fun b q hb h1 h2 => (set_other (by intro e; injection e with e1; exact h2 e1.symm)).trans (h.2 b q hb h1 h2)⟩
theorem Rest.setC {B B' : Nat} {w w' : World} (h : Rest B B' w w') (o : Nat) (v : Value) : Rest B B' w (w'.setCell ⟨B, o, none⟩ v) :=
  ⟨by rw [World.size_setCell]; exact h.1, fun b q hb h1 h2 => (set_other (by intro e; injection e with e1; exact h1 e1.symm)).trans (h.2 b q hb h1 h2)⟩
theorem Rest.drew {B B' : Nat} {w w' : World} (h : Rest B B' w w') : Rest B B' w w'.drew := ⟨h.1, h.2⟩
theorem Rest.of_others {B B' : Nat} {w w' : World} (h : Others B' w w') : Rest B B' w w' := ⟨h.1, fun b o hb _ h2 => h.2 b o hb h2⟩

set_option maxHeartbeats 1000000 in
theorem malloc_o (B B' n i c : Nat) (b : Int) (L C : List Int) (w : World) (h : Tab w B B' n L C) (h1 : i < n) (h2 : c < 68) :
    Calls Try.prog 13 #[.pointer (some ⟨B, 0, none⟩), .int .i64 i, .int .i64 c, .int .u64 b] w fun r w' => r = .returned (.int .i64 0) ∧ Tab w' B B' n (mallocL L i b) (mallocC C c) ∧ Keeps B B' w w' ∧ Rest B B' w w' := by
  have hd := h.hd
  have hn := h.hn
  have hne := h.hne
  have hne2 := h.hne.symm
  have c0 := h.ps (i * 4) (by omega)
  have c2 := h.ps (i * 4 + 2) (by omega)
  have cc := h.cl (c * 2) (by omega)
  have f := h.fB
  have g := h.fB'
  have HH := Lib.hid h
  clear h
  generalize hx : L.getD (i * 4) 0 = x at *
  generalize hy : L.getD (i * 4 + 2) 0 = y at *
  generalize hz : C.getD (c * 2) 0 = z at *
  have HX := Lib.hid hx
  have HY := Lib.hid hy
  have HZ := Lib.hid hz
  clear hx hy hz
  go_enter Try.func13, Try.ntmps13
  go_wp2_with (first | (go_at_call 18; refine (is_yes B B' n _ _ hd (by omega) (by omega)).mono ?_; rintro e w1 ⟨rfl, rfl⟩) | (go_at_call 19; refine (kind_yes _ _ (by omega) (by omega)).mono ?_; rintro e w1 ⟨rfl, rfl⟩))
  go_region
  all_goals (try go_wp2)
  all_goals go_ret
  all_goals refine ⟨rfl, ?_, ?_, (((Rest.refl _ _ _).setP _ _).setP _ _).setC _ _⟩
  all_goals first
    | (unfold mallocL mallocC plus; rw [HX.out, HY.out, HZ.out]; exact (((HH.out.setP (by omega) _).setP (by omega) _).setC (by omega) _).drew)
    | (intro W hx g1 g2; exact (((hx.setCell g2 _).setCell g2 _).setCell g1 _).drew)

set_option maxHeartbeats 1000000 in
theorem free_o (B B' n i c : Nat) (b : Int) (L C : List Int) (w : World) (h : Tab w B B' n L C) (h1 : i < n) (h2 : c < 68) :
    Calls Try.prog 12 #[.pointer (some ⟨B, 0, none⟩), .int .i64 i, .int .i64 c, .int .u64 b] w fun r w' => r = .returned (.int .i64 0) ∧ Tab w' B B' n (freeL L i b) (freeC C c) ∧ Keeps B B' w w' ∧ Rest B B' w w' := by
  have hd := h.hd
  have hn := h.hn
  have hne := h.hne
  have hne2 := h.hne.symm
  have c0 := h.ps (i * 4 + 1) (by omega)
  have c2 := h.ps (i * 4 + 3) (by omega)
  have ea : 1 + (c * 2 + 1) = 1 + c * 2 + 1 := by omega
  have cc := h.cl (c * 2 + 1) (by omega)
  rw [ea] at cc
  have EA := Lib.hid ea
  clear ea
  have f := h.fB
  have g := h.fB'
  have HH := Lib.hid h
  clear h
  generalize hx : L.getD (i * 4 + 1) 0 = x at *
  generalize hy : L.getD (i * 4 + 3) 0 = y at *
  generalize hz : C.getD (c * 2 + 1) 0 = z at *
  have HX := Lib.hid hx
  have HY := Lib.hid hy
  have HZ := Lib.hid hz
  clear hx hy hz
  go_enter Try.func12, Try.ntmps12
  go_wp2_with (first | (go_at_call 18; refine (is_yes B B' n _ _ hd (by omega) (by omega)).mono ?_; rintro e w1 ⟨rfl, rfl⟩) | (go_at_call 19; refine (kind_yes _ _ (by omega) (by omega)).mono ?_; rintro e w1 ⟨rfl, rfl⟩))
  go_region
  all_goals (try go_wp2)
  all_goals go_ret
  all_goals refine ⟨rfl, ?_, ?_, (((Rest.refl _ _ _).setP _ _).setP _ _).setC _ _⟩
  all_goals first
    | (unfold freeL freeC plus; rw [HX.out, HY.out, HZ.out, ← EA.out]; exact (((HH.out.setP (by omega) _).setP (by omega) _).setC (by omega) _).drew)
    | (intro W hx g1 g2; exact (((hx.setCell g2 _).setCell g2 _).setCell g1 _).drew)


/-! ### what classes come to -/
def csum (C : List Int) : Nat → Int
  | 0 => 0
  | k + 1 => plus (csum C k) (C.getD (k * 2) 0)
def csumI (C : List Int) : Nat → Int
  | 0 => 0
  | k + 1 => csumI C k + C.getD (k * 2) 0
theorem csum_is (C : List Int) : ∀ k, csum C k = csumI C k % 18446744073709551616
  | 0 => rfl
  | k + 1 => by
    show plus (csum C k) (C.getD (k * 2) 0) = (csumI C k + C.getD (k * 2) 0) % 18446744073709551616
    rw [plus_mod, csum_is C k, Int.emod_add_emod]
theorem csumI_set (C : List Int) (j : Nat) (v : Int) (hj : j * 2 < C.length) : ∀ k, csumI (C.set (j * 2) v) k = csumI C k + if j < k then v - C.getD (j * 2) 0 else 0
  | 0 => by simp [csumI]
  | k + 1 => by
    have ih := csumI_set C j v hj k
    show csumI (C.set (j * 2) v) k + (C.set (j * 2) v).getD (k * 2) 0 = csumI C k + C.getD (k * 2) 0 + _
    rw [ih]
    by_cases h : j = k
    · subst h
      rw [getD_set_same hj, if_neg (by omega), if_pos (by omega)]
      omega
    · rw [getD_set_other (by omega)]
      by_cases e : j < k
      · rw [if_pos e, if_pos (by omega)]; omega
      · rw [if_neg e, if_neg (by omega)]; omega
theorem csumI_set1 (C : List Int) (j : Nat) (v : Int) : ∀ k, csumI (C.set (j * 2 + 1) v) k = csumI C k
  | 0 => rfl
  | k + 1 => by
    show csumI (C.set (j * 2 + 1) v) k + (C.set (j * 2 + 1) v).getD (k * 2) 0 = csumI C k + C.getD (k * 2) 0
    rw [csumI_set1 C j v k, getD_set_other (by omega)]
/-- mallocs by Ps and by classes are as many. -/
def Same (L C : List Int) (n : Nat) : Prop := sumTo L 0 n = csum C 68
theorem same_malloc {L C : List Int} {n i c : Nat} (b : Int) (h : Same L C n) (hi : i < n) (hc : c < 68) (hl : L.length = n * 4) (hC : C.length = 136) : Same (mallocL L i b) (mallocC C c) n := by
  unfold Same at h ⊢
  rw [sumTo_is, csum_is] at h ⊢
  unfold mallocL mallocC
  have e1 := sumI_set (L.set (i * 4) (plus (L.getD (i * 4) 0) 1)) 0 i 2 (plus (L.getD (i * 4 + 2) 0) b) (by omega) (by omega) (by rw [List.length_set]; omega) n
  have e2 := sumI_set0 L 0 i (plus (L.getD (i * 4) 0) 1) (by omega) (by omega) n
  have e3 := csumI_set C c (plus (C.getD (c * 2) 0) 1) (by omega) 68
  rw [if_neg (by omega)] at e1
  rw [if_pos (by omega)] at e2
  rw [if_pos (by omega)] at e3
  rw [e1, e2, e3, plus_mod, plus_mod]
  omega
theorem same_free {L C : List Int} {n i c : Nat} (b : Int) (h : Same L C n) (hi : i < n) (hc : c < 68) (hl : L.length = n * 4) (hC : C.length = 136) : Same (freeL L i b) (freeC C c) n := by
  unfold Same at h ⊢
  rw [sumTo_is, csum_is] at h ⊢
  unfold freeL freeC
  have e1 := sumI_set (L.set (i * 4 + 1) (plus (L.getD (i * 4 + 1) 0) 1)) 0 i 3 (plus (L.getD (i * 4 + 3) 0) b) (by omega) (by omega) (by rw [List.length_set]; omega) n
  have e2 := sumI_set L 0 i 1 (plus (L.getD (i * 4 + 1) 0) 1) (by omega) (by omega) (by omega) n
  rw [if_neg (by omega)] at e1 e2
  rw [e1, e2, csumI_set1]
  omega
theorem same_move {L C : List Int} {n i j : Nat} (h : Same L C n) (hi : i < n) (hj : j < n) (hne : i ≠ j) (hl : L.length = n * 4) : Same (moveL L i j) C n := by
  unfold Same at h ⊢
  rw [move_sum0 L i j n hi hj hne hl]
  exact h

/-! ### the law's memory -/
/-- the table; the law's own counts: Ps in block bp, classes' mallocs in bi, frees in bo. -/
structure PR (W w : World) (bp bi bo n : Nat) (L C L2 C2 : List Int) : Prop where
  tab : Tab w (W.heap.size + 1) W.heap.size n L C
  hl : L2.length = n * 4
  hc : C2.length = 136
  ps : ∀ j, j < n * 4 → w.cell? ⟨bp, j, none⟩ = some (.int .u64 (L2.getD j 0))
  ins : ∀ c, c < 68 → w.cell? ⟨bi, c, none⟩ = some (.int .u64 (C2.getD (c * 2) 0))
  outs : ∀ c, c < 68 → w.cell? ⟨bo, c, none⟩ = some (.int .u64 (C2.getD (c * 2 + 1) 0))
  o1 : W.heap.size + 1 < bp
  o2 : bp < bi
  o3 : bi < bo
  o4 : bo < w.heap.size
  ext : Ext W w

section
variable {W w : World} {bp bi bo n : Nat} {L C L2 C2 : List Int}
theorem PR.later {w' : World} (h : PR W w bp bi bo n L C L2 C2) (hx : Ext w w') : PR W w' bp bi bo n L C L2 C2 := by
  have h1 := h.o1; have h2 := h.o2; have h3 := h.o3; have h4 := h.o4; have h5 := hx.size
  exact ⟨h.tab.later hx, h.hl, h.hc, fun j hj => (hx.cell _ _ (by omega)).trans (h.ps j hj), fun j hj => (hx.cell _ _ (by omega)).trans (h.ins j hj), fun j hj => (hx.cell _ _ (by omega)).trans (h.outs j hj), h1, h2, h3, by omega, h.ext.trans hx⟩
theorem PR.frozen (h : PR W w bp bi bo n L C L2 C2) (b j : Nat) (hb : W.heap.size ≤ b) : w.frozen? ⟨b, j, none⟩ = false := (h.ext.frozen _).trans (frozen_none _ _ _ hb)
theorem PR.call {w' : World} {L' C' : List Int} (h : PR W w bp bi bo n L C L2 C2) (ht : Tab w' (W.heap.size + 1) W.heap.size n L' C') (hk : Keeps (W.heap.size + 1) W.heap.size w w') (hr : Rest (W.heap.size + 1) W.heap.size w w') : PR W w' bp bi bo n L' C' L2 C2 := by
  have h1 := h.o1; have h2 := h.o2; have h3 := h.o3; have h4 := h.o4; have h5 := hr.1
  exact ⟨ht, h.hl, h.hc, fun j hj => (hr.2 _ _ (by omega) (by omega) (by omega)).trans (h.ps j hj), fun j hj => (hr.2 _ _ (by omega) (by omega) (by omega)).trans (h.ins j hj), fun j hj => (hr.2 _ _ (by omega) (by omega) (by omega)).trans (h.outs j hj), h1, h2, h3, by omega, hk W h.ext (by omega) (by omega)⟩
theorem PR.tab_far (h : PR W w bp bi bo n L C L2 C2) {b : Nat} (hb : W.heap.size + 1 < b) (o : Nat) (v : Value) : Tab (w.setCell ⟨b, o, none⟩ v) (W.heap.size + 1) W.heap.size n L C :=
  have t := h.tab
  ⟨t.hn, t.hne, by rw [World.size_setCell]; exact t.hB, by rw [World.size_setCell]; exact t.hB', (set_other (ne_block (by omega))).trans t.hd, t.hL, t.hC, fun j hj => (set_other (ne_block (by omega))).trans (t.cl j hj), fun j hj => (set_other (ne_block (by omega))).trans (t.ps j hj), fun j => (World.frozen?_setCell _ _ _ _).trans (t.fB j), fun j => (World.frozen?_setCell _ _ _ _).trans (t.fB' j)⟩
theorem PR.setP (h : PR W w bp bi bo n L C L2 C2) {j : Nat} (hj : j < n * 4) (v : Int) : PR W (w.setCell ⟨bp, j, none⟩ (.int .u64 v)) bp bi bo n L C (L2.set j v) C2 := by
  have h1 := h.o1; have h2 := h.o2; have h3 := h.o3; have h4 := h.o4
  refine ⟨h.tab_far (by omega) _ _, by rw [List.length_set]; exact h.hl, h.hc, fun k hk => ?_, fun c hc => (set_other (ne_block (by omega))).trans (h.ins c hc), fun c hc => (set_other (ne_block (by omega))).trans (h.outs c hc), h1, h2, h3, by rw [World.size_setCell]; exact h4, h.ext.setCell (by show W.heap.size ≤ bp; omega) _⟩
  by_cases e : j = k
  · subst e
    rw [getD_set_same (by rw [h.hl]; exact hj)]
    exact set_same (h.ps j hj)
  · rw [getD_set_other e]
    exact (set_other (ne_off e)).trans (h.ps k hk)
theorem PR.setI (h : PR W w bp bi bo n L C L2 C2) {c : Nat} (hc : c < 68) (v : Int) : PR W (w.setCell ⟨bi, c, none⟩ (.int .u64 v)) bp bi bo n L C L2 (C2.set (c * 2) v) := by
  have h1 := h.o1; have h2 := h.o2; have h3 := h.o3; have h4 := h.o4
  refine ⟨h.tab_far (by omega) _ _, h.hl, by rw [List.length_set]; exact h.hc, fun k hk => (set_other (ne_block (by omega))).trans (h.ps k hk), fun k hk => ?_, fun k hk => ?_, h1, h2, h3, by rw [World.size_setCell]; exact h4, h.ext.setCell (by show W.heap.size ≤ bi; omega) _⟩
  · by_cases e : c = k
    · subst e
      rw [getD_set_same (by rw [h.hc]; omega)]
      exact set_same (h.ins c hc)
    · rw [getD_set_other (by omega)]
      exact (set_other (ne_off e)).trans (h.ins k hk)
  · rw [getD_set_other (by omega)]
    exact (set_other (ne_block (by omega))).trans (h.outs k hk)
theorem PR.setO (h : PR W w bp bi bo n L C L2 C2) {c : Nat} (hc : c < 68) (v : Int) : PR W (w.setCell ⟨bo, c, none⟩ (.int .u64 v)) bp bi bo n L C L2 (C2.set (c * 2 + 1) v) := by
  have h1 := h.o1; have h2 := h.o2; have h3 := h.o3; have h4 := h.o4
  refine ⟨h.tab_far (by omega) _ _, h.hl, by rw [List.length_set]; exact h.hc, fun k hk => (set_other (ne_block (by omega))).trans (h.ps k hk), fun k hk => ?_, fun k hk => ?_, h1, h2, h3, by rw [World.size_setCell]; exact h4, h.ext.setCell (by show W.heap.size ≤ bo; omega) _⟩
  · rw [getD_set_other (by omega)]
    exact (set_other (ne_block (by omega))).trans (h.ins k hk)
  · by_cases e : c = k
    · subst e
      rw [getD_set_same (by rw [h.hc]; omega)]
      exact set_same (h.outs c hc)
    · rw [getD_set_other (by omega)]
      exact (set_other (ne_off e)).trans (h.outs k hk)
theorem PR.drew (h : PR W w bp bi bo n L C L2 C2) : PR W w.drew bp bi bo n L C L2 C2 := h.later (Ext.refl _).drew
end

end Go.Proofs.Ytdklcflclpmcbaa
