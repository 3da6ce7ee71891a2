/- What SpanCycle asks of its span, and of its own rows. -/
import Derived.Test.YticaamdghjfifaaDoorGrp
import Derived.Test.YticaamdghjfifaaDoorZs
import Derived.Deep.Matrix
namespace Go.Proofs.YticaamdghjfifaaDoor
open Go.RowKit Go.ChangeShapes Go.WideShapes
set_option linter.unusedVariables false

/-! ### plain facts -/
theorem first_free (U : Nat → Bool) (l : Nat) : ∀ d, (∃ r, r < l + d ∧ freeAt U l r) ∨ (∀ j, l ≤ j → j < l + d → U j = true)
  | 0 => .inr fun j h1 h2 => by omega
  | d + 1 => by
    rcases first_free U l d with ⟨r, h1, h2⟩ | h
    · exact .inl ⟨r, by omega, h2⟩
    · cases e : U (l + d)
      · exact .inl ⟨l + d, by omega, by omega, e, h⟩
      · refine .inr fun j h1 h2 => ?_
        by_cases q : j = l + d
        · rw [q, e]
        · exact h j h1 (by omega)
theorem swl_succ (f : Nat → Bool) (n : Nat) : swl f (n + 1) = swl f n ++ (if f n = true then [n] else []) := by
  unfold swl
  rw [List.range_succ, List.filter_append]
  by_cases h : f n = true <;> simp [h]
theorem swl_prefix (f : Nat → Bool) (i : Nat) : ∀ d, ∃ t, swl f (i + d) = swl f i ++ t
  | 0 => ⟨[], by simp⟩
  | d + 1 => by
    obtain ⟨t, ht⟩ := swl_prefix f i d
    exact ⟨t ++ (if f (i + d) = true then [i + d] else []), by rw [show i + (d + 1) = (i + d) + 1 by omega, swl_succ, ht, List.append_assoc]⟩
theorem swl_at (f : Nat → Bool) (i n : Nat) (h : i < n) (hf : f i = true) : (swl f n)[(swl f i).length]? = some i ∧ (swl f i).length < (swl f n).length := by
  obtain ⟨t, ht⟩ := swl_prefix f (i + 1) (n - (i + 1))
  rw [show i + 1 + (n - (i + 1)) = n by omega, swl_succ, if_pos hf] at ht
  rw [ht]
  exact ⟨by simp, by simp⟩
/-- what is not kept, and what is: all. -/
theorem cntB_rest (K : Nat → Bool) : ∀ n, (swl (fun j => !K j) n).length + cntB K n = n
  | 0 => rfl
  | n + 1 => by
    have ih := cntB_rest K n
    rw [swl_succ, cntB_succ, List.length_append]
    cases h : K n <;> simp <;> omega
theorem swl_congr {f g : Nat → Bool} {n : Nat} (h : ∀ j, j < n → f j = g j) : swl f n = swl g n := by
  unfold swl
  exact List.filter_congr fun j hj => h j (by simpa using hj)
theorem bl_cell {w : World} {g n : Nat} {U : Nat → Bool} (h : Blk w g 4 (bl U n)) (j : Nat) (hj : j < n) : w.cell? ⟨g, j, none⟩ = some (.bool (U j)) := by
  rw [h.cell j, bl_get U n j hj]
theorem bl_put {w : World} {g n : Nat} {U V : Nat → Bool} (h : Blk w g 4 (bl U n)) (j : Nat) (x : Bool) (hj : j < n) (hV : ∀ i, i < n → V i = updB U j x i) : Blk (w.setCell ⟨g, j, none⟩ (.bool x)) g 4 (bl V n) := by
  have := h.set_ j (.bool x)
  rw [bl_set U n j x hj] at this
  rwa [bl_congr (V := V) (fun i hi => (hV i hi).symm)] at this

/-! ### the span -/
def sY (c u l : Nat) : Sp := { sNew 7 c false with used := u, look := l }

/-- the span of a class, and the law's row 'used' (V). -/
structure CyS (W w : World) (g c : Nat) (U M : Nat → Bool) (l gu : Nat) (V : Nat → Bool) (R : Nat → Prop) : Prop where
  sp : AwG W w g (sY c (cntB U (slN c)) l) U M R
  row : Blk w gu 4 (bl V (slN c))
  mem : R gu
  high : ∀ j, slN c ≤ j → U j = false

section
variable {W w w' : World} {g c l gu : Nat} {U M V : Nat → Bool} {R : Nat → Prop}
theorem CyS.later (h : CyS W w g c U M l gu V R) (hx : Ext w w') : CyS W w' g c U M l gu V R ∧ Kept R w w' := by
  obtain ⟨h1, h2, h3, h4⟩ := h
  have := h1.later hx
  exact ⟨⟨this.1, h2.kept this.2 h3, h3, h4⟩, this.2⟩
theorem cy_new (c : Nat) (w : World) (hc0 : 1 ≤ c) (hc : c ≤ 67) :
    Calls Tryd.prog 11 #[.int .u64 7, .int .u64 (pgN c : Nat), .int .i64 c, .bool false] w fun r w' => ∃ g, r = .returned (.tuple #[.pointer (some ⟨g, 0, none⟩), .int .i64 0]) ∧ CyS w (w'.alloc (.cells (bl (fun _ => false) (slN c)) 4)) g c noB noB 0 w'.heap.size noB (fun k => k = w'.heap.size) ∧ Ext w w' := by
  have := (tabN_fit c (by omega)).2.1
  refine (aw_new 7 c false w hc0 hc (by omega)).mono ?_
  rintro r w' ⟨g, rfl, h⟩
  refine ⟨g, rfl, ⟨?_, Blk.new _ _ _, rfl, fun _ _ => rfl⟩, h.ext⟩
  have e1 : sY c (cntB noB (slN c)) 0 = sNew 7 c false := by
    have : cntB noB (slN c) = 0 := by unfold cntB swl noB; simp
    rw [this]; rfl
  rw [e1]
  exact ((AwG.of h).row _ _).fewer fun k hk => .inr hk
theorem cy_next (h : CyS W w g c U M l gu U R) (ht : TzAt W) (r : Nat) (hr : r < slN c) (hf : freeAt U l r) :
    Calls Tryd.prog 12 #[.pointer (some ⟨g, 0, none⟩)] w fun q w' => q = .returned (.tuple #[.int .i64 r, .int .i64 0]) ∧ w'.cell? ⟨gu, r, none⟩ = some (.bool false) ∧ w'.frozen? ⟨gu, r, none⟩ = false ∧ CyS W (w'.setCell ⟨gu, r, none⟩ (.bool true)) g c (setB U r 1) M (r + 1) gu (setB U r 1) R := by
  obtain ⟨h1, h2, h3, h4⟩ := h
  have hu := hf.2.1
  refine (g_next h1 ht r (by show (1 : Nat) ≠ 0; decide) hf hr (cntB_lt U _ r hr hu)).mono ?_
  rintro q w' ⟨rfl, hA, hK⟩
  have hb := h2.kept hK h3
  refine ⟨rfl, by rw [bl_cell hb r hr, hu], hb.frozen r, ?_, bl_put hb r true hr (fun i hi => by rw [setB_at]; unfold updB; by_cases q : i = r <;> simp [q]), h3, fun j hj => ?_⟩
  · have e1 : sY c (cntB (setB U r 1) (slN c)) (r + 1) = sNext (sY c (cntB U (slN c)) l) r := by
      rw [cntB_set U _ r hr hu]; rfl
    rw [e1]
    exact hA.set h3 _
  · rw [setB_at, h4 j hj, decide_eq_false (show ¬ j = r by omega)]; rfl
theorem cy_full (h : CyS W w g c U M l gu U R) (ht : TzAt W) (hc : c ≤ 67) (hl : l ≤ slN c) (hall : ∀ j, l ≤ j → j < slN c → U j = true) :
    Calls Tryd.prog 12 #[.pointer (some ⟨g, 0, none⟩)] w fun q w' => q = .returned (.tuple #[.int .i64 0, .int .i64 30]) ∧ CyS W w' g c U M l gu U R := by
  obtain ⟨h1, h2, h3, h4⟩ := h
  have := (tabN_fit c (by omega)).2.2.1
  refine (g_next_full h1 ht (slN c) (by show (1 : Nat) ≠ 0; decide) ⟨hl, h4 _ (Nat.le_refl _), hall⟩ (Nat.le_refl _) (by omega)).mono ?_
  rintro q w' ⟨rfl, hA, hK⟩
  exact ⟨rfl, hA, h2.kept hK h3, h3, h4⟩
theorem cy_used (h : CyS W w g c U M l gu V R) (i : Nat) (hi : i < slN c) (hu : U i = true) :
    Calls Tryd.prog 13 #[.pointer (some ⟨g, 0, none⟩), .int .i64 i] w fun r w' => r = .returned (.bool true) ∧ w = w' := by
  have := g_used h.sp i
  rwa [thereB_lt (s := sY c (cntB U (slN c)) l) (show i < slN c from hi), Int.toNat_natCast, hu] at this
theorem cy_mark_arg (h : CyS W w g c U M l gu V R) (i : Int) (hi : ¬ (0 ≤ i ∧ i < slN c)) :
    Calls Tryd.prog 14 #[.pointer (some ⟨g, 0, none⟩), .int .i64 i] w fun e w' => e = .returned (.int .i64 1) ∧ w = w' := by
  refine g_mark_arg h.sp i rfl ?_
  show (decide (0 ≤ i) && decide (i < (slN c : Int))) = false
  by_cases h0 : 0 ≤ i
  · rw [decide_eq_false (show ¬ i < (slN c : Int) by omega), Bool.and_false]
  · rw [decide_eq_false h0, Bool.false_and]
/-- the law's row 'keep' is the marks. -/
structure CyK (W w : World) (g c : Nat) (U M : Nat → Bool) (l gu gk : Nat) (R : Nat → Prop) : Prop where
  sp : CyS W w g c U M l gu U R
  keep : Blk w gk 4 (bl M (slN c))
  memk : R gk
  all : ∀ j, j < slN c → U j = true
  low : ∀ j, M j = true → j < slN c
theorem CyK.start (h : CyS W w g c U noB l gu U (fun k => k = gu)) (hall : ∀ j, j < slN c → U j = true) : CyK W (w.alloc (.cells (bl (fun _ => false) (slN c)) 4)) g c U noB l gu w.heap.size (fun k => k = gu ∨ k = w.heap.size) := by
  obtain ⟨h1, h2, h3, h4⟩ := h
  exact ⟨⟨h1.row _ _, h2.alloc _, .inl rfl, h4⟩, Blk.new _ _ _, .inr rfl, hall, fun j hj => by cases hj⟩
theorem cy_mark {gk : Nat} (h : CyK W w g c U M l gu gk R) (hne : gu ≠ gk) (i : Nat) (hi : i < slN c) :
    Calls Tryd.prog 14 #[.pointer (some ⟨g, 0, none⟩), .int .i64 i] w fun e w' => e = .returned (.int .i64 0) ∧ (∃ x, w'.cell? ⟨gk, i, none⟩ = some (.bool x)) ∧ w'.frozen? ⟨gk, i, none⟩ = false ∧ Ext W w' ∧ CyK W (w'.setCell ⟨gk, i, none⟩ (.bool true)) g c U (setB M i 1) l gu gk R := by
  obtain ⟨⟨h1, h2, h3, h4⟩, h5, h6, h7, h8⟩ := h
  refine (g_mark h1 i rfl hi).mono ?_
  rintro e w' ⟨rfl, hA, hK⟩
  have hb := h2.kept hK h3
  have hk := h5.kept hK h6
  refine ⟨rfl, ⟨_, bl_cell hk i hi⟩, hk.frozen i, hA.ext, ⟨hA.set h6 _, hb.far (p := ⟨gk, i, none⟩) hne _, h3, h4⟩, bl_put hk i true hi (fun j hj => by rw [setB_at]; unfold updB; by_cases q : j = i <;> simp [q]), h6, h7, fun j hj => ?_⟩
  rw [setB_at] at hj
  by_cases q : j = i
  · omega
  · rw [decide_eq_false q, Bool.or_false] at hj
    exact h8 j hj
/-- behind the sweep: slots below i are gone through. -/
structure CyW (W w : World) (g c : Nat) (K : Nat → Bool) (gu gk : Nat) (R : Nat → Prop) (B : Nat) (v : Value) (i : Nat) : Prop where
  sp : CyS W w g c K noB 0 gu (fun j => K j || decide (i ≤ j)) R
  keep : Blk w gk 4 (bl K (slN c))
  memk : R gk
  row : w.ownsRow B 3 1 v (swl (fun j => !K j) (slN c)).length (ints (swl (fun j => !K j) (slN c)))
  far : gu < B
theorem cy_sweep {gk : Nat} (h : CyK W w g c U M l gu gk R) (ht : TzAt W) :
    Calls Tryd.prog 15 #[.pointer (some ⟨g, 0, none⟩)] w fun r w' => ∃ v, r = .returned (.tuple #[v, .int .i64 0]) ∧ CyW W w' g c M gu gk R w.heap.size v 0 := by
  obtain ⟨⟨h1, h2, h3, h4⟩, h5, h6, h7, h8⟩ := h
  have hU : ∀ j, U j = decide (j < slN c) := fun j => by
    by_cases q : j < slN c
    · rw [h7 j q, decide_eq_true q]
    · rw [h4 j (by omega), decide_eq_false q]
  have eS : swl (gB U M) (slN c) = swl (fun j => !M j) (slN c) := swl_congr fun j hj => by
    unfold gB; rw [h7 j hj, Bool.true_and]
  have hcU : cntB U (slN c) = slN c := cntB_all U _ h7
  have hr := cntB_rest M (slN c)
  have eS' : swl (gB U M) (sY c (cntB U (slN c)) l).slots = swl (fun j => !M j) (slN c) := eS
  refine (g_sweep h1 ht rfl (fun j => ?_) (fun j hj => ?_) ?_).mono ?_
  · unfold zB
    cases e : M j
    · rfl
    · rw [h7 j (h8 j e)]; rfl
  · rw [hU j] at hj; show j < slN c; simpa using hj
  · rw [eS']; show _ ≤ cntB U (slN c); rw [hcU]; omega
  · rintro r w' ⟨v, rfl, ho, hA, hK⟩
    rw [eS'] at ho hA
    refine ⟨v, rfl, ⟨?_, ?_, h3, fun j hj => ?_⟩, h5.kept hK h6, h6, ho, h1.lt gu h3⟩
    · have e1 : sY c (cntB M (slN c)) 0 = sSweep (sY c (cntB U (slN c)) l) (swl (fun j => !M j) (slN c)).length := by
        unfold sSweep sY
        rw [hcU, show slN c - (swl (fun j => !M j) (slN c)).length = cntB M (slN c) by omega]
      rw [e1]
      exact hA
    · have hb := h2.kept hK h3
      rwa [bl_congr (V := fun j => M j || decide (0 ≤ j)) (fun j hj => by rw [h7 j hj]; simp)] at hb
    · cases e : M j
      · rfl
      · have := h8 j e; omega
section
variable {K : Nat → Bool} {gk B i : Nat} {v : Value}
theorem CyW.keepAt (h : CyW W w g c K gu gk R B v i) (hi : i < slN c) : w.cell? ⟨gk, i, none⟩ = some (.bool (K i)) := bl_cell h.keep i hi
theorem CyW.skip (h : CyW W w g c K gu gk R B v i) (hK : K i = true) : CyW W w g c K gu gk R B v (i + 1) := by
  obtain ⟨⟨h1, h2, h3, h4⟩, h5, h6, h7, h8⟩ := h
  refine ⟨⟨h1, ?_, h3, h4⟩, h5, h6, h7, h8⟩
  rwa [bl_congr (V := fun j => K j || decide (i + 1 ≤ j)) (fun j hj => by
    by_cases q : j = i
    · subst q; simp [hK]
    · rw [show decide (i ≤ j) = decide (i + 1 ≤ j) from by rw [decide_eq_decide]; omega])] at h2
theorem CyW.drop (h : CyW W w g c K gu gk R B v i) (hne : gu ≠ gk) (hi : i < slN c) (hK : K i = false) : CyW W (w.setCell ⟨gu, i, none⟩ (.bool false)) g c K gu gk R B v (i + 1) := by
  obtain ⟨⟨h1, h2, h3, h4⟩, h5, h6, h7, h8⟩ := h
  have hc : Chg (fun k => k = gu) w (w.setCell ⟨gu, i, none⟩ (.bool false)) := (Chg.refl (fun k => k = gu) w).setCell (p := ⟨gu, i, none⟩) (.inl rfl) _
  refine ⟨⟨h1.set h3 _, bl_put h2 i false hi (fun j hj => ?_), h3, h4⟩, h5.far (p := ⟨gu, i, none⟩) (fun e => hne e.symm) _, h6, owns_chg h7 hc (fun k hk e => by have := (owns_lt h7 k hk).1; omega), h8⟩
  unfold updB
  by_cases q : j = i
  · subst q; simp [hK]
  · rw [if_neg q]
    show _ = (K j || decide (i ≤ j))
    rw [show decide (i ≤ j) = decide (i + 1 ≤ j) from by rw [decide_eq_decide]; omega]
theorem CyW.form (h : CyW W w g c K gu gk R B v i) : ∃ p cap, v = .slice p (swl (fun j => !K j) (slN c)).length cap := by
  obtain ⟨p, cap, e, -⟩ := owns_form h.row
  exact ⟨p, cap, e⟩
theorem CyW.at_ {p : Option Addr} {m cap : Nat} (h : CyW W w g c K gu gk R B (.slice p m cap) i) (hi : i < slN c) (hK : K i = false) : ∃ gf, p = some ⟨gf, 0, none⟩ ∧ m = (swl (fun j => !K j) (slN c)).length ∧ (swl (fun j => !K j) i).length < (swl (fun j => !K j) (slN c)).length ∧ w.cell? ⟨gf, (swl (fun j => !K j) i).length, none⟩ = some (.int .i64 i) := by
  obtain ⟨e1, e2⟩ := swl_at (fun j => !K j) i (slN c) hi (by simp [hK])
  obtain ⟨p', cap', e, -, -, hp⟩ := owns_form h.row
  cases e
  rcases hp with hp | ⟨gf, rfl, -, -⟩
  · omega
  · refine ⟨gf, rfl, rfl, e2, ?_⟩
    have hcl := h.row.cellAt (swl (fun j => !K j) i).length (by simpa using e2)
    rw [hcl]
    unfold ints
    rw [List.getElem?_map, e1]; rfl
theorem CyW.count (h : CyW W w g c K gu gk R B v i) (hd : (swl (fun j => !K j) i).length + 0 = (swl (fun j => !K j) i).length) (hi : i < slN c) : (swl (fun j => !K j) (i + 1)).length = (swl (fun j => !K j) i).length + (if K i = true then 0 else 1) := by
  rw [swl_succ, List.length_append]
  cases K i <;> simp
theorem cy_info (h : CyW W w g c K gu gk R B v i) :
    Calls Tryd.prog 16 #[.pointer (some ⟨g, 0, none⟩)] w fun r w' => r = .returned (.agg #[.int .u64 57344, .int .i64 (pgN c), .int .i64 1, .int .i64 c, .bool false, .int .i64 (szN c), .int .i64 (slN c), .int .i64 (cntB K (slN c)), .bool false, .bool false]) ∧ CyS W w' g c K noB 0 gu (fun j => K j || decide (i ≤ j)) R := by
  refine (g_info h.sp.sp).mono ?_
  rintro r w' ⟨rfl, hA, hK⟩
  exact ⟨rfl, hA, h.sp.row.kept hK h.sp.mem, h.sp.mem, h.sp.high⟩
theorem CyS.next_cycle (h : CyS W w g c K noB 0 gu (fun j => K j || decide (slN c ≤ j)) R) : CyS W w g c K noB 0 gu K (fun k => k = gu) := by
  obtain ⟨h1, h2, h3, h4⟩ := h
  refine ⟨h1.fewer fun k hk => hk ▸ h3, ?_, rfl, h4⟩
  rwa [bl_congr (V := K) (fun j hj => by rw [decide_eq_false (show ¬ slN c ≤ j by omega), Bool.or_false])] at h2
end
end

end Go.Proofs.YticaamdghjfifaaDoor
