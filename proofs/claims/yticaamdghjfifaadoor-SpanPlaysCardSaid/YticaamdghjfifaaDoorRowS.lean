/- Rows of bits as long as they must be: set. -/
import Derived.Test.YticaamdghjfifaaDoorRowF
import Derived.Deep.LoopGhost
namespace Go.Proofs.YticaamdghjfifaaDoor
open Go.RowKit
set_option linter.unusedVariables false

theorem u64_info : (Tryd.prog.info? 30).map (fun i => (i.zero, i.size, i.bytes)) = some (some (.int .u64 0), 1, 8) := by kernel_rfl

theorem wl_snoc {f : Nat → Bool} {n : Nat} (h : ∀ j, 64 * n ≤ j → f j = false) : wl f n ++ [.int .u64 0] = wl f (n + 1) := by
  unfold wl
  rw [List.range_succ, List.map_append]
  have : word f n = 0 := (eq_word (x := 0) (f := f) (k := n) (by decide) (fun j _ => by rw [Nat.zero_testBit, h _ (by omega)])).symm
  simp [this]

/-- the memory while a row grows and is written: its slice lies at a place of block b. -/
structure SetRel (w wr : World) (b o : Nat) (v : Value) (f : Nat → Bool) (v1 : Value) (n1 : Nat) : Prop where
  row : WRow wr (b + 1) v1 n1 f
  cell : wr.cell? ⟨b, o, none⟩ = some v1
  fz : wr.frozen? ⟨b, o, none⟩ = false
  lt : b < w.heap.size
  chg : Chg (fun k => k = b ∨ v.ownBlock = some k) w wr
  rest : ∀ j, j ≠ o → wr.cell? ⟨b, j, none⟩ = w.cell? ⟨b, j, none⟩
  blk : v1.ownBlock = v.ownBlock ∨ ∃ k, v1.ownBlock = some k ∧ w.heap.size ≤ k

theorem SetRel.start {w : World} {b o n : Nat} {v : Value} {f : Nat → Bool} (h : WRow w (b + 1) v n f) (hc : w.cell? ⟨b, o, none⟩ = some v) (hf : w.frozen? ⟨b, o, none⟩ = false) (hb : b < w.heap.size) : SetRel w w b o v f v n :=
  ⟨h, hc, hf, hb, Chg.refl _ _, fun _ _ => rfl, .inl rfl⟩
theorem SetRel.ne {w wr : World} {b o n1 : Nat} {v v1 : Value} {f : Nat → Bool} (h : SetRel w wr b o v f v1 n1) : ∀ k, v1.ownBlock = some k → k ≠ b := fun k hk => by have := (owns_lt h.row.own k hk).1; omega

theorem SetRel.grown {w wr w1 : World} {b o n1 : Nat} {v v1 v' : Value} {f : Nat → Bool} (h : SetRel w wr b o v f v1 n1) (hfew : n1 + 1 ≤ 1099511627776)
    (hown : w1.ownsRow (b + 1) 30 1 v' (n1 + 1) (wl f n1 ++ [.int .u64 0])) (hc : Chg (fun k => v1.ownBlock = some k) (wr.alloc (.cells #[.int .u64 0] 30)) w1)
    (hat : v'.ownBlock = v1.ownBlock ∨ v'.ownBlock = some (wr.alloc (.cells #[.int .u64 0] 30)).heap.size) : SetRel w (w1.setCell ⟨b, o, none⟩ v') b o v f v' (n1 + 1) := by
  have hbw : b < wr.heap.size := Nat.lt_of_lt_of_le h.lt h.chg.size
  have hx : Chg (fun k => v1.ownBlock = some k) wr w1 := ((Chg.refl (fun k => v1.ownBlock = some k) wr).alloc _ _).trans hc (fun i hi => .inl hi)
  have hnb : ¬ v1.ownBlock = some b := fun e => h.ne b e rfl
  have hcell : ∀ j, w1.cell? ⟨b, j, none⟩ = wr.cell? ⟨b, j, none⟩ := fun j => hx.cell hbw hnb
  refine ⟨⟨?_, fun j hj => h.row.clear j (by omega), hfew⟩, set_same ((hcell o).trans h.cell), ?_, h.lt, ?_, fun j hj => ?_, ?_⟩
  · rw [wl_snoc h.row.clear] at hown
    exact owns_chg hown ((Chg.refl (· = b) w1).setCell (p := ⟨b, o, none⟩) (.inl rfl) v') (fun g hg e => by
      have := (owns_lt hown g hg).1; omega)
  · exact (World.frozen?_setCell _ _ _ _).trans ((hx.frozen _).trans h.fz)
  · refine (h.chg.trans hx (fun i hi => ?_)).setCell (.inl (.inl rfl)) v'
    rcases h.blk with e | ⟨k, e, hk⟩
    · rw [e] at hi; exact .inl (.inr hi)
    · rw [e] at hi; injection hi with hi; exact .inr (by omega)
  · exact (set_other (ne_off (fun e => hj e.symm))).trans ((hcell j).trans (h.rest j hj))
  · rcases hat with e | e
    · rw [e]; exact h.blk
    · refine .inr ⟨_, e, ?_⟩
      rw [World.size_alloc]; exact Nat.le_succ_of_le h.chg.size

theorem SetRel.put {w wr : World} {b o n1 g cap k x : Nat} {v : Value} {f f' : Nat → Bool} (h : SetRel w wr b o v f (.slice (some ⟨g, 0, none⟩) n1 cap) n1) (hk : k < n1) (hx : word f' k = x) (ho : ∀ j, j / 64 ≠ k → f' j = f j) :
    SetRel w (wr.setCell ⟨g, k, none⟩ (.int .u64 (x : Nat))) b o v f' (.slice (some ⟨g, 0, none⟩) n1 cap) n1 := by
  have hgb : g ≠ b := h.ne g rfl
  refine ⟨h.row.set1 k hk x hx ho, (set_other (ne_block hgb)).trans h.cell, (World.frozen?_setCell _ _ _ _).trans h.fz, h.lt, ?_, fun j hj => (set_other (ne_block hgb)).trans (h.rest j hj), h.blk⟩
  refine h.chg.setCell (p := ⟨g, k, none⟩) ?_ _
  rcases h.blk with e | ⟨m, e, hm⟩
  · exact .inl (.inr (e.symm.trans rfl))
  · have e2 : g = m := by simpa [Value.ownBlock] using e
    exact .inr (by show w.heap.size ≤ g; omega)
theorem SetRel.drew {w wr : World} {b o n1 : Nat} {v v1 : Value} {f : Nat → Bool} (h : SetRel w wr b o v f v1 n1) : SetRel w wr.drew b o v f v1 n1 :=
  ⟨h.row.later (Ext.refl _).drew, h.cell, h.fz, h.lt, h.chg.drew, h.rest, h.blk⟩

/-- what set leaves. -/
def SetPost (w : World) (b o : Nat) (v : Value) (f : Nat → Bool) (w' : World) : Prop := ∃ v1 n1, SetRel w w' b o v f v1 n1

set_option maxRecDepth 20000 in
set_option maxHeartbeats 2000000 in
theorem rset_any (b o n i : Nat) (v : Value) (f : Nat → Bool) (w : World) (h : WRow w (b + 1) v n f) (hc : w.cell? ⟨b, o, none⟩ = some v) (hf : w.frozen? ⟨b, o, none⟩ = false) (hb : b < w.heap.size) (hi : i ≤ 70368744177600) :
    Calls Tryd.prog 29 #[.pointer (some ⟨b, o, none⟩), .int .i64 i] w fun r w' => r = .returned (.tuple #[]) ∧ SetPost w b o v (setB f i 1) w' := by
  obtain ⟨i0, hi0, hz0, hz1, hz2⟩ := info_parts u64_info
  have HS := Lib.hid (SetRel.start h hc hf hb)
  clear h hc hf hb
  go_enter Tryd.func29, Tryd.ntmps29
  go_wp2
  go_loopg [] (i / 64 + 1 - n) (fun gk wr => ∃ (v1 : Value) (n1 : Nat), gk = i / 64 + 1 - n1 ∧ Hid (SetRel w wr b o v f v1 n1))
  case atStart => exact ⟨v, n, rfl, HS⟩
  case round =>
    obtain ⟨v1, n1, rfl, hS⟩ := hrel
    clear HS
    obtain ⟨p, cap, rfl, hnc, hcm, hp⟩ := hS.out.row.form
    have hcell := hS.out.cell
    have hfz := hS.out.fz
    have hfew := hS.out.row.few
    have hbl := hS.out.lt
    have hbw := hS.out.chg.size
    by_cases hlt : i / 64 < n1
    · have k1 : decide ((n1 : Int) ≤ (i : Int) / 64) = false := decide_eq_false (by omega)
      rcases hp with hp | ⟨g, rfl, -, hgl, -, hc, hfr⟩
      · omega
      have hc1 := hc (i / 64) hlt
      have hfr1 := hfr (i / 64)
      clear hc hfr
      have HN := Lib.hid (SetRel.drew (hS.out.put (f' := setB f i 1) (x := word f (i / 64) ||| maskN (i % 64) 1) hlt (by
        rw [word_or f (i / 64) (i % 64) 1 (by omega), show 64 * (i / 64) + i % 64 = i by omega]) (fun j hj => by unfold setB inB; rw [decide_eq_false (by omega), Bool.or_false])))
      have HM := Lib.hid (bit_is (i % 64) (by omega))
      have HA := Lib.hid (u64_or_nat (word f (i / 64)) (maskN (i % 64) 1) (word_lt _ _) (maskN_lt _ _ (by omega)))
      have hb := and63 i (by omega)
      generalize word f (i / 64) = x at *
      generalize maskN (i % 64) 1 = m at *
      have HMM := HM.out
      have hlt2 : (i : Int) / 64 < n1 := by omega
      have h63 : (i : Int) % 64 < 64 := by omega
      clear hS
      go_wp2_with fail
      refine wp_region_head 12 (by kernel_rfl) (by kernel_rfl) ?_
      simp only [List.take_succ_cons, List.take_zero, List.drop_succ_cons, List.drop_zero]
      repeat (go_big_quiet_step (fail))
      refine wpQuiet_nil ?_
      go_wp2_with fail
      go_end0
      refine ⟨rfl, .slice (some ⟨g, 0, none⟩) n1 cap, n1, ?_⟩
      rw [HA.out]
      exact HN.out
    · have k1 : decide ((n1 : Int) ≤ (i : Int) / 64) = true := decide_eq_true (by omega)
      have HP := Lib.hid hp
      clear hp
      have hbne : b ≠ wr.heap.size := by omega
      go_wp2_with (first | (at_builtin; refine wpList_append_all (b + 1) _ rfl (.tmp 14) (.tmp 15) 68 rfl 30 i0 _ 1 8 Tryd.underlying68 hi0 hz0 hz1 hz2 rfl (by decide) _ _ _ (by rfl) (by exact owns_later hS.out.row.own (((Ext.refl _).alloc _ _).below)) (.slice (some ⟨wr.heap.size, 0, none⟩) 1 1) 1 [.int .u64 0] (by rfl) (by exact src_one wr [.int .u64 0] _ 1 rfl) (by intro u hu; simp at hu; subst hu; rfl) (by unfold maxLen; omega) (by omega) (by simp; omega) ?_) | fail)
      intro v' w1 hown hchg hat
      obtain ⟨p', cap', rfl, -, -, -⟩ := owns_form hown
      have HN := Lib.hid (hS.out.grown (by omega) hown hchg (by rw [World.size_alloc]; exact hat))
      have hcell1 : w1.cell? ⟨b, o, none⟩ = some (.slice p n1 cap) := by
        refine (hchg.cell (by rw [World.size_alloc]; omega) (fun e => hS.out.ne b e rfl)).trans ?_
        exact (((Ext.refl wr).alloc _ _).cell b o (by omega)).trans hcell
      have hfz1 : w1.frozen? ⟨b, o, none⟩ = false := (hchg.frozen _).trans ((((Ext.refl wr).alloc _ _).frozen _).trans hfz)
      clear hown hchg hat hcell hfz hS HP
      go_wp2_with fail
      go_roundg (i / 64 + 1 - (n1 + 1))
      case measure => omega
      case rel => exact ⟨_, n1 + 1, rfl, HN⟩

end Go.Proofs.YticaamdghjfifaaDoor
