/- The contracts of mallowref13's span: its memory, its functions, Sweep and Info. -/
import Derived.Test.YticaamdghjfifaaDoorGrp
import Derived.Test.YticaamdghjfifaaDoorHead
import Derived.Test.YticaamdghjfifaaDoorSweep2

namespace Go.Proofs.YticaamdghjfifaaDoor
open Go.RowKit
set_option linter.unusedVariables false

theorem rbool_info : (Tryd.prog.info? 4).map (fun i => (i.zero, i.size, i.bytes)) = some (some (.bool false), 1, 1) := by kernel_rfl

/-- a row of truths. -/
def blL (U : Nat → Bool) (n : Nat) : List Value := (List.range n).map fun j => .bool (U j)
theorem blL_len (U : Nat → Bool) (n : Nat) : (blL U n).length = n := by unfold blL; simp
theorem blL_get (U : Nat → Bool) (n j : Nat) (h : j < n) : (blL U n)[j]? = some (.bool (U j)) := by unfold blL; simp [h]
theorem blL_snoc (U : Nat → Bool) (n : Nat) : blL U (n + 1) = blL U n ++ [.bool (U n)] := by unfold blL; rw [List.range_succ, List.map_append]; rfl
theorem blL_congr {U V : Nat → Bool} {n : Nat} (h : ∀ j, j < n → U j = V j) : blL U n = blL V n := by
  unfold blL
  exact List.map_congr_left fun j hj => by rw [h j (List.mem_range.1 hj)]
theorem blL_set (U : Nat → Bool) (n r : Nat) (x : Bool) (h : r < n) : (blL U n).set r (.bool x) = blL (updB U r x) n := by
  refine List.ext_getElem? fun j => ?_
  by_cases hj : j < n
  · rw [blL_get _ n j hj, List.getElem?_set, blL_len]
    unfold updB
    by_cases e : r = j
    · subst e; rw [if_pos rfl, if_pos h, if_pos rfl]
    · rw [if_neg e, if_neg (fun x => e x.symm), blL_get _ n j hj]
  · rw [List.getElem?_eq_none (by rw [List.length_set, blL_len]; omega), List.getElem?_eq_none (by rw [blL_len]; omega)]

/-- a row of truths in memory; all beyond is false. -/
structure BRow (w : World) (B : Nat) (v : Value) (n : Nat) (U : Nat → Bool) : Prop where
  own : w.ownsRow B 4 1 v n (blL U n)
  hi : ∀ j, U j = true → j < n
  small : n ≤ 65536
theorem BRow.later {w w' : World} {B : Nat} {v : Value} {n : Nat} {U : Nat → Bool} (h : BRow w B v n U) (hx : Ext w w') : BRow w' B v n U := ⟨owns_later h.own hx.below, h.hi, h.small⟩
theorem BRow.chg {w w' : World} {B : Nat} {v : Value} {n : Nat} {U : Nat → Bool} {G : Nat → Prop} (h : BRow w B v n U) (hc : Chg G w w') (hd : ∀ g, v.ownBlock = some g → ¬ G g) : BRow w' B v n U := ⟨owns_chg h.own hc hd, h.hi, h.small⟩

set_option maxRecDepth 20000 in
set_option maxHeartbeats 1000000 in
theorem at_any (B : Nat) (v : Value) (n : Nat) (U : Nat → Bool) (i : Int) (w : World) (h : BRow w B v n U) :
    Calls Tryd.prog 55 #[v, .int .i64 i] w fun e w' => e = .returned (.bool (decide (0 ≤ i) && U i.toNat)) ∧ w = w' := by
  have hh := h.hi
  have hn := h.small
  obtain ⟨p, cap, rfl, -, -, hp⟩ := owns_form h.own
  by_cases h0 : 0 ≤ i
  · obtain ⟨k, rfl⟩ : ∃ k : Nat, i = k := ⟨i.toNat, by omega⟩
    have k0 : decide (0 ≤ (k : Int)) = true := decide_eq_true h0
    by_cases hlt : k < n
    · rcases hp with hp | ⟨g, rfl, -, hg⟩
      · omega
      have c0 : w.cell? ⟨g, k, none⟩ = some (.bool (U k)) := by rw [h.own.cellAt k (by omega)]; exact blL_get U n k hlt
      have HE := Lib.hid (show (decide (0 ≤ (k : Int)) && U ((k : Int)).toNat) = U k by rw [k0, Bool.true_and, Int.toNat_natCast])
      clear h hh k0
      generalize U k = x at *
      go_enter Tryd.func55, Tryd.ntmps55
      go_wp2
      go_ret
      rw [HE.out]
      exact ⟨rfl, rfl⟩
    · have hf : U k = false := Bool.eq_false_iff.2 fun e => hlt (hh k e)
      have HE := Lib.hid (show (decide (0 ≤ (k : Int)) && U ((k : Int)).toNat) = false by rw [k0, Bool.true_and, Int.toNat_natCast]; exact hf)
      clear h hh k0 hf hp
      go_enter Tryd.func55, Tryd.ntmps55
      go_wp2
      go_ret
      rw [HE.out]
      exact ⟨rfl, rfl⟩
  · have HE := Lib.hid (show (decide (0 ≤ i) && U i.toNat) = false by rw [decide_eq_false h0]; rfl)
    clear h hh hp
    go_enter Tryd.func55, Tryd.ntmps55
    go_wp2
    go_ret
    rw [HE.out]
    exact ⟨rfl, rfl⟩

def lenV : Value → Nat
  | .slice _ n _ => n
  | _ => 0
/-- what put leaves. -/
structure PutPost (B : Nat) (v : Value) (n' : Nat) (U' : Nat → Bool) (w : World) (v' : Value) (w' : World) : Prop where
  row : BRow w' B v' n' U'
  chg : Chg (fun k => v.ownBlock = some k) w w'
  blk : ∀ g, v'.ownBlock = some g → v.ownBlock = some g ∨ w.heap.size ≤ g
/-- in its loop. -/
structure PutAt (B : Nat) (v : Value) (U : Nat → Bool) (w : World) (v' : Value) (k : Nat) (w' : World) : Prop where
  row : w'.ownsRow B 4 1 v' k (blL U k)
  chg : Chg (fun k => v.ownBlock = some k) w w'
  blk : ∀ g, v'.ownBlock = some g → v.ownBlock = some g ∨ w.heap.size ≤ g
theorem PutAt.step {B : Nat} {v v1 v2 : Value} {U : Nat → Bool} {w w1 w2 : World} {k : Nat} {cs : Array Value} {t : TypeId} (h : PutAt B v U w v1 k w1) (hU : U k = false) (hown : w2.ownsRow B 4 1 v2 (k + 1) (blL U k ++ [.bool false])) (hc : Chg (fun i => v1.ownBlock = some i) (w1.alloc (.cells cs t)) w2) (hat : v2.ownBlock = v1.ownBlock ∨ v2.ownBlock = some (w1.heap.size + 1)) : PutAt B v U w v2 (k + 1) w2 := by
  have hsz := h.chg.size
  refine ⟨by rw [blL_snoc, hU]; exact hown, (h.chg.alloc cs t).trans hc fun i hi => h.blk i hi, fun g hg => ?_⟩
  rcases hat with e | e
  · exact h.blk g (by rw [← e]; exact hg)
  · rw [e] at hg
    injection hg with hg
    exact .inr (by omega)

set_option maxRecDepth 20000 in
set_option maxHeartbeats 2000000 in
theorem put_any (B : Nat) (v : Value) (n : Nat) (U : Nat → Bool) (i : Nat) (x : Bool) (w : World) (h : BRow w B v n U) (hi : i < 65536) (hB : B ≤ w.heap.size) :
    Calls Tryd.prog 56 #[v, .int .i64 i, .bool x] w fun e w' => ∃ v', e = .returned v' ∧ PutPost B v (max n (i + 1)) (updB U i x) w v' w' := by
  obtain ⟨i0, hi0, hz0, hz1, hz2⟩ := info_parts rbool_info
  have HH := Lib.hid h.hi
  have hn := h.small
  have H0 := Lib.hid (show PutAt B v U w v n w from ⟨h.own, Chg.refl _ _, fun g hg => .inl hg⟩)
  obtain ⟨p, cap, rfl, -, -, -⟩ := owns_form h.own
  clear h
  go_enter Tryd.func56, Tryd.ntmps56
  go_wp2
  go_loopw [0] (fun l wr => ∃ k : Nat, n ≤ k ∧ k ≤ max n (i + 1) ∧ Hid (PutAt B (.slice p n cap) U w l k wr)) (fun l _ => i + 1 - lenV l)
  case atStart => exact ⟨n, Nat.le_refl _, by omega, H0⟩
  case round =>
    obtain ⟨k, hk1, hk2, hP⟩ := hrel
    obtain ⟨pk, capk, rfl, -, -, -⟩ := owns_form hP.out.row
    have hsz := hP.out.chg.size
    by_cases hle : k ≤ i
    · have hf : U k = false := Bool.eq_false_iff.2 fun e => by have := HH.out k e; omega
      have HF := Lib.hid hf
      clear hf H0
      go_wp2_with (first | (at_builtin; refine wpList_append_all B _ rfl (.tmp 11) (.tmp 12) 34 rfl 4 i0 _ 1 1 Tryd.underlying34 hi0 hz0 hz1 hz2 rfl (by decide) _ _ _ (by rfl) (by exact owns_later hP.out.row (((Ext.refl _).alloc _ _).below)) (.slice (some ⟨wr.heap.size, 0, none⟩) 1 1) 1 [.bool false] (by rfl) (by exact src_one wr [.bool false] _ 1 rfl) (by intro u hu; simp at hu; subst hu; rfl) (by unfold maxLen; omega) (by omega) (by simp; omega) ?_) | fail)
      intro v2 w2 hown hc hat
      have HN := Lib.hid (hP.out.step HF.out hown hc hat)
      obtain ⟨p2, cap2, rfl, -, -, -⟩ := owns_form hown
      clear hown hc hat hP
      go_wp2_with fail
      go_roundw
      case rel => exact ⟨k + 1, by omega, by omega, HN⟩
      case measure => simp [lenV]; omega
    · obtain rfl : k = max n (i + 1) := by omega
      obtain ⟨pk', capk', e, -, -, hp⟩ := owns_form hP.out.row
      cases e
      rcases hp with hp | ⟨g, rfl, hgB, hgl⟩
      · omega
      have c0 : wr.cell? ⟨g, i, none⟩ = some (.bool (U i)) := by rw [hP.out.row.cellAt i (by omega)]; exact blL_get U _ i (by omega)
      have f0 := hP.out.row.frozenAt i
      have HN := Lib.hid (show PutPost B (.slice p n cap) (max n (i + 1)) (updB U i x) w (.slice (some ⟨g, 0, none⟩) (max n (i + 1)) capk) (wr.setCell ⟨g, i, none⟩ (.bool x)) from ⟨⟨by rw [← blL_set U _ i x (by omega)]; exact (hP.out.row.stored i (.bool x)).1, fun j hj => by
          unfold updB at hj
          by_cases e : j = i
          · omega
          · rw [if_neg e] at hj; have := HH.out j hj; omega, by omega⟩, hP.out.chg.setCell (p := ⟨g, i, none⟩) (hP.out.blk g rfl) _, hP.out.blk⟩)
      have hil : i < max n (i + 1) := by omega
      clear H0 hP
      generalize hm : max n (i + 1) = m at *
      have HMx := Lib.hid hm
      clear hm
      generalize U i = y at *
      go_wp2_with fail
      go_ret
      rw [HMx.out]
      exact ⟨_, rfl, HN.out⟩

theorem cntB_ext {U : Nat → Bool} {n : Nat} (hU : ∀ j, U j = true → j < n) : ∀ d, cntB U (n + d) = cntB U n
  | 0 => rfl
  | d + 1 => by
    rw [← Nat.add_assoc, cntB_succ, cntB_ext hU d, if_neg (fun e => by have := hU _ e; omega)]
    rfl

/-! ### the span -/
structure RsAt (w : World) (b : Nat) (F : Nat → Prop) (page : Nat) (s : Sp) (U M : Nat → Bool) (uv mv : Value) (nu nm : Nat) : Prop where
  blk : Blk w b 78 #[.int .u64 page, .int .u64 s.pages, .int .i64 s.state, .int .i64 s.cls, .bool s.noptr, .int .i64 s.elem, .int .i64 s.slots, uv, mv, .int .i64 s.look]
  u : BRow w (b + 1) uv nu U
  m : BRow w (b + 1) mv nm M
  ne : ∀ g, uv.ownBlock = some g → mv.ownBlock ≠ some g
  nu : nu ≤ s.slots
  nm : nm ≤ s.slots
  fb : F b
  fu : ∀ g, uv.ownBlock = some g → F g
  fm : ∀ g, mv.ownBlock = some g → F g
structure RsIs (w : World) (b : Nat) (F : Nat → Prop) (page : Nat) (s : Sp) (U M : Nat → Bool) : Prop where
  at_ : ∃ uv mv nu nm, RsAt w b F page s U M uv mv nu nm
  lt : ∀ k, F k → k < w.heap.size
  fit : Fit s
  base : s.base = page * 8192
  small : s.slots ≤ 65536
  used : s.used = cntB U s.slots
section
variable {w w' : World} {b page : Nat} {F G : Nat → Prop} {s : Sp} {U M : Nat → Bool} {uv mv : Value} {nu nm : Nat}
theorem RsAt.chg (h : RsAt w b F page s U M uv mv nu nm) (hc : Chg G w w') (hd : ∀ k, F k → ¬ G k) : RsAt w' b F page s U M uv mv nu nm :=
  ⟨h.blk.chg hc (hd b h.fb), h.u.chg hc fun g hg => hd g (h.fu g hg), h.m.chg hc fun g hg => hd g (h.fm g hg), h.ne, h.nu, h.nm, h.fb, h.fu, h.fm⟩
theorem RsIs.chg (h : RsIs w b F page s U M) (hc : Chg G w w') (hd : ∀ k, F k → ¬ G k) : RsIs w' b F page s U M := by
  obtain ⟨⟨uv, mv, nu, nm, h1⟩, h2, h3, h4, h5, h6⟩ := h
  exact ⟨⟨uv, mv, nu, nm, h1.chg hc hd⟩, fun k hk => Nat.lt_of_lt_of_le (h2 k hk) hc.size, h3, h4, h5, h6⟩
theorem RsIs.later (h : RsIs w b F page s U M) (hx : Ext w w') : RsIs w' b F page s U M := h.chg (Chg.of_ext hx (fun _ => False)) fun _ _ h => h

set_option maxHeartbeats 400000 in
theorem risused_any (h : RsIs w b F page s U M) (i : Int) :
    Calls Tryd.prog 45 #[.pointer (some ⟨b, 0, none⟩), .int .i64 i] w fun e w' => e = .returned (.bool (decide (0 ≤ i) && U i.toNat)) ∧ w = w' := by
  obtain ⟨uv, mv, nu, nm, h1⟩ := h.at_
  have c7 : w.cell? ⟨b, 7, none⟩ = some uv := h1.blk.cell 7
  have hb := h1.blk.lt
  have HU := Lib.hid h1.u
  clear h h1
  go_enter Tryd.func45, Tryd.ntmps45
  go_wp2_with (first | (go_at_call 55; refine (at_any _ _ _ _ i _ HU.out).mono ?_; rintro e w1 ⟨rfl, rfl⟩))
  go_ret
  exact ⟨rfl, rfl⟩
set_option maxHeartbeats 400000 in
theorem rmarked_any (h : RsIs w b F page s U M) (i : Int) :
    Calls Tryd.prog 46 #[.pointer (some ⟨b, 0, none⟩), .int .i64 i] w fun e w' => e = .returned (.bool (decide (0 ≤ i) && M i.toNat)) ∧ w = w' := by
  obtain ⟨uv, mv, nu, nm, h1⟩ := h.at_
  have c8 : w.cell? ⟨b, 8, none⟩ = some mv := h1.blk.cell 8
  have hb := h1.blk.lt
  have HU := Lib.hid h1.m
  clear h h1
  go_enter Tryd.func46, Tryd.ntmps46
  go_wp2_with (first | (go_at_call 55; refine (at_any _ _ _ _ i _ HU.out).mono ?_; rintro e w1 ⟨rfl, rfl⟩))
  go_ret
  exact ⟨rfl, rfl⟩
set_option maxHeartbeats 800000 in
theorem rcount_any (h : RsIs w b F page s U M) :
    Calls Tryd.prog 57 #[.pointer (some ⟨b, 0, none⟩)] w fun e w' => e = .returned (.int .i64 s.used) ∧ w = w' := by
  obtain ⟨uv, mv, nu, nm, h1⟩ := h.at_
  have HE := Lib.hid (show s.used = cntB U nu by
    rw [h.used]
    have := cntB_ext h1.u.hi (s.slots - nu)
    rw [show nu + (s.slots - nu) = s.slots by have := h1.nu; omega] at this
    exact this)
  have c7 : w.cell? ⟨b, 7, none⟩ = some uv := h1.blk.cell 7
  have hb := h1.blk.lt
  have hn := h1.u.small
  have HU := Lib.hid h1.u
  obtain ⟨p, cap, rfl, -, -, hp⟩ := owns_form h1.u.own
  have HP := Lib.hid hp
  clear h h1 hp
  go_enter Tryd.func57, Tryd.ntmps57
  go_wp2
  obtain ⟨W, rfl⟩ : ∃ W, W = w := ⟨_, rfl⟩
  go_loopw [3, 4] (fun n i wr => ∃ k m : Nat, k ≤ nu ∧ i = .int .i64 k ∧ n = .int .i64 m ∧ wr = W ∧ m ≤ k ∧ Hid (m = cntB U k)) (fun _ i _ => nu - (intOf i).toNat)
  case atStart => exact ⟨0, 0, by omega, rfl, rfl, rfl, by omega, Lib.hid rfl⟩
  case round =>
    obtain ⟨k, m, hk, rfl, rfl, rfl, hm, hM⟩ := hrel
    by_cases hlt : k < nu
    · have hp := HP.out
      rcases hp with hp | ⟨g, rfl, -, hg⟩
      · omega
      have c0 : wr.cell? ⟨g, k, none⟩ = some (.bool (U k)) := by rw [HU.out.own.cellAt k (by omega)]; exact blL_get U nu k hlt
      have HS := Lib.hid (cntB_succ U k)
      cases hu : U k
      · rw [hu] at c0 HS
        clear hu
        go_wp2_with fail
        go_roundw
        case rel => exact ⟨k + 1, m, by omega, by go_num, rfl, by first | trivial | rfl, by omega, Lib.hid (by rw [HS.out, hM.out]; rfl)⟩
        case measure => simp [intOf]; omega
      · rw [hu] at c0 HS
        clear hu
        go_wp2_with fail
        go_roundw
        case rel => exact ⟨k + 1, m + 1, by omega, by go_num, by go_num, by first | trivial | rfl, by omega, Lib.hid (by rw [HS.out, hM.out]; rfl)⟩
        case measure => simp [intOf]; omega
    · obtain rfl : k = nu := by omega
      go_wp2_with fail
      go_ret
      rw [HE.out, ← hM.out]
      exact ⟨rfl, rfl⟩
end

end Go.Proofs.YticaamdghjfifaaDoor

namespace Go.Proofs.YticaamdghjfifaaDoor
open Go.RowKit
set_option linter.unusedVariables false

theorem setB_upd (U : Nat → Bool) (r : Nat) : setB U r 1 = updB U r true := by
  funext j
  rw [setB_at]
  unfold updB
  by_cases e : j = r
  · rw [if_pos e, decide_eq_true e, Bool.or_true]
  · rw [if_neg e, decide_eq_false e, Bool.or_false]
theorem clrB_upd (U : Nat → Bool) (r : Nat) : clrB U r 1 = updB U r false := by
  funext j
  rw [clrB_at]
  unfold updB
  by_cases e : j = r
  · rw [if_pos e, decide_eq_true e]; simp
  · rw [if_neg e, decide_eq_false e]; simp

/-- what a call of the reference leaves. -/
def RTurn (w : World) (b : Nat) (F : Nat → Prop) (page : Nat) (s' : Sp) (U' M' : Nat → Bool) (w' : World) : Prop := ∃ F', RsIs w' b F' page s' U' M' ∧ Chg F w w' ∧ ∀ k, F' k → F k ∨ w.heap.size ≤ k

section
variable {w w' : World} {b page : Nat} {F G : Nat → Prop} {s s' : Sp} {U M U' M' : Nat → Bool} {uv mv uv' mv' : Value} {nu nm nu' nm' : Nat}

theorem RsIs.turn (h : RsIs w b F page s U M) (hx : Ext w w') : RTurn w b F page s U M w' := ⟨F, h.later hx, Chg.of_ext hx F, fun k hk => .inl hk⟩
/-- the cells of the span itself are written. -/
theorem RsAt.cells (h : RsAt w b F page s U M uv mv nu nm) {cs : Array Value} (hc : Chg (fun k => k = b) w w') (hb : Blk w' b 78 #[.int .u64 page, .int .u64 s'.pages, .int .i64 s'.state, .int .i64 s'.cls, .bool s'.noptr, .int .i64 s'.elem, .int .i64 s'.slots, uv, mv, .int .i64 s'.look]) (hs : s'.slots = s.slots) : RsAt w' b F page s' U M uv mv nu nm :=
  ⟨hb, h.u.chg hc fun g hg e => own_blk_ne h.u.own h.blk (by decide) (by rw [hg, e]), h.m.chg hc fun g hg e => own_blk_ne h.m.own h.blk (by decide) (by rw [hg, e]), h.ne, by rw [hs]; exact h.nu, by rw [hs]; exact h.nm, h.fb, h.fu, h.fm⟩

/-- the row of used slots was put. -/
theorem RsAt.withU {w1 : World} {v' : Value} {n' : Nat} (h : RsAt w b F page s U M uv mv nu nm) (hlt : ∀ k, F k → k < w.heap.size) (hP : PutPost (b + 1) uv n' U' w v' w1) (hn : n' ≤ s.slots) :
    RsAt (w1.setCell ⟨b, 7, none⟩ v') b (fun g => F g ∨ w.heap.size ≤ g ∧ g < w1.heap.size) page s U' M v' mv n' nm ∧ Chg F w (w1.setCell ⟨b, 7, none⟩ v') := by
  have hb1 := h.blk.chg hP.chg (fun e => own_blk_ne h.u.own h.blk (by decide) e)
  have hc : Chg (fun k => k = b) w1 (w1.setCell ⟨b, 7, none⟩ v') := (Chg.refl (fun k => k = b) w1).setCell (p := ⟨b, 7, none⟩) (.inl rfl) _
  have hm1 := h.m.chg hP.chg fun g hg e => h.ne g e hg
  refine ⟨⟨hb1.set_ 7 v', hP.row.chg hc fun g hg e => own_blk_ne hP.row.own hb1 (by decide) (by rw [hg, e]), hm1.chg hc fun g hg e => own_blk_ne hm1.own hb1 (by decide) (by rw [hg, e]), fun g hg hm => ?_, hn, h.nm, .inl h.fb, fun g hg => ?_, fun g hg => .inl (h.fm g hg)⟩, (hP.chg.mono fun i hi => .inl (h.fu i hi)).setCell (p := ⟨b, 7, none⟩) (.inl h.fb) _⟩
  · rcases hP.blk g hg with e | e
    · exact h.ne g e hm
    · have := hlt g (h.fm g hm); omega
  · rcases hP.blk g hg with e | e
    · exact .inl (h.fu g e)
    · exact .inr ⟨e, (owns_lt hP.row.own g hg).2⟩
theorem RsAt.withM {w1 : World} {v' : Value} {n' : Nat} (h : RsAt w b F page s U M uv mv nu nm) (hlt : ∀ k, F k → k < w.heap.size) (hP : PutPost (b + 1) mv n' M' w v' w1) (hn : n' ≤ s.slots) :
    RsAt (w1.setCell ⟨b, 8, none⟩ v') b (fun g => F g ∨ w.heap.size ≤ g ∧ g < w1.heap.size) page s U M' uv v' nu n' ∧ Chg F w (w1.setCell ⟨b, 8, none⟩ v') := by
  have hb1 := h.blk.chg hP.chg (fun e => own_blk_ne h.m.own h.blk (by decide) e)
  have hc : Chg (fun k => k = b) w1 (w1.setCell ⟨b, 8, none⟩ v') := (Chg.refl (fun k => k = b) w1).setCell (p := ⟨b, 8, none⟩) (.inl rfl) _
  have hm1 := h.u.chg hP.chg fun g hg e => h.ne g hg e
  refine ⟨⟨hb1.set_ 8 v', hm1.chg hc fun g hg e => own_blk_ne hm1.own hb1 (by decide) (by rw [hg, e]), hP.row.chg hc fun g hg e => own_blk_ne hP.row.own hb1 (by decide) (by rw [hg, e]), fun g hg hm => ?_, h.nu, hn, .inl h.fb, fun g hg => .inl (h.fu g hg), fun g hg => ?_⟩, (hP.chg.mono fun i hi => .inl (h.fm i hi)).setCell (p := ⟨b, 8, none⟩) (.inl h.fb) _⟩
  · rcases hP.blk g hm with e | e
    · exact h.ne g hg e
    · have := hlt g (h.fu g hg); omega
  · rcases hP.blk g hg with e | e
    · exact .inl (h.fm g e)
    · exact .inr ⟨e, (owns_lt hP.row.own g hg).2⟩
theorem RsIs.usedTurn {w1 : World} {v' : Value} {n' : Nat} (h : RsIs w b F page s U M) (h1 : RsAt w b F page s U M uv mv nu nm) (hP : PutPost (b + 1) uv n' U' w v' w1) (hn : n' ≤ s.slots) (x : Value) (hx : x = .int .i64 s'.look) (e1 : s'.pages = s.pages) (e2 : s'.state = s.state) (e3 : s'.cls = s.cls) (e4 : s'.noptr = s.noptr) (e5 : s'.elem = s.elem) (e6 : s'.slots = s.slots) (e7 : s'.base = s.base) (hf : Fit s') (hu : s'.used = cntB U' s.slots) :
    RTurn w b F page s' U' M ((w1.setCell ⟨b, 7, none⟩ v').setCell ⟨b, 9, none⟩ x) := by
  subst hx
  obtain ⟨h2, hc⟩ := h1.withU h.lt hP hn
  have hc2 : Chg (fun k => k = b) (w1.setCell ⟨b, 7, none⟩ v') ((w1.setCell ⟨b, 7, none⟩ v').setCell ⟨b, 9, none⟩ (.int .i64 s'.look)) := (Chg.refl (fun k => k = b) _).setCell (p := ⟨b, 9, none⟩) (.inl rfl) _
  have hsz := hP.chg.size
  refine ⟨_, ⟨⟨_, _, _, _, h2.cells (s' := s') (cs := #[]) hc2 (by rw [e1, e2, e3, e4, e5, e6]; exact h2.blk.set_ 9 _) e6⟩, fun k hk => ?_, hf, by rw [e7]; exact h.base, by rw [e6]; exact h.small, by rw [e6]; exact hu⟩, hc.trans hc2 fun i hi => .inl (by rw [hi]; exact h1.fb), fun k hk => hk.imp id (·.1)⟩
  rw [World.size_setCell, World.size_setCell]
  rcases hk with hk | hk
  · have := h.lt k hk; omega
  · exact hk.2
theorem fitNext (hfit : Fit s) {r : Nat} (hf : r < s.slots) (hu : s.used < s.slots) : Fit (sNext s r) := ⟨hfit.base, hfit.pages, hfit.cls, hfit.elem0, hfit.elem, hfit.slots, hu, hf, hfit.magic, hfit.state, hfit.bytes⟩

set_option maxHeartbeats 800000 in
theorem rslot_no (h : RsIs w b F page s U M) (i : Int) (ht : thereB s i = false) :
    Calls Tryd.prog 44 #[.pointer (some ⟨b, 0, none⟩), .int .i64 i] w fun r w' => r = .returned (.tuple #[.int .u64 0, .int .i64 1]) ∧ w = w' := by
  obtain ⟨uv, mv, nu, nm, h1⟩ := h.at_
  have c6 : w.cell? ⟨b, 6, none⟩ = some (.int .i64 s.slots) := h1.blk.cell 6
  have hb := h1.blk.lt
  have hsl := h.small
  have hi : i < 0 ∨ (s.slots : Int) ≤ i := by
    unfold thereB at ht
    simp at ht
    omega
  clear h h1 ht
  by_cases h0 : i < 0
  · clear hi
    go_enter Tryd.func44, Tryd.ntmps44
    go_wp2
    go_ret2
    exact ⟨rfl, rfl⟩
  · have hi : (s.slots : Int) ≤ i := by omega
    go_enter Tryd.func44, Tryd.ntmps44
    go_wp2
    go_ret2
    exact ⟨rfl, rfl⟩
set_option maxHeartbeats 800000 in
theorem rslot_yes (h : RsIs w b F page s U M) (n : Nat) (hn : n < s.slots) :
    Calls Tryd.prog 44 #[.pointer (some ⟨b, 0, none⟩), .int .i64 n] w fun r w' => r = .returned (.tuple #[.int .u64 (s.base + n * s.elem : Nat), .int .i64 0]) ∧ Ext w w' := by
  obtain ⟨uv, mv, nu, nm, h1⟩ := h.at_
  have c0 : w.cell? ⟨b, 0, none⟩ = some (.int .u64 page) := h1.blk.cell 0
  have c5 : w.cell? ⟨b, 5, none⟩ = some (.int .i64 s.elem) := h1.blk.cell 5
  have c6 : w.cell? ⟨b, 6, none⟩ = some (.int .i64 s.slots) := h1.blk.cell 6
  have hb := h1.blk.lt
  have hsl := h.small
  have hba := h.fit.base
  have hbp := h.base
  have hel := h.fit.elem
  have hpg : page ≤ 34359738368 := by omega
  have hmul : n * s.elem ≤ 1099511627776 := Nat.le_trans (Nat.mul_le_mul_right _ (Nat.le_of_lt hn)) h.fit.bytes
  have hm1 : (n : Int) * (s.elem : Int) = ((n * s.elem : Nat) : Int) := by push_cast; rfl
  have hm2 : 0 ≤ (n : Int) * (s.elem : Int) := by rw [hm1]; omega
  have hm3 : (n : Int) * (s.elem : Int) ≤ 1099511627776 := by rw [hm1]; omega
  have HE := Lib.hid (show (page : Int) * 8192 + (n : Int) * (s.elem : Int) = ((s.base + n * s.elem : Nat) : Int) by rw [hbp, hm1]; omega)
  clear h h1 hm1 hbp
  go_enter Tryd.func44, Tryd.ntmps44
  go_wp2_with fail
  go_quiet (fail)
  go_wp2
  go_ret2
  refine ⟨?_, (Ext.refl _).drewN' _⟩
  rw [← HE.out]
  rfl

set_option maxHeartbeats 800000 in
theorem rindex_low (h : RsIs w b F page s U M) (x : Int) (h0 : 0 ≤ x) (h1 : x ≤ 18446744073709551615) (hx : x < s.base) :
    Calls Tryd.prog 47 #[.pointer (some ⟨b, 0, none⟩), .int .u64 x] w fun r w' => r = .returned (.tuple #[.int .i64 0, .int .i64 10]) ∧ Ext w w' := by
  obtain ⟨uv, mv, nu, nm, h1'⟩ := h.at_
  have c0 : w.cell? ⟨b, 0, none⟩ = some (.int .u64 page) := h1'.blk.cell 0
  have hb := h1'.blk.lt
  have hba := h.fit.base
  have hbp := h.base
  have hpg : page ≤ 34359738368 := by omega
  have hx2 : x < (page : Int) * 8192 := by omega
  clear h h1' hx hba hbp h1
  go_enter Tryd.func47, Tryd.ntmps47
  go_wp2_with fail
  have kx : decide (x < (page : Int) * 8192) = true := decide_eq_true hx2
  go_quiet (fail)
  go_wp2
  go_ret2
  exact ⟨rfl, (Ext.refl _).drewN' _⟩

set_option maxHeartbeats 800000 in
theorem rnext_dead (h : RsIs w b F page s U M) (hd : s.state = 0) :
    Calls Tryd.prog 38 #[.pointer (some ⟨b, 0, none⟩)] w fun r w' => r = .returned (.tuple #[.int .i64 0, .int .i64 33]) ∧ w = w' := by
  obtain ⟨uv, mv, nu, nm, h1⟩ := h.at_
  have c2 : w.cell? ⟨b, 2, none⟩ = some (.int .i64 s.state) := h1.blk.cell 2
  have hb := h1.blk.lt
  rw [hd] at c2
  clear h h1 hd
  go_enter Tryd.func38, Tryd.ntmps38
  go_wp2
  go_ret2
  exact ⟨rfl, rfl⟩

set_option maxHeartbeats 2000000 in
theorem rnext_any (h : RsIs w b F page s U M) (hd : s.state ≠ 0) (r : Nat) (hr : freeAt U s.look r) (hrs : r ≤ s.slots) (hu : r < s.slots → s.used < s.slots) :
    Calls Tryd.prog 38 #[.pointer (some ⟨b, 0, none⟩)] w fun e w' => if r < s.slots then e = .returned (.tuple #[.int .i64 r, .int .i64 0]) ∧ RTurn w b F page (sNext s r) (updB U r true) M w' else e = .returned (.tuple #[.int .i64 0, .int .i64 30]) ∧ w = w' := by
  obtain ⟨uv, mv, nu, nm, h1⟩ := h.at_
  have HU := Lib.hid h1.u
  have c2 : w.cell? ⟨b, 2, none⟩ = some (.int .i64 s.state) := h1.blk.cell 2
  have c6 : w.cell? ⟨b, 6, none⟩ = some (.int .i64 s.slots) := h1.blk.cell 6
  have c7 : w.cell? ⟨b, 7, none⟩ = some uv := h1.blk.cell 7
  have c9 : w.cell? ⟨b, 9, none⟩ = some (.int .i64 s.look) := h1.blk.cell 9
  have hb := h1.blk.lt
  have hsl := h.small
  have hst := h.fit.state
  have k0 : ((s.state : Int) == 0) = false := beq_eq_false_iff_ne.2 (by omega)
  have hnu := h1.nu
  obtain ⟨hlr, hfr, hall⟩ := hr
  have HFr := Lib.hid hfr
  have HAll := Lib.hid hall
  have H := Lib.hid h
  have H1 := Lib.hid h1
  have HUu := Lib.hid hu
  have HSt := Lib.hid hd
  clear h h1 hfr hall hu hd
  go_enter Tryd.func38, Tryd.ntmps38
  go_wp2
  obtain ⟨W, rfl⟩ : ∃ W, W = w := ⟨_, rfl⟩
  go_loopw [4] (fun i wr => ∃ k : Nat, s.look ≤ k ∧ k ≤ r ∧ i = .int .i64 k ∧ wr = W) (fun i _ => r - (intOf i).toNat)
  case atStart => exact ⟨s.look, Nat.le_refl _, hlr, rfl, rfl⟩
  case round =>
    obtain ⟨k, hk1, hk2, rfl, rfl⟩ := hrel
    have hat := at_any (b + 1) uv nu U k wr HU.out
    by_cases hlt : k < r
    · have he : (decide (0 ≤ (k : Int)) && U ((k : Int)).toNat) = true := by rw [decide_eq_true (by omega), Bool.true_and, Int.toNat_natCast]; exact HAll.out k hk1 hlt
      rw [he] at hat
      have HAt := Lib.hid hat
      clear hat he
      go_wp2_with (first | (go_at_call 55; refine HAt.out.mono ?_; rintro e w1 ⟨rfl, rfl⟩))
      go_roundw
      case rel => exact ⟨k + 1, by omega, by omega, by go_num, by first | trivial | rfl⟩
      case measure => simp [intOf]; omega
    · obtain rfl : k = r := by omega
      have he : (decide (0 ≤ (k : Int)) && U ((k : Int)).toNat) = false := by rw [decide_eq_true (by omega), Bool.true_and, Int.toNat_natCast]; exact HFr.out
      rw [he] at hat
      have HAt := Lib.hid hat
      clear hat he
      by_cases hks : k < s.slots
      · have HKs := Lib.hid hks
        go_wp2_with (first
          | (go_at_call 55; refine HAt.out.mono ?_; rintro e w1 ⟨rfl, rfl⟩)
          | (go_at_call 56; refine (put_any (b + 1) uv nu U k true _ HU.out (by omega) (by omega)).mono ?_; rintro e w1 ⟨v', rfl, hP⟩; have HP := Lib.hid hP; have hbk := H1.out.blk.chg hP.chg (fun e => own_blk_ne HU.out.own H1.out.blk (by decide) e); obtain ⟨pv, capv, rfl, -, -, -⟩ := owns_form hP.row.own; have d7 : w1.cell? ⟨b, 7, none⟩ = some uv := hbk.cell 7; have d9 : w1.cell? ⟨b, 9, none⟩ = some (.int .i64 s.look) := hbk.cell 9; have f7 := hbk.frozen 7; have f9 := hbk.frozen 9; have hb1 := hbk.lt; have HN := Lib.hid (RsIs.usedTurn (s' := sNext s k) H.out H1.out hP (by omega) (.int .i64 ((k : Int) + 1)) rfl rfl rfl rfl rfl rfl rfl rfl (fitNext H.out.fit HKs.out (HUu.out HKs.out)) (by show s.used + 1 = cntB _ s.slots; rw [← setB_upd, cntB_set U _ k HKs.out HFr.out, ← H.out.used])); clear hP hbk c2 c6 c7 c9))
        go_ret2
        exact ⟨rfl, HN.out⟩
      · have HKs := Lib.hid hks
        go_wp2_with (first | (go_at_call 55; refine HAt.out.mono ?_; rintro e w1 ⟨rfl, rfl⟩))
        go_ret2
        exact ⟨rfl, rfl⟩
end

end Go.Proofs.YticaamdghjfifaaDoor

namespace Go.Proofs.YticaamdghjfifaaDoor
open Go.RowKit
set_option linter.unusedVariables false

section
variable {w w' : World} {b page : Nat} {F G : Nat → Prop} {s s' : Sp} {U M U' M' : Nat → Bool} {uv mv uv' mv' : Value} {nu nm nu' nm' : Nat}

set_option maxHeartbeats 800000 in
theorem rindex_high (h : RsIs w b F page s U M) (x : Int) (h1 : x ≤ 18446744073709551615) (hx : (s.base : Int) + (s.slots : Int) * (s.elem : Int) ≤ x) :
    Calls Tryd.prog 47 #[.pointer (some ⟨b, 0, none⟩), .int .u64 x] w fun r w' => r = .returned (.tuple #[.int .i64 0, .int .i64 10]) ∧ Ext w w' := by
  obtain ⟨uv, mv, nu, nm, h1'⟩ := h.at_
  have c0 : w.cell? ⟨b, 0, none⟩ = some (.int .u64 page) := h1'.blk.cell 0
  have c5 : w.cell? ⟨b, 5, none⟩ = some (.int .i64 s.elem) := h1'.blk.cell 5
  have c6 : w.cell? ⟨b, 6, none⟩ = some (.int .i64 s.slots) := h1'.blk.cell 6
  have hb := h1'.blk.lt
  have hba := h.fit.base
  have hbp := h.base
  have hsl := h.small
  have hel := h.fit.elem
  have hel0 := h.fit.elem0
  have hpg : page ≤ 34359738368 := by omega
  have hm1 : (s.slots : Int) * (s.elem : Int) = ((s.slots * s.elem : Nat) : Int) := by push_cast; rfl
  have hk : 0 ≤ x - (page : Int) * 8192 := by rw [hm1] at hx; omega
  have k0 : decide (x < (page : Int) * 8192) = false := decide_eq_false (by omega)
  have k3 : x - (page : Int) * 8192 ≤ 18446744073709551615 := by omega
  have k1 : decide ((s.slots : Int) ≤ (x - (page : Int) * 8192) / (s.elem : Int)) = true := decide_eq_true ((Int.le_ediv_iff_mul_le (by omega)).2 (by rw [hbp] at hx; omega))
  have k2 : decide ((s.slots : Int) ≤ (x - (page : Int) * 8192).tdiv (s.elem : Int)) = true := by rw [Int.tdiv_eq_ediv_of_nonneg hk]; exact k1
  have k5 : ((s.elem : Int) == 0) = false := beq_eq_false_iff_ne.2 (by omega)
  have q0 : 0 ≤ (x - (page : Int) * 8192) / (s.elem : Int) := Int.ediv_nonneg hk (by omega)
  have q1 : (x - (page : Int) * 8192) / (s.elem : Int) ≤ 18446744073709551615 := Int.le_trans (Int.ediv_le_self _ hk) k3
  clear h h1' hx hba hbp hm1 h1
  go_enter Tryd.func47, Tryd.ntmps47
  go_wp2_with fail
  go_quiet (fail)
  go_wp2
  go_ret2
  exact ⟨rfl, (Ext.refl _).drewN' _⟩

set_option maxHeartbeats 800000 in
theorem rindex_yes (h : RsIs w b F page s U M) (x : Int) (hx0 : (s.base : Int) ≤ x) (hx : x < (s.base : Int) + (s.slots : Int) * (s.elem : Int)) :
    Calls Tryd.prog 47 #[.pointer (some ⟨b, 0, none⟩), .int .u64 x] w fun r w' => r = .returned (.tuple #[.int .i64 ((x - s.base) / s.elem), .int .i64 0]) ∧ Ext w w' := by
  obtain ⟨uv, mv, nu, nm, h1'⟩ := h.at_
  have c0 : w.cell? ⟨b, 0, none⟩ = some (.int .u64 page) := h1'.blk.cell 0
  have c5 : w.cell? ⟨b, 5, none⟩ = some (.int .i64 s.elem) := h1'.blk.cell 5
  have c6 : w.cell? ⟨b, 6, none⟩ = some (.int .i64 s.slots) := h1'.blk.cell 6
  have hb := h1'.blk.lt
  have hba := h.fit.base
  have hbp := h.base
  have hsl := h.small
  have hel := h.fit.elem
  have hel0 := h.fit.elem0
  have hby := h.fit.bytes
  have hpg : page ≤ 34359738368 := by omega
  have hm1 : (s.slots : Int) * (s.elem : Int) = ((s.slots * s.elem : Nat) : Int) := by push_cast; rfl
  have hk : 0 ≤ x - (page : Int) * 8192 := by omega
  have k0 : decide (x < (page : Int) * 8192) = false := decide_eq_false (by omega)
  have k3 : x - (page : Int) * 8192 ≤ 1099511627776 := by rw [hm1] at hx; omega
  have k1 : decide ((s.slots : Int) ≤ (x - (page : Int) * 8192) / (s.elem : Int)) = false := decide_eq_false (by
    rw [Int.le_ediv_iff_mul_le (by omega)]
    rw [hbp] at hx; omega)
  have k2 : decide ((s.slots : Int) ≤ (x - (page : Int) * 8192).tdiv (s.elem : Int)) = false := by rw [Int.tdiv_eq_ediv_of_nonneg hk]; exact k1
  have k5 : ((s.elem : Int) == 0) = false := beq_eq_false_iff_ne.2 (by omega)
  have q0 : 0 ≤ (x - (page : Int) * 8192) / (s.elem : Int) := Int.ediv_nonneg hk (by omega)
  have q1 : (x - (page : Int) * 8192) / (s.elem : Int) ≤ 1099511627776 := Int.le_trans (Int.ediv_le_self _ hk) k3
  have HB := Lib.hid (show (s.base : Int) = (page : Int) * 8192 by omega)
  clear h h1' hx hx0 hba hbp hm1 hby
  go_enter Tryd.func47, Tryd.ntmps47
  go_wp2_with fail
  go_quiet (fail)
  go_wp2
  go_ret2
  rw [HB.out]
  exact ⟨rfl, (Ext.refl _).drewN' _⟩

/-! ### Give -/
set_option maxHeartbeats 800000 in
theorem rgive_state (h : RsIs w b F page s U M) (i : Int) (hd : s.state ≠ 2) :
    Calls Tryd.prog 39 #[.pointer (some ⟨b, 0, none⟩), .int .i64 i] w fun r w' => r = .returned (.int .i64 33) ∧ w = w' := by
  obtain ⟨uv, mv, nu, nm, h1⟩ := h.at_
  have c2 : w.cell? ⟨b, 2, none⟩ = some (.int .i64 s.state) := h1.blk.cell 2
  have hb := h1.blk.lt
  have hst := h.fit.state
  have k0 : ((s.state : Int) != 2) = true := bne_iff_ne.2 (by omega)
  clear h h1 hd
  go_enter Tryd.func39, Tryd.ntmps39
  go_wp2
  go_ret
  exact ⟨rfl, rfl⟩
set_option maxHeartbeats 800000 in
theorem rgive_arg (h : RsIs w b F page s U M) (i : Int) (hd : s.state = 2) (ht : thereB s i = false) :
    Calls Tryd.prog 39 #[.pointer (some ⟨b, 0, none⟩), .int .i64 i] w fun r w' => r = .returned (.int .i64 1) ∧ w = w' := by
  obtain ⟨uv, mv, nu, nm, h1⟩ := h.at_
  have c2 : w.cell? ⟨b, 2, none⟩ = some (.int .i64 s.state) := h1.blk.cell 2
  have c6 : w.cell? ⟨b, 6, none⟩ = some (.int .i64 s.slots) := h1.blk.cell 6
  have hb := h1.blk.lt
  have hsl := h.small
  have hi : i < 0 ∨ (s.slots : Int) ≤ i := by
    unfold thereB at ht
    simp at ht
    omega
  rw [hd] at c2
  clear h h1 ht hd
  by_cases h0 : i < 0
  · clear hi
    go_enter Tryd.func39, Tryd.ntmps39
    go_wp2
    go_ret
    exact ⟨rfl, rfl⟩
  · have hi : (s.slots : Int) ≤ i := by omega
    go_enter Tryd.func39, Tryd.ntmps39
    go_wp2
    go_ret
    exact ⟨rfl, rfl⟩
set_option maxHeartbeats 800000 in
theorem rgive_free (h : RsIs w b F page s U M) (n : Nat) (hd : s.state = 2) (hn : n < s.slots) (hu : U n = false) :
    Calls Tryd.prog 39 #[.pointer (some ⟨b, 0, none⟩), .int .i64 n] w fun r w' => r = .returned (.int .i64 31) ∧ w = w' := by
  obtain ⟨uv, mv, nu, nm, h1⟩ := h.at_
  have c2 : w.cell? ⟨b, 2, none⟩ = some (.int .i64 s.state) := h1.blk.cell 2
  have c6 : w.cell? ⟨b, 6, none⟩ = some (.int .i64 s.slots) := h1.blk.cell 6
  have c7 : w.cell? ⟨b, 7, none⟩ = some uv := h1.blk.cell 7
  have hb := h1.blk.lt
  have hsl := h.small
  rw [hd] at c2
  have hat := at_any (b + 1) uv nu U n w h1.u
  rw [show (decide (0 ≤ (n : Int)) && U ((n : Int)).toNat) = false by rw [decide_eq_true (by omega), Bool.true_and, Int.toNat_natCast]; exact hu] at hat
  have HAt := Lib.hid hat
  clear h h1 hd hu hat
  go_enter Tryd.func39, Tryd.ntmps39
  go_wp2_with (first | (go_at_call 55; refine HAt.out.mono ?_; rintro e w1 ⟨rfl, rfl⟩))
  go_ret
  exact ⟨rfl, rfl⟩
theorem fitGive (hfit : Fit s) {n : Nat} (hn : n < s.slots) : Fit (sGive s n) := ⟨hfit.base, hfit.pages, hfit.cls, hfit.elem0, hfit.elem, hfit.slots, by have := hfit.used; show s.used - 1 ≤ s.slots; omega, by have := hfit.look; show min s.look n ≤ s.slots; omega, hfit.magic, hfit.state, hfit.bytes⟩
/-- a used slot is no longer. -/
theorem RsAt.offU (h : RsAt w b F page s U M uv mv nu nm) {g cap n : Nat} (he : uv = .slice (some ⟨g, 0, none⟩) nu cap) (hn : n < nu) : RsAt (w.setCell ⟨g, n, none⟩ (.bool false)) b F page s (updB U n false) M uv mv nu nm ∧ Chg F w (w.setCell ⟨g, n, none⟩ (.bool false)) := by
  subst he
  have hc : Chg (fun k => k = g) w (w.setCell ⟨g, n, none⟩ (.bool false)) := (Chg.refl (fun k => k = g) w).setCell (p := ⟨g, n, none⟩) (.inl rfl) _
  have hgb : g ≠ b := fun e => own_blk_ne h.u.own h.blk (by decide) (by rw [← e]; rfl)
  refine ⟨⟨h.blk.far (p := ⟨g, n, none⟩) (fun e => hgb e.symm) _, ⟨by rw [← blL_set U nu n false hn]; exact (h.u.own.stored n _).1, fun j hj => ?_, h.u.small⟩, h.m.chg hc fun k hk e => h.ne g rfl (by rw [hk, e]), h.ne, h.nu, h.nm, h.fb, h.fu, h.fm⟩, (Chg.refl F w).setCell (p := ⟨g, n, none⟩) (.inl (h.fu g rfl)) _⟩
  unfold updB at hj
  by_cases e : j = n
  · rw [if_pos e] at hj; cases hj
  · rw [if_neg e] at hj; exact h.u.hi j hj
set_option maxHeartbeats 2000000 in
theorem rgive_yes (h : RsIs w b F page s U M) (n : Nat) (hd : s.state = 2) (hn : n < s.slots) (hu : U n = true) :
    Calls Tryd.prog 39 #[.pointer (some ⟨b, 0, none⟩), .int .i64 n] w fun r w' => r = .returned (.int .i64 0) ∧ RTurn w b F page (sGive s n) (updB U n false) M w' := by
  obtain ⟨uv, mv, nu, nm, h1⟩ := h.at_
  have c2 : w.cell? ⟨b, 2, none⟩ = some (.int .i64 s.state) := h1.blk.cell 2
  have c6 : w.cell? ⟨b, 6, none⟩ = some (.int .i64 s.slots) := h1.blk.cell 6
  have c7 : w.cell? ⟨b, 7, none⟩ = some uv := h1.blk.cell 7
  have c9 : w.cell? ⟨b, 9, none⟩ = some (.int .i64 s.look) := h1.blk.cell 9
  have f9 := h1.blk.frozen 9
  have hb := h1.blk.lt
  have hsl := h.small
  have hlk := h.fit.look
  rw [hd] at c2
  have hnu := h1.u.hi n hu
  have hat := at_any (b + 1) uv nu U n w h1.u
  rw [show (decide (0 ≤ (n : Int)) && U ((n : Int)).toNat) = true by rw [decide_eq_true (by omega), Bool.true_and, Int.toNat_natCast]; exact hu] at hat
  have HAt := Lib.hid hat
  have hown := h1.u.own
  obtain ⟨p, cap, hv, -, -, hp⟩ := owns_form hown
  rcases hp with hp | ⟨g, hpg, hg1, hg2⟩
  · omega
  subst hpg
  have hv' := hv
  subst hv
  have ca : w.cell? ⟨g, n, none⟩ = some (.bool (U n)) := by rw [hown.cellAt n (by omega)]; exact blL_get U nu n hnu
  have fa := hown.frozenAt n
  have hgb : g ≠ b := by omega
  have hgb2 : b ≠ g := by omega
  obtain ⟨h2, hc2⟩ := h1.offU rfl hnu
  have hfit := fitGive h.fit hn
  have hus : s.used - 1 = cntB (updB U n false) s.slots := by rw [← clrB_upd, cntB_clr U _ n hn hu, ← h.used]
  have HN1 := Lib.hid (show s.look ≤ n → RTurn w b F page (sGive s n) (updB U n false) M (w.setCell ⟨g, n, none⟩ (.bool false)) from fun hln => ⟨F, ⟨⟨_, _, _, _, ⟨by
      have := h2.blk
      show Blk _ _ _ #[_, _, _, _, _, _, _, _, _, .int .i64 (min s.look n : Nat)]
      rw [Nat.min_eq_left hln]; exact this, h2.u, h2.m, h2.ne, h2.nu, h2.nm, h2.fb, h2.fu, h2.fm⟩⟩, fun k hk => by rw [World.size_setCell]; exact h.lt k hk, hfit, h.base, h.small, hus⟩, hc2, fun k hk => .inl hk⟩)
  have HN2 := Lib.hid (show n < s.look → RTurn w b F page (sGive s n) (updB U n false) M ((w.setCell ⟨g, n, none⟩ (.bool false)).setCell ⟨b, 9, none⟩ (.int .i64 n)) from fun hln => by
    have hc3 : Chg (fun k => k = b) (w.setCell ⟨g, n, none⟩ (.bool false)) ((w.setCell ⟨g, n, none⟩ (.bool false)).setCell ⟨b, 9, none⟩ (.int .i64 n)) := (Chg.refl (fun k => k = b) _).setCell (p := ⟨b, 9, none⟩) (.inl rfl) _
    exact ⟨F, ⟨⟨_, _, _, _, h2.cells (s' := sGive s n) (cs := #[]) hc3 (by
      have := h2.blk.set_ 9 (.int .i64 n)
      show Blk _ _ _ #[_, _, _, _, _, _, _, _, _, .int .i64 (min s.look n : Nat)]
      rw [Nat.min_eq_right (by omega)]; exact this) rfl⟩, fun k hk => by rw [World.size_setCell, World.size_setCell]; exact h.lt k hk, hfit, h.base, h.small, hus⟩, hc2.trans hc3 fun i hi => .inl (by rw [hi]; exact h1.fb), fun k hk => .inl hk⟩)
  clear h h1 hd hu hat hown h2 hc2 hfit hus hv'
  by_cases hln : n < s.look
  · have HN := Lib.hid (HN2.out hln)
    go_enter Tryd.func39, Tryd.ntmps39
    go_wp2_with (first | (go_at_call 55; refine HAt.out.mono ?_; rintro e w1 ⟨rfl, rfl⟩))
    go_ret
    exact ⟨rfl, HN.out⟩
  · have HN := Lib.hid (HN1.out (by omega))
    go_enter Tryd.func39, Tryd.ntmps39
    go_wp2_with (first | (go_at_call 55; refine HAt.out.mono ?_; rintro e w1 ⟨rfl, rfl⟩))
    go_ret
    exact ⟨rfl, HN.out⟩

/-! ### SetMark -/
set_option maxHeartbeats 800000 in
theorem rmark_state (h : RsIs w b F page s U M) (i : Int) (hd : s.state ≠ 1) :
    Calls Tryd.prog 40 #[.pointer (some ⟨b, 0, none⟩), .int .i64 i] w fun r w' => r = .returned (.int .i64 33) ∧ w = w' := by
  obtain ⟨uv, mv, nu, nm, h1⟩ := h.at_
  have c2 : w.cell? ⟨b, 2, none⟩ = some (.int .i64 s.state) := h1.blk.cell 2
  have hb := h1.blk.lt
  have hst := h.fit.state
  have k0 : ((s.state : Int) != 1) = true := bne_iff_ne.2 (by omega)
  clear h h1 hd
  go_enter Tryd.func40, Tryd.ntmps40
  go_wp2
  go_ret
  exact ⟨rfl, rfl⟩
set_option maxHeartbeats 800000 in
theorem rmark_arg (h : RsIs w b F page s U M) (i : Int) (hd : s.state = 1) (ht : thereB s i = false) :
    Calls Tryd.prog 40 #[.pointer (some ⟨b, 0, none⟩), .int .i64 i] w fun r w' => r = .returned (.int .i64 1) ∧ w = w' := by
  obtain ⟨uv, mv, nu, nm, h1⟩ := h.at_
  have c2 : w.cell? ⟨b, 2, none⟩ = some (.int .i64 s.state) := h1.blk.cell 2
  have c6 : w.cell? ⟨b, 6, none⟩ = some (.int .i64 s.slots) := h1.blk.cell 6
  have hb := h1.blk.lt
  have hsl := h.small
  have hi : i < 0 ∨ (s.slots : Int) ≤ i := by
    unfold thereB at ht
    simp at ht
    omega
  rw [hd] at c2
  clear h h1 ht hd
  by_cases h0 : i < 0
  · clear hi
    go_enter Tryd.func40, Tryd.ntmps40
    go_wp2
    go_ret
    exact ⟨rfl, rfl⟩
  · have hi : (s.slots : Int) ≤ i := by omega
    go_enter Tryd.func40, Tryd.ntmps40
    go_wp2
    go_ret
    exact ⟨rfl, rfl⟩
set_option maxHeartbeats 2000000 in
theorem rmark_yes (h : RsIs w b F page s U M) (n : Nat) (hd : s.state = 1) (hn : n < s.slots) :
    Calls Tryd.prog 40 #[.pointer (some ⟨b, 0, none⟩), .int .i64 n] w fun r w' => r = .returned (.int .i64 0) ∧ RTurn w b F page s U (updB M n true) w' := by
  obtain ⟨uv, mv, nu, nm, h1⟩ := h.at_
  have c2 : w.cell? ⟨b, 2, none⟩ = some (.int .i64 s.state) := h1.blk.cell 2
  have c6 : w.cell? ⟨b, 6, none⟩ = some (.int .i64 s.slots) := h1.blk.cell 6
  have c8 : w.cell? ⟨b, 8, none⟩ = some mv := h1.blk.cell 8
  have hb := h1.blk.lt
  have hsl := h.small
  have hnm := h1.nm
  rw [hd] at c2
  have HM := Lib.hid h1.m
  have H := Lib.hid h
  have H1 := Lib.hid h1
  clear h h1 hd
  go_enter Tryd.func40, Tryd.ntmps40
  go_wp2_with (first
    | (go_at_call 56; refine (put_any (b + 1) mv nm M n true _ HM.out (by omega) (by omega)).mono ?_; rintro e w1 ⟨v', rfl, hP⟩; have hbk := H1.out.blk.chg hP.chg (fun e => own_blk_ne HM.out.own H1.out.blk (by decide) e); obtain ⟨h2, hc2⟩ := H1.out.withM H.out.lt hP (by omega); have hsz := hP.chg.size; have HN := Lib.hid (show RTurn w b F page s U (updB M n true) (w1.setCell ⟨b, 8, none⟩ v') from ⟨_, ⟨⟨_, _, _, _, h2⟩, fun k hk => by rw [World.size_setCell]; exact hk.elim (fun hk => Nat.lt_of_lt_of_le (H.out.lt k hk) hsz) (·.2), H.out.fit, H.out.base, H.out.small, H.out.used⟩, hc2, fun k hk => hk.imp id (·.1)⟩); obtain ⟨pv, capv, rfl, -, -, -⟩ := owns_form hP.row.own; have d8 : w1.cell? ⟨b, 8, none⟩ = some mv := hbk.cell 8; have f8 := hbk.frozen 8; have hb1 := hbk.lt; clear hP hbk c2 c6 c8 h2 hc2 hsz))
  go_ret
  exact ⟨rfl, HN.out⟩

/-! ### Die -/
set_option maxHeartbeats 800000 in
theorem rdie_no (h : RsIs w b F page s U M) (hd : s.state = 0 ∨ 0 < s.used) :
    Calls Tryd.prog 43 #[.pointer (some ⟨b, 0, none⟩)] w fun r w' => r = .returned (.int .i64 33) ∧ w = w' := by
  obtain ⟨uv, mv, nu, nm, h1⟩ := h.at_
  have c2 : w.cell? ⟨b, 2, none⟩ = some (.int .i64 s.state) := h1.blk.cell 2
  have hb := h1.blk.lt
  have hst := h.fit.state
  have hus := h.fit.used
  have hsl := h.small
  have HC := Lib.hid (rcount_any h)
  by_cases h0 : s.state = 0
  · rw [h0] at c2
    clear h h1 hd h0
    go_enter Tryd.func43, Tryd.ntmps43
    go_wp2
    go_ret
    exact ⟨rfl, rfl⟩
  · have hu : 0 < s.used := by omega
    have k0 : ((s.state : Int) == 0) = false := beq_eq_false_iff_ne.2 (by omega)
    have k1 : decide (0 < s.used) = true := decide_eq_true hu
    have k2 : decide (0 < (s.used : Int)) = true := decide_eq_true (by omega)
    clear h h1 hd h0
    go_enter Tryd.func43, Tryd.ntmps43
    go_wp2_with (first | (go_at_call 57; refine HC.out.mono ?_; rintro e w1 ⟨rfl, rfl⟩))
    go_ret
    exact ⟨rfl, rfl⟩
theorem fitDie (hfit : Fit s) : Fit (sDie s) := ⟨hfit.base, hfit.pages, hfit.cls, hfit.elem0, hfit.elem, hfit.slots, Nat.zero_le _, hfit.look, hfit.magic, by show 0 ≤ 2; omega, hfit.bytes⟩
theorem cntB_none : ∀ n, cntB (fun _ => false) n = 0
  | 0 => rfl
  | n + 1 => by rw [cntB_succ, cntB_none n]; rfl
theorem brow_nil (w : World) (B : Nat) : BRow w B (.slice none 0 0) 0 (fun _ => false) := ⟨owns_nil _ _ _ _, (fun j hj => by cases hj), Nat.zero_le _⟩
set_option maxHeartbeats 2000000 in
theorem rdie_yes (h : RsIs w b F page s U M) (hd : s.state ≠ 0) (hu : s.used = 0) :
    Calls Tryd.prog 43 #[.pointer (some ⟨b, 0, none⟩)] w fun r w' => r = .returned (.int .i64 0) ∧ RTurn w b F page (sDie s) (fun _ => false) (fun _ => false) w' := by
  obtain ⟨uv, mv, nu, nm, h1⟩ := h.at_
  have c2 : w.cell? ⟨b, 2, none⟩ = some (.int .i64 s.state) := h1.blk.cell 2
  have c7 : w.cell? ⟨b, 7, none⟩ = some uv := h1.blk.cell 7
  have c8 : w.cell? ⟨b, 8, none⟩ = some mv := h1.blk.cell 8
  have f2 := h1.blk.frozen 2
  have f7 := h1.blk.frozen 7
  have f8 := h1.blk.frozen 8
  have hb := h1.blk.lt
  have hst := h.fit.state
  have HC := Lib.hid (rcount_any h)
  rw [hu] at HC
  have k0 : ((s.state : Int) == 0) = false := beq_eq_false_iff_ne.2 (by omega)
  have HN := Lib.hid (show RTurn w b F page (sDie s) (fun _ => false) (fun _ => false) (((w.setCell ⟨b, 2, none⟩ (.int .i64 0)).setCell ⟨b, 7, none⟩ (.slice none 0 0)).setCell ⟨b, 8, none⟩ (.slice none 0 0)) from
    ⟨F, ⟨⟨_, _, 0, 0, ⟨((h1.blk.set_ 2 _).set_ 7 _).set_ 8 _, brow_nil _ _, brow_nil _ _, (fun g hg => by cases hg), Nat.zero_le _, Nat.zero_le _, h1.fb, (fun g hg => by cases hg), (fun g hg => by cases hg)⟩⟩, fun k hk => by rw [World.size_setCell, World.size_setCell, World.size_setCell]; exact h.lt k hk, fitDie h.fit, h.base, h.small, (cntB_none _).symm⟩, (((Chg.refl F w).setCell (p := ⟨b, 2, none⟩) (.inl h1.fb) _).setCell (p := ⟨b, 7, none⟩) (.inl h1.fb) _).setCell (p := ⟨b, 8, none⟩) (.inl h1.fb) _, fun k hk => .inl hk⟩)
  obtain ⟨pu, capu, rfl, -, -, -⟩ := owns_form h1.u.own
  obtain ⟨pm, capm, rfl, -, -, -⟩ := owns_form h1.m.own
  clear h h1 hd hu
  go_enter Tryd.func43, Tryd.ntmps43
  go_wp2_with (first | (go_at_call 57; refine HC.out.mono ?_; rintro e w1 ⟨rfl, rfl⟩))
  go_ret
  exact ⟨rfl, HN.out⟩
end

end Go.Proofs.YticaamdghjfifaaDoor

namespace Go.Proofs.YticaamdghjfifaaDoor
open Go.RowKit
set_option linter.unusedVariables false

theorem rint_info : (Tryd.prog.info? 3).map (fun i => (i.zero, i.size, i.bytes)) = some (some (.int .i64 0), 1, 8) := by kernel_rfl

/-- used slots when those before k are swept. -/
def uK (U M : Nat → Bool) (k : Nat) : Nat → Bool := fun j => U j && (M j || decide (k ≤ j))
theorem uK_zero (U M : Nat → Bool) : uK U M 0 = U := by
  funext j
  unfold uK
  rw [decide_eq_true (Nat.zero_le j)]
  simp
theorem uK_at (U M : Nat → Bool) (k : Nat) : uK U M k k = U k := by
  unfold uK
  rw [decide_eq_true (Nat.le_refl k)]
  simp
theorem uK_no {U M : Nat → Bool} {k : Nat} (h : gB U M k = false) : uK U M (k + 1) = uK U M k := by
  funext j
  unfold uK
  by_cases e : j = k
  · subst e
    unfold gB at h
    rw [decide_eq_false (by omega), decide_eq_true (Nat.le_refl _)]
    revert h
    cases U j <;> cases M j <;> simp
  · by_cases hk : k ≤ j
    · rw [decide_eq_true hk, decide_eq_true (by omega)]
    · rw [decide_eq_false hk, decide_eq_false (by omega)]
theorem uK_yes {U M : Nat → Bool} {k : Nat} (h : gB U M k = true) : uK U M (k + 1) = updB (uK U M k) k false := by
  funext j
  unfold updB uK
  by_cases e : j = k
  · subst e
    unfold gB at h
    rw [if_pos rfl, decide_eq_false (by omega)]
    revert h
    cases U j <;> cases M j <;> simp
  · rw [if_neg e]
    by_cases hk : k ≤ j
    · rw [decide_eq_true hk, decide_eq_true (by omega)]
    · rw [decide_eq_false hk, decide_eq_false (by omega)]
theorem uK_end {U M : Nat → Bool} {n : Nat} (hU : ∀ j, U j = true → j < n) (hz : ∀ j, zB U M j = false) : uK U M n = M := by
  funext j
  have := hz j
  unfold uK
  unfold zB at this
  cases hu : U j
  · rw [hu] at this
    revert this
    cases M j <;> simp
  · rw [decide_eq_false (by have := hU j hu; omega)]
    simp
theorem swl_snoc (g : Nat → Bool) (k : Nat) : swl g (k + 1) = swl g k ++ (if g k = true then [k] else []) := by
  unfold swl
  rw [List.range_succ, List.filter_append]
  by_cases h : g k = true <;> simp [h]
theorem cnt_split {U M : Nat → Bool} (hz : ∀ j, zB U M j = false) : ∀ n, cntB U n = cntB M n + (swl (gB U M) n).length
  | 0 => rfl
  | n + 1 => by
    rw [cntB_succ, cntB_succ, swl_snoc, List.length_append, cnt_split hz n]
    have := hz n
    unfold zB at this
    unfold gB
    revert this
    cases U n <;> cases M n <;> simp <;> omega

section
variable {w w' : World} {b page : Nat} {F G : Nat → Prop} {s s' : Sp} {U M U' M' : Nat → Bool} {uv mv uv' mv' : Value} {nu nm nu' nm' : Nat}

set_option maxHeartbeats 800000 in
theorem rsweep_state (h : RsIs w b F page s U M) (hd : s.state ≠ 1) :
    Calls Tryd.prog 41 #[.pointer (some ⟨b, 0, none⟩)] w fun r w' => r = .returned (.tuple #[.slice none 0 0, .int .i64 33]) ∧ w = w' := by
  obtain ⟨uv, mv, nu, nm, h1⟩ := h.at_
  have c2 : w.cell? ⟨b, 2, none⟩ = some (.int .i64 s.state) := h1.blk.cell 2
  have hb := h1.blk.lt
  have hst := h.fit.state
  have k0 : ((s.state : Int) != 1) = true := bne_iff_ne.2 (by omega)
  clear h h1 hd
  go_enter Tryd.func41, Tryd.ntmps41
  go_wp2
  go_ret2
  exact ⟨rfl, rfl⟩

set_option maxRecDepth 20000 in
set_option maxHeartbeats 2000000 in
theorem rsweep_zombie (h : RsIs w b F page s U M) (hd : s.state = 1) (j : Nat) (hj : zB U M j = true) :
    Calls Tryd.prog 41 #[.pointer (some ⟨b, 0, none⟩)] w fun r w' => r = .returned (.tuple #[.slice none 0 0, .int .i64 40]) ∧ w = w' := by
  obtain ⟨uv, mv, nu, nm, h1⟩ := h.at_
  have c2 : w.cell? ⟨b, 2, none⟩ = some (.int .i64 s.state) := h1.blk.cell 2
  have c7 : w.cell? ⟨b, 7, none⟩ = some uv := h1.blk.cell 7
  have c8 : w.cell? ⟨b, 8, none⟩ = some mv := h1.blk.cell 8
  rw [hd] at c2
  have hb := h1.blk.lt
  have hnm := h1.m.small
  have HU := Lib.hid h1.u
  have HM := Lib.hid h1.m
  have HJ := Lib.hid hj
  obtain ⟨pm, capm, rfl, -, -, hp⟩ := owns_form h1.m.own
  have HP := Lib.hid hp
  clear h h1 hd hj hp
  go_enter Tryd.func41, Tryd.ntmps41
  go_wp2
  obtain ⟨W, rfl⟩ : ∃ W, W = w := ⟨_, rfl⟩
  go_loopw [4] (fun i wr => ∃ k : Nat, k ≤ nm ∧ i = .int .i64 k ∧ wr = W ∧ Hid (∀ i, i < k → zB U M i = false)) (fun i _ => nm - (intOf i).toNat)
  case atStart => exact ⟨0, by omega, rfl, rfl, Lib.hid fun i hi => absurd hi (Nat.not_lt_zero _)⟩
  case round =>
    obtain ⟨k, hk, rfl, rfl, hZ⟩ := hrel
    by_cases hlt : k < nm
    · have hp := HP.out
      rcases hp with hp | ⟨g, rfl, -, hg⟩
      · omega
      have c0 : wr.cell? ⟨g, k, none⟩ = some (.bool (M k)) := by rw [HM.out.own.cellAt k (by omega)]; exact blL_get M nm k hlt
      have hat := at_any (b + 1) uv nu U k wr HU.out
      rw [show (decide (0 ≤ (k : Int)) && U ((k : Int)).toNat) = U k by rw [decide_eq_true (by omega), Bool.true_and, Int.toNat_natCast]] at hat
      cases hm : M k
      · have HN := Lib.hid (show ∀ i, i < k + 1 → zB U M i = false from fun i hi => by
          by_cases e : i = k
          · subst e; unfold zB; rw [hm]; rfl
          · exact hZ.out i (by omega))
        rw [hm] at c0
        clear hm hat hZ
        go_wp2_with fail
        go_roundw
        case rel => exact ⟨k + 1, by omega, by go_num, by first | trivial | rfl, HN⟩
        case measure => simp [intOf]; omega
      · rw [hm] at c0
        cases hu : U k
        · rw [hu] at hat
          have HAt := Lib.hid hat
          clear hm hu hat hZ
          go_wp2_with (first | (go_at_call 55; refine HAt.out.mono ?_; rintro e w1 ⟨rfl, rfl⟩))
          go_ret2
          exact ⟨rfl, rfl⟩
        · rw [hu] at hat
          have HAt := Lib.hid hat
          have HN := Lib.hid (show ∀ i, i < k + 1 → zB U M i = false from fun i hi => by
            by_cases e : i = k
            · subst e; unfold zB; rw [hm, hu]; rfl
            · exact hZ.out i (by omega))
          clear hm hu hat hZ
          go_wp2_with (first | (go_at_call 55; refine HAt.out.mono ?_; rintro e w1 ⟨rfl, rfl⟩))
          go_roundw
          case rel => exact ⟨k + 1, by omega, by go_num, by first | trivial | rfl, HN⟩
          case measure => simp [intOf]; omega
    · exfalso
      have h1 := HJ.out
      have h2 : j < nm := HM.out.hi j (by unfold zB at h1; revert h1; cases M j <;> simp)
      have := hZ.out j (by omega)
      rw [h1] at this
      cases this

/-- in the midst of a sweep. -/
structure SwAt (w wr : World) (b : Nat) (F : Nat → Prop) (page : Nat) (s : Sp) (U M : Nat → Bool) (uv mv : Value) (nu nm : Nat) (v : Value) (k : Nat) : Prop where
  at_ : RsAt wr b F page s (uK U M k) M uv mv nu nm
  row : wr.ownsRow w.heap.size 3 1 v (swl (gB U M) k).length (ints (swl (gB U M) k))
  chg : Chg F w wr
theorem SwAt.no {wr : World} {v : Value} {k : Nat} (h : SwAt w wr b F page s U M uv mv nu nm v k) (hg : gB U M k = false) : SwAt w wr b F page s U M uv mv nu nm v (k + 1) := by
  refine ⟨by rw [uK_no hg]; exact h.at_, ?_, h.chg⟩
  rw [swl_snoc, if_neg (by rw [hg]; simp), List.append_nil]
  exact h.row
theorem SwAt.yes {wr w2 : World} {v v2 : Value} {k gu capu : Nat} {cs : Array Value} (h : SwAt w wr b F page s U M (.slice (some ⟨gu, 0, none⟩) nu capu) mv nu nm v k) (hlt : ∀ k, F k → k < w.heap.size) (hg : gB U M k = true) (hk : k < nu)
    (hown : w2.ownsRow w.heap.size 3 1 v2 ((swl (gB U M) k).length + 1) (ints (swl (gB U M) k) ++ [.int .i64 (k : Nat)])) (hc : Chg (fun i => v.ownBlock = some i) (wr.alloc (.cells cs 3)) w2) : SwAt w (w2.setCell ⟨gu, k, none⟩ (.bool false)) b F page s U M (.slice (some ⟨gu, 0, none⟩) nu capu) mv nu nm v2 (k + 1) := by
  have hcw : Chg (fun i => v.ownBlock = some i) wr w2 := ((Chg.refl (fun i => v.ownBlock = some i) wr).alloc cs 3).trans hc fun i hi => .inl hi
  have h2 := h.at_.chg hcw fun i hi hv => by have := (owns_lt h.row i hv).1; have := hlt i hi; omega
  obtain ⟨h3, hc3⟩ := h2.offU rfl hk
  have hcg : Chg F w w2 := h.chg.trans hcw fun i hi => .inr (owns_lt h.row i hi).1
  refine ⟨by rw [uK_yes hg]; exact h3, ?_, hcg.trans hc3 fun i hi => .inl hi⟩
  rw [swl_snoc, if_pos hg, List.length_append, ints_snoc]
  exact owns_blocks hown fun i hi => Below.heap_setCell w2 ⟨gu, k, none⟩ _ i fun (e : i = gu) => by have h5 := (owns_lt hown i hi).1; have h6 := hlt gu (h.at_.fu gu rfl); omega
theorem fitSweep (hfit : Fit s) (m : Nat) : Fit (sSweep s m) := ⟨hfit.base, hfit.pages, hfit.cls, hfit.elem0, hfit.elem, hfit.slots, by have := hfit.used; show s.used - m ≤ s.slots; omega, Nat.zero_le _, hfit.magic, hfit.state, hfit.bytes⟩

set_option maxRecDepth 20000 in
set_option maxHeartbeats 4000000 in
theorem rsweep_yes (h : RsIs w b F page s U M) (hd : s.state = 1) (hz : ∀ j, zB U M j = false) :
    Calls Tryd.prog 41 #[.pointer (some ⟨b, 0, none⟩)] w fun r w' => ∃ v, r = .returned (.tuple #[v, .int .i64 0]) ∧ w'.ownsRow w.heap.size 3 1 v (swl (gB U M) s.slots).length (ints (swl (gB U M) s.slots)) ∧ RTurn w b F page (sSweep s (swl (gB U M) s.slots).length) M (fun _ => false) w' := by
  obtain ⟨i0, hi0, hz0, hz1, hz2⟩ := info_parts rint_info
  obtain ⟨uv, mv, nu, nm, h1⟩ := h.at_
  have c2 : w.cell? ⟨b, 2, none⟩ = some (.int .i64 s.state) := h1.blk.cell 2
  have c7 : w.cell? ⟨b, 7, none⟩ = some uv := h1.blk.cell 7
  have c8 : w.cell? ⟨b, 8, none⟩ = some mv := h1.blk.cell 8
  rw [hd] at c2
  have hb := h1.blk.lt
  have hnm := h1.m.small
  have hnu := h1.u.small
  have HU := Lib.hid h1.u
  have HM := Lib.hid h1.m
  have HZ := Lib.hid hz
  have H := Lib.hid h
  have H1 := Lib.hid h1
  have HL := Lib.hid h.lt
  have HTo := Lib.hid (show swl (gB U M) nu = swl (gB U M) s.slots from swl_to _ _ _ fun i hi => by
    have hu : U i = true := by unfold gB at hi; revert hi; cases U i <;> simp
    have h5 := h1.u.hi i hu
    have h6 := h1.nu
    exact ⟨h5, by omega⟩)
  obtain ⟨pu, capu, rfl, -, -, hp0⟩ := owns_form h1.u.own
  obtain ⟨pm, capm, rfl, -, -, hp⟩ := owns_form h1.m.own
  have HP := Lib.hid hp
  have HPu := Lib.hid hp0
  clear h h1 hd hz hp hp0
  go_enter Tryd.func41, Tryd.ntmps41
  go_wp2
  obtain ⟨W, rfl⟩ : ∃ W, W = w := ⟨_, rfl⟩
  go_loopw [4] (fun i wr => ∃ k : Nat, k ≤ nm ∧ i = .int .i64 k ∧ wr = W) (fun i _ => nm - (intOf i).toNat)
  case atStart => exact ⟨0, by omega, rfl, rfl⟩
  case round =>
    obtain ⟨k, hk, rfl, rfl⟩ := hrel
    by_cases hlt : k < nm
    · have hp := HP.out
      rcases hp with hp | ⟨g, rfl, -, hg⟩
      · omega
      have c0 : wr.cell? ⟨g, k, none⟩ = some (.bool (M k)) := by rw [HM.out.own.cellAt k (by omega)]; exact blL_get M nm k hlt
      have hat := at_any (b + 1) (.slice pu nu capu) nu U k wr HU.out
      rw [show (decide (0 ≤ (k : Int)) && U ((k : Int)).toNat) = U k by rw [decide_eq_true (by omega), Bool.true_and, Int.toNat_natCast]] at hat
      cases hm : M k
      · rw [hm] at c0
        clear hm hat
        go_wp2_with fail
        go_roundw
        case rel => exact ⟨k + 1, by omega, by go_num, by first | trivial | rfl⟩
        case measure => simp [intOf]; omega
      · rw [hm] at c0
        have hu : U k = true := by
          have := HZ.out k
          unfold zB at this
          rw [hm] at this
          revert this
          cases U k <;> simp
        rw [hu] at hat
        have HAt := Lib.hid hat
        clear hm hu hat
        go_wp2_with (first | (go_at_call 55; refine HAt.out.mono ?_; rintro e w1 ⟨rfl, rfl⟩))
        go_roundw
        case rel => exact ⟨k + 1, by omega, by go_num, by first | trivial | rfl⟩
        case measure => simp [intOf]; omega
    · go_wp2_with fail
      obtain ⟨W1, rfl⟩ : ∃ W1, W1 = wr := ⟨_, rfl⟩
      go_loopw [5, 6] (fun v i wr => ∃ k : Nat, k ≤ nu ∧ i = .int .i64 k ∧ Hid (SwAt W1 wr b F page s U M (.slice pu nu capu) (.slice pm nm capm) nu nm v k)) (fun _ i _ => nu - (intOf i).toNat)
      case atStart => exact ⟨0, by omega, rfl, Lib.hid ⟨by rw [uK_zero]; exact H1.out, owns_nil _ _ _ _, Chg.refl _ _⟩⟩
      case round =>
        obtain ⟨q, hq, rfl, hS⟩ := hrel
        have d7 : wr.cell? ⟨b, 7, none⟩ = some (.slice pu nu capu) := hS.out.at_.blk.cell 7
        have d8 : wr.cell? ⟨b, 8, none⟩ = some (.slice pm nm capm) := hS.out.at_.blk.cell 8
        have hbw := hS.out.at_.blk.lt
        have hsz := hS.out.chg.size
        obtain ⟨pv, capv, rfl, -, -, -⟩ := owns_form hS.out.row
        have hsl := swl_len (gB U M) q
        clear c2 c7 c8
        by_cases hlq : q < nu
        · have hpu := HPu.out
          rcases hpu with hpu | ⟨gu, rfl, hgu1, hgu2⟩
          · omega
          have c0 : wr.cell? ⟨gu, q, none⟩ = some (.bool (U q)) := by
            rw [hS.out.at_.u.own.cellAt q (by omega), blL_get _ nu q hlq, uK_at]
          have f0 := hS.out.at_.u.own.frozenAt q
          have hguw := (owns_lt hS.out.at_.u.own gu rfl).2
          have hat := at_any (b + 1) (.slice pm nm capm) nm M q wr hS.out.at_.m
          rw [show (decide (0 ≤ (q : Int)) && M ((q : Int)).toNat) = M q by rw [decide_eq_true (by omega), Bool.true_and, Int.toNat_natCast]] at hat
          cases hu : U q
          · rw [hu] at c0
            have HN := Lib.hid (hS.out.no (by unfold gB; rw [hu]; rfl))
            clear hu hat hS
            go_wp2_with fail
            go_roundw
            case rel => exact ⟨q + 1, by omega, by go_num, HN⟩
            case measure => simp [intOf]; omega
          · rw [hu] at c0
            cases hm : M q
            · rw [hm] at hat
              have HAt := Lib.hid hat
              have HG := Lib.hid (show gB U M q = true by unfold gB; rw [hu, hm]; rfl)
              have HRow := Lib.hid hS.out.row
              have hnew : ∀ w2 v2, w2.ownsRow W1.heap.size 3 1 v2 ((swl (gB U M) q).length + 1) (ints (swl (gB U M) q) ++ [.int .i64 (q : Nat)]) → Chg (fun i => (Value.slice pv (swl (gB U M) q).length capv).ownBlock = some i) (wr.alloc (.cells #[.int .i64 (q : Nat)] 3)) w2 → SwAt W1 (w2.setCell ⟨gu, q, none⟩ (.bool false)) b F page s U M (.slice (some ⟨gu, 0, none⟩) nu capu) (.slice pm nm capm) nu nm v2 (q + 1) ∧ w2.cell? ⟨b, 7, none⟩ = some (.slice (some ⟨gu, 0, none⟩) nu capu) ∧ w2.cell? ⟨gu, q, none⟩ = some (.bool true) ∧ w2.frozen? ⟨gu, q, none⟩ = false ∧ gu < w2.heap.size ∧ b < w2.heap.size := fun w2 v2 ho hc => by
                have hcw : Chg (fun i => (Value.slice pv (swl (gB U M) q).length capv).ownBlock = some i) wr w2 := ((Chg.refl _ wr).alloc _ _).trans hc fun i hi => .inl hi
                have hF : ∀ i, F i → ¬ (Value.slice pv (swl (gB U M) q).length capv).ownBlock = some i := fun i hi hv => by have h5 := (owns_lt HRow.out i hv).1; have h6 := HL.out i hi; omega
                have h2 := hS.out.at_.chg hcw hF
                refine ⟨hS.out.yes HL.out HG.out hlq ho hc, h2.blk.cell 7, ?_, h2.u.own.frozenAt q, (owns_lt h2.u.own gu rfl).2, h2.blk.lt⟩
                rw [h2.u.own.cellAt q (by omega), blL_get _ nu q hlq, uK_at, hu]
              have HNew := Lib.hid hnew
              clear hu hm hat hS hnew
              generalize hmm : (swl (gB U M) q).length = m at *
              have HMM := Lib.hid hmm
              clear hmm
              go_wp2_with (first
                | (go_at_call 55; refine HAt.out.mono ?_; rintro e w1 ⟨rfl, rfl⟩)
                | (at_builtin; refine wpList_append_all W1.heap.size _ rfl (.tmp 62) (.tmp 64) 38 rfl 3 i0 _ 1 8 Tryd.underlying38 hi0 hz0 hz1 hz2 rfl (by decide) _ _ _ (by rfl) (by exact owns_later HRow.out (((Ext.refl _).alloc _ _).below)) (.slice (some ⟨wr.heap.size, 0, none⟩) 1 1) 1 [.int .i64 (q : Nat)] (by rfl) (by exact src_one wr [.int .i64 (q : Nat)] _ 1 rfl) (by intro u hu; simp at hu; subst hu; rfl) (by unfold maxLen; omega) (by omega) (by simp; omega) ?_) | fail)
              intro v2 w2 ho hc _
              obtain ⟨hn1, d7', c0', f0', hgu3, hb3⟩ := HNew.out w2 v2 ho hc
              have HN := Lib.hid hn1
              obtain ⟨p2, cap2, rfl, -, -, -⟩ := owns_form ho
              clear ho hc hn1 HNew d7 d8 c0 f0
              go_wp2_with fail
              go_roundw
              case rel => exact ⟨q + 1, by omega, by go_num, HN⟩
              case measure => simp [intOf]; omega
            · rw [hm] at hat
              have HAt := Lib.hid hat
              have HN := Lib.hid (hS.out.no (by unfold gB; rw [hu, hm]; rfl))
              clear hu hm hat hS
              go_wp2_with (first | (go_at_call 55; refine HAt.out.mono ?_; rintro e w1 ⟨rfl, rfl⟩))
              go_roundw
              case rel => exact ⟨q + 1, by omega, by go_num, HN⟩
              case measure => simp [intOf]; omega
        · obtain rfl : q = nu := by omega
          have hK := uK_end (n := q) HU.out.hi HZ.out
          have HRow := Lib.hid hS.out.row
          have f8 := hS.out.at_.blk.frozen 8
          have f9 := hS.out.at_.blk.frozen 9
          have d9 : wr.cell? ⟨b, 9, none⟩ = some (.int .i64 s.look) := hS.out.at_.blk.cell 9
          have HN := Lib.hid (show RTurn W1 b F page (sSweep s (swl (gB U M) s.slots).length) M (fun _ => false) ((wr.setCell ⟨b, 8, none⟩ (.slice none 0 0)).setCell ⟨b, 9, none⟩ (.int .i64 0)) from by
            have h2 := hS.out.at_
            rw [hK] at h2
            have hc1 : Chg (fun k => k = b) wr ((wr.setCell ⟨b, 8, none⟩ (.slice none 0 0)).setCell ⟨b, 9, none⟩ (.int .i64 0)) := ((Chg.refl (fun k => k = b) wr).setCell (p := ⟨b, 8, none⟩) (.inl rfl) _).setCell (p := ⟨b, 9, none⟩) (.inl rfl) _
            have hu := cnt_split HZ.out s.slots
            have hu2 := H.out.used
            refine ⟨F, ⟨⟨_, _, q, 0, ⟨(h2.blk.set_ 8 _).set_ 9 _, h2.u.chg hc1 fun g hg e => own_blk_ne h2.u.own h2.blk (by decide) (by rw [hg, e]), brow_nil _ _, (fun g hg hm => by cases hm), h2.nu, Nat.zero_le _, h2.fb, h2.fu, (fun g hg => by cases hg)⟩⟩, fun k hk => ?_, fitSweep H.out.fit _, H.out.base, H.out.small, ?_⟩, hS.out.chg.trans hc1 fun i hi => .inl (by rw [hi]; exact H1.out.fb), fun k hk => .inl hk⟩
            · rw [World.size_setCell, World.size_setCell]
              have := HL.out k hk; omega
            · show s.used - _ = cntB M s.slots
              omega)
          have HR2 := Lib.hid (show ((wr.setCell ⟨b, 8, none⟩ (.slice none 0 0)).setCell ⟨b, 9, none⟩ (.int .i64 0)).ownsRow W1.heap.size 3 1 (.slice pv (swl (gB U M) s.slots).length capv) (swl (gB U M) s.slots).length (ints (swl (gB U M) s.slots)) from by
            have hlt := HL.out b H1.out.fb
            rw [← HTo.out]
            refine owns_blocks (w1 := (wr.setCell ⟨b, 8, none⟩ (.slice none 0 0)).setCell ⟨b, 9, none⟩ (.int .i64 0)) HRow.out fun k hk => ?_
            have h5 := (owns_lt HRow.out k hk).1
            exact (Below.heap_setCell _ ⟨b, 9, none⟩ _ k fun (e : k = b) => by omega).trans (Below.heap_setCell wr ⟨b, 8, none⟩ _ k fun (e : k = b) => by omega))
          clear hS hK HRow
          have HTo2 := Lib.hid (congrArg List.length HTo.out)
          go_wp2_with fail
          go_ret2
          rw [HTo2.out]
          exact ⟨_, rfl, HR2.out, HN.out⟩
end

end Go.Proofs.YticaamdghjfifaaDoor

namespace Go.Proofs.YticaamdghjfifaaDoor
open Go.RowKit
set_option linter.unusedVariables false

def rinfoL (s : Sp) : List Value := [.int .u64 s.base, .int .i64 s.pages, .int .i64 s.state, .int .i64 s.cls, .bool s.noptr, .int .i64 s.elem, .int .i64 s.slots, .int .i64 s.used, .bool false, .bool false]

section
variable {w w' : World} {b page : Nat} {F G : Nat → Prop} {s s' : Sp} {U M U' M' : Nat → Bool} {uv mv uv' mv' : Value} {nu nm nu' nm' : Nat}
set_option maxRecDepth 20000 in
set_option maxHeartbeats 2000000 in
theorem rinfo_any (h : RsIs w b F page s U M) :
    Calls Tryd.prog 48 #[.pointer (some ⟨b, 0, none⟩)] w fun r w' => r = .returned (.agg (rinfoL s).toArray) ∧ Ext w w' := by
  obtain ⟨uv, mv, nu, nm, h1⟩ := h.at_
  have c0 : w.cell? ⟨b, 0, none⟩ = some (.int .u64 page) := h1.blk.cell 0
  have c1 : w.cell? ⟨b, 1, none⟩ = some (.int .u64 s.pages) := h1.blk.cell 1
  have c2 : w.cell? ⟨b, 2, none⟩ = some (.int .i64 s.state) := h1.blk.cell 2
  have c3 : w.cell? ⟨b, 3, none⟩ = some (.int .i64 s.cls) := h1.blk.cell 3
  have c4 : w.cell? ⟨b, 4, none⟩ = some (.bool s.noptr) := h1.blk.cell 4
  have c5 : w.cell? ⟨b, 5, none⟩ = some (.int .i64 s.elem) := h1.blk.cell 5
  have c6 : w.cell? ⟨b, 6, none⟩ = some (.int .i64 s.slots) := h1.blk.cell 6
  have hb := h1.blk.lt
  have hba := h.fit.base
  have hbp := h.base
  have hpg : page ≤ 34359738368 := by omega
  have hps := h.fit.pages
  have hne : b ≠ w.heap.size := by omega
  have hne2 : w.heap.size ≠ b := by omega
  have HB := Lib.hid (show (s.base : Int) = (page : Int) * 8192 by omega)
  have HC := Lib.hid fun w' (hx : Ext w w') => rcount_any (h.later hx)
  clear h h1 hba hbp
  go_enter Tryd.func48, Tryd.ntmps48
  go_wp2_with fail
  refine wp_region_head 32 (by kernel_rfl) (by kernel_rfl) ?_
  simp only [List.take_succ_cons, List.take_zero, List.drop_succ_cons, List.drop_zero]
  repeat (go_big_quiet_step (fail))
  go_big_quiet_want
  go_big_quiet_op
  apply Exists.intro
  refine ⟨?_, ?_⟩
  · go_at_call 57
    refine (HC.out _ (((Ext.refl _).alloc _ _).drew)).mono ?_
    rintro e w1 ⟨rfl, rfl⟩
    exact ⟨rfl, rfl⟩
  go_big_quiet_on
  repeat (go_big_quiet_step (fail))
  refine wpQuiet_nil ?_
  go_wp2_with fail
  refine bodyPost_ret (v := .agg (rinfoL s).toArray) ?c1 ?c2 ?c3
  case c1 => simp [results, Tryd.results48, go_sem, rinfoL, HB.out]
  case c2 => rfl
  case c3 =>
    exact ⟨rfl, by first | exact ((Ext.refl _).alloc _ _).drew | exact (Ext.refl _).drew.alloc _ _ | exact (Ext.refl _).alloc _ _⟩
end

end Go.Proofs.YticaamdghjfifaaDoor
