/- The reference's scheduler in the midst of a step, and behind it. -/
import Derived.Test.YtfgfbmmidijgoaaRefG
namespace Go.Proofs.Ytfgfbmmidijgoaa
open Go.RowKit
set_option linter.unusedVariables false

/-- the rows have turned, the place of the task not yet. -/
structure RMid (W w : World) (b : Nat) (F : Nat → Prop) (r : Rf) (tv av lv cv ov : Value) (L' C' : List (Int × Int)) (out' : List Int) : Prop where
  chg : Chg (fun k => k = b ∨ HasT W k 3 ∨ HasT W k 70) W w
  chF : Chg F W w
  blk : Blk w b 63 #[tv, av, lv, cv, ov, .bool r.over]
  at_ : w.ownsRow (b + 1) 3 1 av r.A.length (natsL r.A)
  lk : w.ownsRow (b + 1) 70 2 lv L'.length (psL L')
  cl : w.ownsRow (b + 1) 70 2 cv C'.length (psL C')
  said : w.ownsRow (b + 1) 3 1 ov out'.length (out'.map (Value.int .i64))
  ne1 : ∀ g, av.ownBlock = some g → ov.ownBlock ≠ some g
  ne2 : ∀ g, lv.ownBlock = some g → cv.ownBlock ≠ some g
  nlv : ∀ g, lv.ownBlock = some g → F g ∨ W.heap.size ≤ g
  ncv : ∀ g, cv.ownBlock = some g → F g ∨ W.heap.size ≤ g
  nov : ∀ g, ov.ownBlock = some g → F g ∨ W.heap.size ≤ g

section
variable {W w w' : World} {b : Nat} {F : Nat → Prop} {r : Rf} {tv av lv cv ov v' : Value} {vals : List Value} {L' C' : List (Int × Int)} {out' : List Int}
theorem RMid.drewN (h : RMid W w b F r tv av lv cv ov L' C' out') (n : Nat) : RMid W (w.drewN n) b F r tv av lv cv ov L' C' out' :=
  ⟨h.chg.drewN n, h.chF.drewN n, h.blk.drewN n, owns_blocks h.at_ fun _ _ => rfl, owns_blocks h.lk fun _ _ => rfl, owns_blocks h.cl fun _ _ => rfl, owns_blocks h.said fun _ _ => rfl, h.ne1, h.ne2, h.nlv, h.ncv, h.nov⟩
theorem RMid.drew (h : RMid W w b F r tv av lv cv ov L' C' out') : RMid W w.drew b F r tv av lv cv ov L' C' out' :=
  ⟨h.chg.drew, h.chF.drew, h.blk.drew, owns_blocks h.at_ fun _ _ => rfl, owns_blocks h.lk fun _ _ => rfl, owns_blocks h.cl fun _ _ => rfl, owns_blocks h.said fun _ _ => rfl, h.ne1, h.ne2, h.nlv, h.ncv, h.nov⟩
theorem RMid.same (h : RAt W b F r tv av lv cv ov vals) : RMid W W b F r tv av lv cv ov r.L r.C r.out :=
  ⟨Chg.refl _ _, Chg.refl _ _, h.blk, h.at_, h.lk, h.cl, h.said, h.ne1, h.ne2, fun g hg => .inl (h.flv g hg), fun g hg => .inl (h.fcv g hg), fun g hg => .inl (h.fov g hg)⟩
/-- a row of pairs has turned, and is laid into field 2. -/
theorem RMid.of_lk (h : RAt W b F r tv av lv cv ov vals) (hlt : ∀ k, F k → k < W.heap.size) (hP : PutPost (b + 1) lv L' W v' w) : RMid W (w.setCell ⟨b, 2, none⟩ v') b F r tv av v' cv ov L' r.C r.out := by
  have hlvT : ∀ k, lv.ownBlock = some k → HasT W k 70 := fun k hk => own_hasT h.lk hk
  have hbn : ∀ {v : Value} {B s n : Nat} {e : TypeId} {xs : List Value}, w.ownsRow B e s v n xs → e ≠ 63 → Blk w b 63 #[tv, av, lv, cv, ov, .bool r.over] → v.ownBlock ≠ some b := fun ho he hb => own_blk_ne ho hb he
  have hblk : Blk w b 63 #[tv, av, lv, cv, ov, .bool r.over] := h.blk.chg hP.chg fun e => own_blk_ne h.lk h.blk (by decide) e
  have hset : ∀ {v : Value} {B s n : Nat} {e : TypeId} {xs : List Value}, w.ownsRow B e s v n xs → e ≠ 63 → (w.setCell ⟨b, 2, none⟩ v').ownsRow B e s v n xs := fun ho he => owns_blocks ho fun k hk => Below.heap_setCell w _ _ k fun e => hbn ho he hblk (by rw [hk, e])
  have h1 := owns_chg h.at_ hP.chg fun g hg e => (own_hasT h.at_ hg).ne (hlvT g e) (by decide) rfl
  have h2 := owns_chg h.cl hP.chg fun g hg e => h.ne2 g e hg
  have h3 := owns_chg h.said hP.chg fun g hg e => (own_hasT h.said hg).ne (hlvT g e) (by decide) rfl
  refine ⟨(hP.chg.mono fun i hi => .inl (.inr (.inr (hlvT i hi)))).setCell (.inl (.inl rfl)) _, (hP.chg.mono fun i hi => .inl (h.flv i hi)).setCell (.inl h.fb) _, hblk.set_ 2 v', hset h1 (by decide), hset hP.own (by decide), hset h2 (by decide), hset h3 (by decide), h.ne1, fun g hg hc => ?_, fun g hg => (hP.blk g hg).imp (h.flv g) id, fun g hg => .inl (h.fcv g hg), fun g hg => .inl (h.fov g hg)⟩
  rcases hP.blk g hg with e | e
  · exact h.ne2 g e hc
  · have := hlt g (h.fcv g hc); omega
/-- .. into field 3. -/
theorem RMid.of_cl (h : RAt W b F r tv av lv cv ov vals) (hlt : ∀ k, F k → k < W.heap.size) (hP : PutPost (b + 1) cv C' W v' w) : RMid W (w.setCell ⟨b, 3, none⟩ v') b F r tv av lv v' ov r.L C' r.out := by
  have hcvT : ∀ k, cv.ownBlock = some k → HasT W k 70 := fun k hk => own_hasT h.cl hk
  have hblk : Blk w b 63 #[tv, av, lv, cv, ov, .bool r.over] := h.blk.chg hP.chg fun e => own_blk_ne h.cl h.blk (by decide) e
  have hset : ∀ {v : Value} {B s n : Nat} {e : TypeId} {xs : List Value}, w.ownsRow B e s v n xs → e ≠ 63 → (w.setCell ⟨b, 3, none⟩ v').ownsRow B e s v n xs := fun ho he => owns_blocks ho fun k hk => Below.heap_setCell w _ _ k fun e => own_blk_ne ho hblk he (by rw [hk, e])
  have h1 := owns_chg h.at_ hP.chg fun g hg e => (own_hasT h.at_ hg).ne (hcvT g e) (by decide) rfl
  have h2 := owns_chg h.lk hP.chg fun g hg e => h.ne2 g hg e
  have h3 := owns_chg h.said hP.chg fun g hg e => (own_hasT h.said hg).ne (hcvT g e) (by decide) rfl
  refine ⟨(hP.chg.mono fun i hi => .inl (.inr (.inr (hcvT i hi)))).setCell (.inl (.inl rfl)) _, (hP.chg.mono fun i hi => .inl (h.fcv i hi)).setCell (.inl h.fb) _, hblk.set_ 3 v', hset h1 (by decide), hset h2 (by decide), hset hP.own (by decide), hset h3 (by decide), h.ne1, fun g hg hc => ?_, fun g hg => .inl (h.flv g hg), fun g hg => (hP.blk g hg).imp (h.fcv g) id, fun g hg => .inl (h.fov g hg)⟩
  rcases hP.blk g hc with e | e
  · exact h.ne2 g hg e
  · have := hlt g (h.flv g hg); omega
/-- what is said has turned, and is laid into field 4. -/
theorem RMid.of_out (h : RAt W b F r tv av lv cv ov vals) (hlt : ∀ k, F k → k < W.heap.size) (hown : w.ownsRow (b + 1) 3 1 v' out'.length (out'.map (Value.int .i64))) (hc : Chg (fun k => ov.ownBlock = some k) W w) (hb : ∀ g, v'.ownBlock = some g → ov.ownBlock = some g ∨ W.heap.size ≤ g) : RMid W (w.setCell ⟨b, 4, none⟩ v') b F r tv av lv cv v' r.L r.C out' := by
  have hovT : ∀ k, ov.ownBlock = some k → HasT W k 3 := fun k hk => own_hasT h.said hk
  have hblk : Blk w b 63 #[tv, av, lv, cv, ov, .bool r.over] := h.blk.chg hc fun e => own_blk_ne h.said h.blk (by decide) e
  have hset : ∀ {v : Value} {B s n : Nat} {e : TypeId} {xs : List Value}, w.ownsRow B e s v n xs → e ≠ 63 → (w.setCell ⟨b, 4, none⟩ v').ownsRow B e s v n xs := fun ho he => owns_blocks ho fun k hk => Below.heap_setCell w _ _ k fun e => own_blk_ne ho hblk he (by rw [hk, e])
  have h1 := owns_chg h.at_ hc fun g hg e => h.ne1 g hg e
  have h2 := owns_chg h.lk hc fun g hg e => (own_hasT h.lk hg).ne (hovT g e) (by decide) rfl
  have h3 := owns_chg h.cl hc fun g hg e => (own_hasT h.cl hg).ne (hovT g e) (by decide) rfl
  refine ⟨(hc.mono fun i hi => .inl (.inr (.inl (hovT i hi)))).setCell (.inl (.inl rfl)) _, (hc.mono fun i hi => .inl (h.fov i hi)).setCell (.inl h.fb) _, hblk.set_ 4 v', hset h1 (by decide), hset h2 (by decide), hset h3 (by decide), hset hown (by decide), fun g hg hv => ?_, h.ne2, fun g hg => .inl (h.flv g hg), fun g hg => .inl (h.fcv g hg), fun g hg => (hb g hg).imp (h.fov g) id⟩
  rcases hb g hv with e | e
  · exact h.ne1 g hg e
  · have := hlt g (h.fav g hg); omega

/-- the step is done. -/
theorem RMid.done {w0 : World} {lv0 cv0 ov0 : Value} {s' : Sc} {i : Nat} {ga capa : Nat} (h : RAt W b F r tv (.slice (some ⟨ga, 0, none⟩) r.T.length capa) lv0 cv0 ov0 vals) (hx : Ext w0 W) (hlt : ∀ k, F k → k < w0.heap.size) (m : RMid W w b F r tv (.slice (some ⟨ga, 0, none⟩) r.T.length capa) lv cv ov L' C' out') (hi : i < r.T.length)
    (ha : r.A.getD i 0 < (r.T.getD i []).length) (hs : absS { r with A := r.A.set i (r.A.getD i 0 + 1), L := L', C := C', out := out' } = s') (hfew : L'.length + C'.length + out'.length ≤ r.L.length + r.C.length + r.out.length + 1) (n : Nat) :
    RTurned w0 b F s' ((w.setCell ⟨ga, i, none⟩ (.int .i64 ((r.A.getD i 0 : Nat) + 1 : Int))).drewN n) := by
  have hsz := hx.size
  have hbga : (Value.slice (some ⟨ga, 0, none⟩) r.T.length capa).ownBlock = some ga := rfl
  have hgaT := own_hasT h.at_ hbga
  have hgaF := h.fav ga hbga
  have hgl : ga < w.heap.size := (owns_lt m.at_ ga hbga).2
  have hset : ∀ {v : Value} {B s n : Nat} {e : TypeId} {xs : List Value} (u : Value), w.ownsRow B e s v n xs → v.ownBlock ≠ some ga → (w.setCell ⟨ga, i, none⟩ u).ownsRow B e s v n xs := fun u ho he => owns_blocks ho fun k hk => Below.heap_setCell w _ _ k fun e => he (by rw [hk, e])
  have hTga := own_hasT m.at_ hbga
  have hat := m.at_
  rw [h.len] at hat
  obtain ⟨s1, -⟩ := hat.stored i (.int .i64 ((r.A.getD i 0 : Nat) + 1 : Int))
  have hW := fun (k : Nat) (hk : F k) => Nat.lt_of_lt_of_le (hlt k hk) hsz
  have hcF := m.chF.setCell (p := ⟨ga, i, none⟩) (.inl hgaF) (.int .i64 ((r.A.getD i 0 : Nat) + 1 : Int))
  refine ⟨{ r with A := r.A.set i (r.A.getD i 0 + 1), L := L', C := C', out := out' }, Grew F w0 ((w.setCell ⟨ga, i, none⟩ (.int .i64 ((r.A.getD i 0 : Nat) + 1 : Int))).drewN n), ⟨⟨tv, .slice (some ⟨ga, 0, none⟩) r.T.length capa, lv, cv, ov, vals, ?_⟩, fun k hk => ?_⟩, hs, ?_, fun k hk => hk.imp id (·.1)⟩
  · have hnew : ∀ {v : Value} {B s q : Nat} {e : TypeId} {xs : List Value}, w.ownsRow B e s v q xs → (∀ g, v.ownBlock = some g → F g ∨ W.heap.size ≤ g) → ∀ g, v.ownBlock = some g → Grew F w0 ((w.setCell ⟨ga, i, none⟩ (.int .i64 ((r.A.getD i 0 : Nat) + 1 : Int))).drewN n) g := fun ho hf g hg => (hf g hg).imp id fun hl => ⟨by omega, by
      have := (owns_lt ho g hg).2
      show g < (w.setCell _ _).heap.size
      rw [World.size_setCell]; exact this⟩
    refine h.final (r' := { r with A := r.A.set i (r.A.getD i 0 + 1), L := L', C := C', out := out' }) hW ((m.chg.setCell (p := ⟨ga, i, none⟩) (.inl (.inr (.inl hgaT))) _).drewN n) (fun k hk => .inl hk) rfl ((m.blk.far (p := ⟨ga, i, none⟩) (fun e => own_blk_ne m.at_ m.blk (by decide) (by rw [hbga]; exact congrArg some e.symm)) _).drewN n) ?_
      (owns_blocks (hset _ m.lk fun e => (own_hasT m.lk e).ne hTga (by decide) rfl) fun _ _ => rfl) (owns_blocks (hset _ m.cl fun e => (own_hasT m.cl e).ne hTga (by decide) rfl) fun _ _ => rfl) (owns_blocks (hset _ m.said fun e => m.ne1 ga hbga e) fun _ _ => rfl)
      m.ne1 m.ne2 (hnew m.lk m.nlv) (hnew m.cl m.ncv) (hnew m.said m.nov) (by rw [List.length_set]; exact h.len) (fun j hj => ?_) ?_
    · show (World.drewN _ n).ownsRow _ _ _ _ (r.A.set i (r.A.getD i 0 + 1)).length (natsL (r.A.set i (r.A.getD i 0 + 1)))
      rw [List.length_set, natsL_set, h.len]
      exact owns_blocks s1 fun _ _ => rfl
    · show (r.A.set i (r.A.getD i 0 + 1)).getD j 0 ≤ _
      rw [getD_set _ _ _ _ _ (by rw [h.len]; exact hi)]
      split
      · rename_i e; subst e; omega
      · exact h.le j hj
    · show L'.length + C'.length + out'.length + total (absT r.T (r.A.set i (r.A.getD i 0 + 1))) ≤ 10000
      have := total_gone hi h.len ha
      have := h.few
      omega
  · have h1 := hcF.size
    rcases hk with hk | ⟨-, hk⟩
    · have := hW k hk
      show k < (w.setCell _ _).heap.size
      omega
    · exact hk
  · exact ((Chg.of_ext hx F).trans hcF fun i hi => .inl hi).drewN n
end

section
variable {r : Rf} {i : Nat} {x : St} {rest : List St}
theorem abs_lock (hi : i < r.T.length) (hl : r.A.length = r.T.length) (hr : (r.T.getD i []).drop (r.A.getD i 0 + 1) = rest) (e : x.op = 1) : absS { r with A := r.A.set i (r.A.getD i 0 + 1), L := putP r.L x.a i, C := r.C, out := r.out } = sStep (absS r) i x rest := by
  unfold sStep stepD
  rw [if_pos e]
  unfold sGone sLock absS
  dsimp only
  rw [absT_set hi hl, hr, lookP_put]
theorem abs_free (hi : i < r.T.length) (hl : r.A.length = r.T.length) (hr : (r.T.getD i []).drop (r.A.getD i 0 + 1) = rest) (e : x.op = 2) : absS { r with A := r.A.set i (r.A.getD i 0 + 1), L := dropP r.L x.a, C := r.C, out := r.out } = sStep (absS r) i x rest := by
  unfold sStep stepD
  rw [if_neg (by omega), if_pos e]
  unfold sGone sFree absS
  dsimp only
  rw [absT_set hi hl, hr, lookP_drop]
theorem abs_add (hi : i < r.T.length) (hl : r.A.length = r.T.length) (hr : (r.T.getD i []).drop (r.A.getD i 0 + 1) = rest) (e : x.op = 3) : absS { r with A := r.A.set i (r.A.getD i 0 + 1), L := r.L, C := putP r.C x.a (IntKind.i64.wrap ((lookP r.C x.a).getD 0 + x.b)), out := r.out } = sStep (absS r) i x rest := by
  unfold sStep stepD
  rw [if_neg (by omega), if_neg (by omega), if_pos e]
  unfold sGone sAdd absS
  dsimp only
  rw [absT_set hi hl, hr, lookP_put]
theorem abs_wait (hi : i < r.T.length) (hl : r.A.length = r.T.length) (hr : (r.T.getD i []).drop (r.A.getD i 0 + 1) = rest) (e : x.op = 4) : absS { r with A := r.A.set i (r.A.getD i 0 + 1), L := r.L, C := r.C, out := r.out } = sStep (absS r) i x rest := by
  unfold sStep stepD
  rw [if_neg (by omega), if_neg (by omega), if_neg (by omega), if_pos e]
  unfold sGone absS
  dsimp only
  rw [absT_set hi hl, hr]
theorem abs_say (hi : i < r.T.length) (hl : r.A.length = r.T.length) (hr : (r.T.getD i []).drop (r.A.getD i 0 + 1) = rest) (e : x.op = 5) : absS { r with A := r.A.set i (r.A.getD i 0 + 1), L := r.L, C := r.C, out := r.out ++ [x.a] } = sStep (absS r) i x rest := by
  unfold sStep stepD
  rw [if_neg (by omega), if_neg (by omega), if_neg (by omega), if_neg (by omega)]
  unfold sGone sSay absS
  dsimp only
  rw [absT_set hi hl, hr]
end

end Go.Proofs.Ytfgfbmmidijgoaa
