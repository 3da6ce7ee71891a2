/- A scheduler and a reference side by side, beside blocks of the law's own. -/
import Derived.Test.YtfgfbmmidijgoaaRefI
import Derived.Test.YtfgfbmmidijgoaaRefNX
namespace Go.Proofs.Ytfgfbmmidijgoaa
open Go.RowKit
set_option linter.unusedVariables false

/-- a scheduler and a reference that are the scheduler s both, and the law's own blocks R. -/
structure Two (W w : World) (bs br : Nat) (s t : Sc) (R : Nat → Prop) : Prop where
  is : ∃ Fs Fr r, SchIs w bs Fs s ∧ RIs w br Fr r ∧ absS r = t ∧ (∀ k, Fs k → ¬ Fr k) ∧ (∀ k, Fs k → W.heap.size ≤ k) ∧ (∀ k, Fr k → W.heap.size ≤ k) ∧ ∀ k, R k → ¬ Fs k ∧ ¬ Fr k
  lt : ∀ k, R k → k < w.heap.size
  ext : Ext W w
  p0 : s.pend = 0

/-- the law's own blocks, and all that came in. -/
def OwnIn (W : World) (R : Nat → Prop) : Nat → Prop := fun k => R k ∨ k < W.heap.size

section
variable {W w w' : World} {bs br : Nat} {s t : Sc} {R R' : Nat → Prop}
theorem Two.later (h : Two W w bs br s t R) (hx : Ext w w') : Two W w' bs br s t R := by
  obtain ⟨⟨Fs, Fr, r, h1, h2, h3, h4⟩, h5, h6, h7⟩ := h
  exact ⟨⟨Fs, Fr, r, h1.later hx, h2.later hx, h3, h4⟩, fun k hk => Nat.lt_of_lt_of_le (h5 k hk) hx.size, h6.trans hx, h7⟩
/-- blocks that are new are the law's own. -/
theorem Two.more (h : Two W w bs br s t R) (hx : Ext w w') (hR : ∀ k, R' k → (R k ∨ w.heap.size ≤ k) ∧ k < w'.heap.size) : Two W w' bs br s t R' := by
  obtain ⟨⟨Fs, Fr, r, h1, h2, h3, h4, h5, h6, h7⟩, h8, h9, h10⟩ := h
  refine ⟨⟨Fs, Fr, r, h1.later hx, h2.later hx, h3, h4, h5, h6, fun k hk => ?_⟩, fun k hk => (hR k hk).2, h9.trans hx, h10⟩
  rcases (hR k hk).1 with hh | hh
  · exact h7 k hh
  · exact ⟨fun hf => by have := h1.lt k hf; omega, fun hf => by have := h2.lt k hf; omega⟩
/-- what writes to the law's own blocks alone leaves both. -/
theorem Two.chg (h : Two W w bs br s t R) (hc : Chg R w w') (hW : ∀ k, R k → W.heap.size ≤ k) : Two W w' bs br s t R := by
  obtain ⟨⟨Fs, Fr, r, h1, h2, h3, h4, h5, h6, h7⟩, h8, h9, h10⟩ := h
  exact ⟨⟨Fs, Fr, r, h1.chg hc fun k hk hr => (h7 k hr).1 hk, h2.chg hc fun k hk hr => (h7 k hr).2 hk, h3, h4, h5, h6, h7⟩, fun k hk => Nat.lt_of_lt_of_le (h8 k hk) hc.size, hc.ext h9 hW, h10⟩
theorem kept_in (h : Ext W w) (h' : Ext W w') (hk : Kept R w w') : Kept (OwnIn W R) w w' := fun k hh => hh.elim (hk k) fun hlt => (h'.below.block k hlt).trans (h.below.block k hlt).symm
theorem Kept.trans {w1 : World} (h : Kept R w w1) (k : Kept R w1 w') : Kept R w w' := fun i hi => (k i hi).trans (h i hi)
theorem Kept.ext (hx : Ext w w') (hlt : ∀ k, R k → k < w.heap.size) : Kept R w w' := fun k hk => hx.below.block k (hlt k hk)
theorem Two.in_lt (h : Two W w bs br s t R) : ∀ k, OwnIn W R k → k < w.heap.size := fun k hk => hk.elim (h.lt k) fun hh => Nat.lt_of_lt_of_le hh h.ext.size

theorem t_go (h : Two W w bs br s t R) (pick : Int) :
    Calls Try.prog 14 #[.pointer (some ⟨bs, 0, none⟩), .int .i64 pick] w fun e w' => e = .returned (.tuple #[.int .i64 (goR s pick).1, .int .i64 (goR s pick).2.1]) ∧ Two W w' bs br (goR s pick).2.2 t R ∧ Kept (OwnIn W R) w w' := by
  obtain ⟨⟨Fs, Fr, r, h1, h2, h3, h4, h5, h6, h7⟩, h8, h9, h10⟩ := h
  refine (go_any bs Fs s pick w h1 h10).mono ?_
  rintro e w' ⟨rfl, hT, hC⟩
  have hx := hC.ext h9 h5
  refine ⟨rfl, ⟨⟨_, Fr, r, hT, h2.chg hC fun k hk hs => h4 k hs hk, h3, fun k hk hr => hk.elim (fun hs => h4 k hs hr) fun hh => ?_, fun k hk => hk.elim (h5 k) fun hh => Nat.le_trans h9.size hh.1, h6, fun k hk => ⟨fun hk' => hk'.elim (h7 k hk).1 fun hh => ?_, (h7 k hk).2⟩⟩, fun k hk => Nat.lt_of_lt_of_le (h8 k hk) hC.size, hx, goR_pend h10 pick⟩, kept_in h9 hx fun k hk => hC.block k (h8 k hk) (h7 k hk).1⟩
  · have := h2.lt k hr
    omega
  · have := h8 k hk
    omega
theorem t_rgo (h : Two W w bs br s t R) (pick : Int) (wp : (Lit.int .i64 pick).wf = true) :
    Calls Try.prog 22 #[.pointer (some ⟨br, 0, none⟩), .int .i64 pick] w fun e w' => e = .returned (.tuple #[.int .i64 (goR t pick).1, .int .i64 (goR t pick).2.1]) ∧ Two W w' bs br s (goR t pick).2.2 R ∧ Kept (OwnIn W R) w w' := by
  obtain ⟨⟨Fs, Fr, r, h1, h2, h3, h4, h5, h6, h7⟩, h8, h9, h10⟩ := h
  subst h3
  refine (rgo_any br Fr r pick wp w h2).mono ?_
  rintro e w' ⟨rfl, r', F', hT, hs, hC, hF⟩
  have hx := hC.ext h9 h6
  refine ⟨rfl, ⟨⟨Fs, F', r', h1.chg hC fun k hk hr => h4 k hk hr, hT, hs, fun k hk hr => (hF k hr).elim (h4 k hk) fun hh => ?_, h5, fun k hk => (hF k hk).elim (h6 k) fun hh => Nat.le_trans h9.size hh, fun k hk => ⟨(h7 k hk).1, fun hk' => (hF k hk').elim (h7 k hk).2 fun hh => ?_⟩⟩, fun k hk => Nat.lt_of_lt_of_le (h8 k hk) hC.size, hx, h10⟩, kept_in h9 hx fun k hk => hC.block k (h8 k hk) (h7 k hk).2⟩
  · have := h1.lt k hk
    omega
  · have := h8 k hk
    omega
theorem t_enabled (h : Two W w bs br s t R) : Calls Try.prog 13 #[.pointer (some ⟨bs, 0, none⟩)] w fun r w' => ∃ v, r = .returned v ∧ w'.ownsRow w.heap.size 3 1 v (enL s s.ts.length).length (ints (enL s s.ts.length)) ∧ Ext w w' := by
  obtain ⟨Fs, Fr, r, h1, -⟩ := h.is
  refine (enabled_any bs Fs s w h1).mono ?_
  rintro e w' ⟨v, rfl, hR⟩
  exact ⟨v, rfl, hR.row, hR.ext⟩
theorem t_renabled (h : Two W w bs br s t R) : Calls Try.prog 33 #[.pointer (some ⟨br, 0, none⟩)] w fun r w' => ∃ v, r = .returned v ∧ w'.ownsRow w.heap.size 3 1 v (enL t t.ts.length).length (ints (enL t t.ts.length)) ∧ Ext w w' := by
  obtain ⟨Fs, Fr, r, -, h2, rfl, -⟩ := h.is
  refine (renabled_any br Fr r w h2).mono ?_
  rintro e w' ⟨v, rfl, hR⟩
  exact ⟨v, rfl, hR.row, hR.ext⟩
theorem t_said (h : Two W w bs br s t R) : Calls Try.prog 15 #[.pointer (some ⟨bs, 0, none⟩)] w fun r w' => ∃ v, r = .returned v ∧ w'.ownsRow w.heap.size 3 1 v s.out.length (s.out.map (Value.int .i64)) ∧ Ext w w' := by
  obtain ⟨Fs, Fr, r, h1, -⟩ := h.is
  refine (said_any bs Fs s w h1).mono ?_
  rintro e w' ⟨v, rfl, hR⟩
  exact ⟨v, rfl, hR.row, hR.ext⟩
theorem t_left (h : Two W w bs br s t R) (i : Int) (hi : (Lit.int .i64 i).wf = true) : Calls Try.prog 18 #[.pointer (some ⟨bs, 0, none⟩), .int .i64 i] w fun r w' => r = .returned (.tuple #[.int .i64 (leftI s i).1, .int .i64 (leftI s i).2]) ∧ Ext w w' := by
  obtain ⟨Fs, Fr, r, h1, -⟩ := h.is
  exact leftOf_any bs Fs s i hi w h1
theorem t_rleft (h : Two W w bs br s t R) (i : Int) (hi : (Lit.int .i64 i).wf = true) : Calls Try.prog 38 #[.pointer (some ⟨br, 0, none⟩), .int .i64 i] w fun r w' => r = .returned (.tuple #[.int .i64 (leftI t i).1, .int .i64 (leftI t i).2]) ∧ Ext w w' := by
  obtain ⟨Fs, Fr, r, -, h2, rfl, -⟩ := h.is
  exact rleft_any br Fr r i hi w h2
theorem t_holder (h : Two W w bs br s t R) (c : Int) (hc : (Lit.int .i64 c).wf = true) : Calls Try.prog 16 #[.pointer (some ⟨bs, 0, none⟩), .int .i64 c] w fun r w' => r = .returned (.tuple #[.int .i64 ((s.lk c).getD 0), .bool (s.lk c).isSome]) ∧ Ext w w' := by
  obtain ⟨Fs, Fr, r, h1, -⟩ := h.is
  exact holder_any bs Fs s c hc w h1
theorem t_rholder (h : Two W w bs br s t R) (c : Int) : Calls Try.prog 34 #[.pointer (some ⟨br, 0, none⟩), .int .i64 c] w fun r w' => r = .returned (.tuple #[.int .i64 ((t.lk c).getD 0), .bool (t.lk c).isSome]) ∧ w = w' := by
  obtain ⟨Fs, Fr, r, -, h2, rfl, -⟩ := h.is
  exact rholder_any br Fr r c w h2
theorem t_cell (h : Two W w bs br s t R) (c : Int) (hc : (Lit.int .i64 c).wf = true) : Calls Try.prog 17 #[.pointer (some ⟨bs, 0, none⟩), .int .i64 c] w fun r w' => r = .returned (.int .i64 ((s.cl c).getD 0)) ∧ Ext w w' := by
  obtain ⟨Fs, Fr, r, h1, -⟩ := h.is
  exact cell_any bs Fs s c hc w h1
theorem t_rcell (h : Two W w bs br s t R) (c : Int) : Calls Try.prog 37 #[.pointer (some ⟨br, 0, none⟩), .int .i64 c] w fun r w' => r = .returned (.int .i64 ((t.cl c).getD 0)) ∧ w = w' := by
  obtain ⟨Fs, Fr, r, -, h2, rfl, -⟩ := h.is
  exact rcell_any br Fr r c w h2
/-- what is read of the reference itself. -/
theorem Two.out (h : Two W w bs br s t R) : ∃ p cap, w.cell? ⟨br, 4, none⟩ = some (.slice p t.out.length cap) ∧ w.ownsRow (br + 1) 3 1 (.slice p t.out.length cap) t.out.length (t.out.map (Value.int .i64)) ∧ br < w.heap.size ∧ t.out.length ≤ 10000 := by
  obtain ⟨Fs, Fr, r, -, ⟨⟨tv, av, lv, cv, ov, vals, h2⟩, -⟩, rfl, -⟩ := h.is
  obtain ⟨p, cap, rfl, -⟩ := owns_form h2.said
  exact ⟨p, cap, h2.blk.cell 4, h2.said, h2.blk.lt, by have := h2.few; show r.out.length ≤ _; omega⟩
theorem Two.tasks (h : Two W w bs br s t R) : ∃ p cap, w.cell? ⟨br, 0, none⟩ = some (.slice p t.ts.length cap) ∧ br < w.heap.size ∧ t.ts.length ≤ 64 := by
  obtain ⟨Fs, Fr, r, -, ⟨⟨tv, av, lv, cv, ov, vals, h2⟩, -⟩, rfl, -⟩ := h.is
  obtain ⟨p, cap, rfl, -⟩ := owns_form h2.ts
  rw [show (absS r).ts.length = r.T.length from absT_len _ _]
  exact ⟨p, cap, h2.blk.cell 0, h2.blk.lt, h2.wide⟩
/-- both are made. -/
theorem two_new {w1 w2 w3 : World} {ts : List (List St)} {Fr : Nat → Prop} {r : Rf} (hW : Ext W w1) (hR : ∀ k, R k → k < w1.heap.size) (hx2 : Ext w1 w2) (hs : SchIs w2 bs (fun k => w1.heap.size ≤ k ∧ k < w2.heap.size) (sc0 ts)) (hx3 : Ext w2 w3) (hr : RIs w3 br Fr r) (he : absS r = sc0 ts) (hf : ∀ k, Fr k → w2.heap.size ≤ k) : Two W w3 bs br (sc0 ts) (sc0 ts) R := by
  have h1 := hW.size
  have h2 := hx2.size
  have h3 := hx3.size
  exact ⟨⟨_, Fr, r, hs.later hx3, hr, he, fun k hk hk' => by have := hf k hk'; omega, fun k hk => by omega, fun k hk => by have := hf k hk; omega, fun k hk => ⟨fun hh => by have := hR k hk; omega, fun hh => by have := hR k hk; have := hf k hh; omega⟩⟩, fun k hk => by have := hR k hk; omega, (hW.trans hx2).trans hx3, rfl⟩
end

/-! ### rows of ints that are read -/
/-- a row of ints that can be read. -/
def RdI (w : World) (v : Value) (xs : List Int) : Prop := ∃ p cap, v = .slice p xs.length cap ∧ ZsAt w .i64 p xs
theorem RdI.later {w w' : World} {v : Value} {xs : List Int} (h : RdI w v xs) (hx : Ext w w') : RdI w' v xs := by
  obtain ⟨p, cap, e, h⟩ := h
  refine ⟨p, cap, e, ?_⟩
  rcases h with h | ⟨b, off, e2, hb, hc⟩
  · exact .inl h
  · exact .inr ⟨b, off, e2, Nat.lt_of_lt_of_le hb hx.size, fun i hi => (hx.cell b _ hb).trans (hc i hi)⟩
theorem RdI.own {w : World} {B : Nat} {v : Value} {xs : List Int} (h : w.ownsRow B 3 1 v xs.length (xs.map (Value.int .i64))) : RdI w v xs := by
  obtain ⟨p, cap, rfl, -, -, hp⟩ := owns_form h
  refine ⟨p, cap, rfl, ?_⟩
  rcases hp with hp | ⟨g, rfl, -, hg⟩
  · exact .inl (List.eq_nil_of_length_eq_zero hp)
  · refine .inr ⟨g, 0, rfl, hg, fun i hi => ?_⟩
    rw [Nat.zero_add, h.cellAt i (by omega), List.getElem?_map, List.getElem?_eq_getElem hi]
    rfl
theorem ZsAt.kept {w w' : World} {R : Nat → Prop} {p : Option Addr} {xs : List Int} (h : ZsAt w .i64 p xs) (hk : Kept R w w') (hp : ∀ a, p = some a → R a.block) : ZsAt w' .i64 p xs := by
  rcases h with h | ⟨b, off, rfl, hb, hc⟩
  · exact .inl h
  · have hk' := hk b (hp _ rfl)
    rw [Array.getElem?_eq_getElem hb] at hk'
    exact .inr ⟨b, off, rfl, (Array.getElem?_eq_some_iff.1 hk').1, fun i hi => (World.cell?_of_block (hk b (hp _ rfl))).trans (hc i hi)⟩
theorem ints_map (l : List Nat) : ints l = (l.map fun (j : Nat) => (j : Int)).map (Value.int .i64) := by
  unfold ints
  rw [List.map_map]; rfl

set_option maxRecDepth 20000 in
set_option maxHeartbeats 2000000 in
/-- the same numbers. -/
theorem list_same (v1 v2 : Value) (xs : List Int) (w : World) (h1 : RdI w v1 xs) (h2 : RdI w v2 xs) (hn : xs.length ≤ 10000) :
    Calls Try.prog 26 #[v1, v2] w fun e w' => e = .returned (.bool true) ∧ Ext w w' := by
  obtain ⟨p1, cap1, rfl, z1⟩ := h1
  obtain ⟨p2, cap2, rfl, z2⟩ := h2
  have H1 := Lib.hid z1
  have H2 := Lib.hid z2
  clear z1 z2
  go_enter Try.func26, Try.ntmps26
  go_wp2
  go_loopw [5] (fun i wr => ∃ k : Nat, k ≤ xs.length ∧ i = .int .i64 k ∧ Hid (Ext w wr)) (fun i _ => xs.length - (intOf i).toNat)
  case atStart => exact ⟨0, by omega, rfl, Lib.hid (Ext.refl _)⟩
  case round =>
    obtain ⟨k, hk, rfl, hX⟩ := hrel
    by_cases hlt : k < xs.length
    · obtain ⟨b1, o1, rfl, hb1, c1⟩ := H1.out.get hlt hX.out
      obtain ⟨b2, o2, rfl, hb2, c2⟩ := H2.out.get hlt hX.out
      generalize xs.getD k 0 = z at *
      go_wp2_with fail
      go_quiet (fail)
      go_wp2_with fail
      go_roundw
      case rel => exact ⟨k + 1, by omega, by go_num, Lib.hid (hX.out.drewN' _)⟩
      case measure => simp [intOf]; omega
    · go_wp2_with fail
      go_ret
      exact ⟨rfl, hX.out⟩

/-! ### Play -/
def playR : List Int → Nat → Sc → Int × Int × Sc
  | [], n, s => ((n : Int), 0, s)
  | p :: r, n, s => if (goR s p).2.1 = 0 then playR r (n + 1) (goR s p).2.2 else ((n : Int), (goR s p).2.1, (goR s p).2.2)
theorem playR_cons {ps : List Int} {k : Nat} {s : Sc} (h : k < ps.length) : playR (ps.drop k) k s = if (goR s (ps.getD k 0)).2.1 = 0 then playR (ps.drop (k + 1)) (k + 1) (goR s (ps.getD k 0)).2.2 else ((k : Int), (goR s (ps.getD k 0)).2.1, (goR s (ps.getD k 0)).2.2) := by
  rw [List.drop_eq_getElem_cons h, List.getD_eq_getElem?_getD, List.getElem?_eq_getElem h]
  rfl

end Go.Proofs.Ytfgfbmmidijgoaa
