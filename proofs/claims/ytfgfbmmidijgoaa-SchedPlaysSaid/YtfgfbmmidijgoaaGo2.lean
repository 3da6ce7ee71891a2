/- The contract of a scheduler's Go: a step is done. -/
import Derived.Test.YtfgfbmmidijgoaaGo
namespace Go.Proofs.Ytfgfbmmidijgoaa
open Go.RowKit
set_option linter.unusedVariables false

/-- what a step does, but for its own going. -/
def stepD (s : Sc) (i : Nat) (x : St) : Sc := if x.op = 1 then sLock s i x else if x.op = 2 then sFree s x else if x.op = 3 then sAdd s x else if x.op = 4 then { s with pend := 1 } else sSay s x
theorem stepD_ts (s : Sc) (i : Nat) (x : St) : (stepD s i x).ts = s.ts := by
  unfold stepD sLock sFree sAdd sSay
  split
  · rfl
  split
  · rfl
  split
  · rfl
  split <;> rfl
theorem stepD_over (s : Sc) (i : Nat) (x : St) : (stepD s i x).over = s.over := by
  unfold stepD sLock sFree sAdd sSay
  split
  · rfl
  split
  · rfl
  split
  · rfl
  split <;> rfl
theorem do_ok (b : Nat) (F : Nat → Prop) (s : Sc) (i : Nat) (x : St) (w : World) (h : SchIs w b F s) (h0 : s.pend = 0) (hx : x.Ok) (hi : i ≤ 64) (hl : x.op = 2 → s.lk x.a = some (i : Int)) :
    Calls Try.prog 31 #[.pointer (some ⟨b, 0, none⟩), .int .i64 i, .agg #[.int .i64 x.op, .int .i64 x.a, .int .i64 x.b]] w fun r w' => r = .returned (.tuple #[]) ∧ Turned w b F (stepD s i x) w' := by
  unfold stepD
  by_cases e1 : x.op = 1
  · rw [if_pos e1]; exact do_lock b F s i x w h h0 hx e1 hi
  rw [if_neg e1]
  by_cases e2 : x.op = 2
  · rw [if_pos e2]; exact do_free b F s i x w h h0 hx e2 hi (hl e2)
  rw [if_neg e2]
  by_cases e3 : x.op = 3
  · rw [if_pos e3]; exact do_add b F s i x w h h0 hx e3 hi
  rw [if_neg e3]
  by_cases e4 : x.op = 4
  · rw [if_pos e4]; exact do_wait b F s i x w h h0 hx e4 hi
  rw [if_neg e4]
  exact do_say b F s i x w h h0 hx (by have := hx.op1; have := hx.op5; omega) hi

theorem enB_head {s : Sc} {i : Nat} (h : enB s i = true) : ∃ x r, s.ts.getD i [] = x :: r ∧ waitsB s x = false ∧ s.over = false ∧ i < s.ts.length := by
  unfold enB at h
  cases ho : s.over
  · rw [ho] at h
    cases ht : s.ts.getD i [] with
    | nil => rw [ht] at h; cases h
    | cons x r =>
      rw [ht] at h
      refine ⟨x, r, rfl, by simpa using h, rfl, Nat.lt_of_not_le fun hc => ?_⟩
      rw [List.getD_eq_getElem?_getD, List.getElem?_eq_none hc] at ht
      cases ht
  · rw [ho] at h; cases h
theorem enL_mem {s : Sc} {n k i : Nat} (h : (enL s n)[k]? = some i) : enB s i = true ∧ i < n ∧ k < (enL s n).length := by
  have hm := List.mem_of_getElem? h
  unfold enL at hm
  rw [List.mem_filter] at hm
  obtain ⟨hk, -⟩ := List.getElem?_eq_some_iff.1 h
  exact ⟨hm.2, by simpa using hm.1, hk⟩

theorem pick_mod (p n : Int) (hn : 0 < n) : -n < p.tmod n ∧ p.tmod n < n ∧ (p.tmod n + n) % n = p % n := by
  have h1 := Int.tmod_lt_of_pos p hn
  have h2 : -n < p.tmod n := by
    have h3 := Int.tmod_lt_of_pos (-p) hn
    rw [Int.neg_tmod] at h3
    omega
  refine ⟨h2, h1, ?_⟩
  rw [Int.add_emod_right]
  have h4 := Int.mul_tdiv_add_tmod p n
  have h5 : p = p.tmod n + n * p.tdiv n := by omega
  conv => rhs; rw [h5]
  rw [Int.add_mul_emod_self_left]

/-- what Enabled's row holds at a place. -/
theorem enrel_at {w w3 : World} {s : Sc} {v : Value} {n k i : Nat} (h : EnRel w w3 s v s.ts.length) (hn : (enL s s.ts.length).length = n) (hk : (enL s s.ts.length)[k]? = some i) :
    ∃ gl capl, v = .slice (some ⟨gl, 0, none⟩) (enL s s.ts.length).length capl ∧ gl < w3.heap.size ∧ w3.cell? ⟨gl, k, none⟩ = some (.int .i64 (i : Nat)) := by
  obtain ⟨hkl, -⟩ := List.getElem?_eq_some_iff.1 hk
  have hrow := h.row
  obtain ⟨pv, capv, rfl, -, -, hpv⟩ := owns_form hrow
  rcases hpv with hpv | ⟨gl, rfl, -, hgl⟩
  · omega
  · refine ⟨gl, capv, rfl, hgl, ?_⟩
    rw [hrow.cellAt k (by omega)]
    unfold ints
    rw [List.getElem?_map, hk]; rfl
/-- what Go reads of the task that it picked. -/
theorem go_facts {w3 : World} {b : Nat} {F : Nat → Prop} {s : Sc} {i : Nat} {x : St} {r : List St} (h : SchIs w3 b F s) (hi : i < s.ts.length) (hx : s.ts.getD i [] = x :: r) :
    ∃ gt capt g off cap, b < w3.heap.size ∧ w3.cell? ⟨b, 0, none⟩ = some (.slice (some ⟨gt, 0, none⟩) s.ts.length capt) ∧ w3.cell? ⟨gt, i, none⟩ = some (.slice (some ⟨g, off, none⟩) (r.length + 1) cap) ∧
      w3.cell? ⟨g, off, none⟩ = some (.int .i64 x.op) ∧ w3.cell? ⟨g, off + 1, none⟩ = some (.int .i64 x.a) ∧ w3.cell? ⟨g, off + 2, none⟩ = some (.int .i64 x.b) := by
  obtain ⟨⟨tv, sv, vals, bl, bc, nl, nc, a1⟩, a2⟩ := h
  obtain ⟨pt, capt, rfl, hopen⟩ := a1.open_
  obtain ⟨gt, p, cap, rfl, -, -, hct, hst⟩ := hopen i hi
  rw [hx] at hct hst
  obtain ⟨g, off, cap', e3, -, -, -, -, x0, x1, x2⟩ := hst.head
  cases e3
  exact ⟨gt, capt, g, off, cap, a1.blk.lt, a1.blk.cell 0, hct, x0, x1, x2⟩

/-- what Go reads behind the step, and what it leaves. -/
theorem go_facts5 {w W w5 : World} {b : Nat} {F : Nat → Prop} {s1 : Sc} {i : Nat} {x : St} {r : List St} (h : Turned W b F s1 w5) (hx : Ext w W) (hlt : ∀ k, F k → k < w.heap.size) (hsz : w.heap.size + 1 + 1 ≤ W.heap.size) (hi : i < s1.ts.length) (hxr : s1.ts.getD i [] = x :: r) :
    ∃ gt capt g off cap, b < w5.heap.size ∧ gt < w5.heap.size ∧ gt ≠ w.heap.size ∧ gt ≠ w.heap.size + 1 ∧ r.length + 1 ≤ cap ∧ w.heap.size + 1 + 1 ≤ w5.heap.size ∧ w5.cell? ⟨b, 0, none⟩ = some (.slice (some ⟨gt, 0, none⟩) s1.ts.length capt) ∧ w5.cell? ⟨gt, i, none⟩ = some (.slice (some ⟨g, off, none⟩) (r.length + 1) cap) ∧ w5.frozen? ⟨gt, i, none⟩ = false ∧
      (∀ k, w.heap.size ≤ k → k < W.heap.size → w5.heap[k]? = W.heap[k]?) ∧
      ∀ (a' : Addr) (n : Nat) (u : Value), (r ≠ [] → a' = ⟨g, off + 3, none⟩) → Turned w b F (sGone s1 i r) (((w5.setCell ⟨gt, i, none⟩ (.slice (some a') r.length (cap - 1))).setCell ⟨w.heap.size + 1, 0, none⟩ u).drewN n) := by
  obtain ⟨⟨⟨tv, sv, vals, bl, bc, nl, nc, a1⟩, a2⟩, hc⟩ := h
  obtain ⟨pt, capt, rfl, hopen⟩ := a1.open_
  obtain ⟨gt, p, cap, rfl, hbgt, hgt, hct, hst⟩ := hopen i hi
  rw [hxr] at hct hst
  obtain ⟨g, off, cap', e3, hcap, -, -, -, -, -, -⟩ := hst.head
  cases e3
  have hno : ∀ k, w.heap.size ≤ k → k < W.heap.size → ¬ Grew F W w5 k := fun k h1 h2 hk => by
    rcases hk with hk | hk
    · have := hlt k hk; omega
    · omega
  have hgt' := a1.ftv gt rfl
  have h5 := hc.size
  refine ⟨gt, capt, g, off, cap, a1.blk.lt, hgt, fun e => hno gt (by omega) (by omega) hgt', fun e => hno gt (by omega) (by omega) hgt', hcap, by omega, a1.blk.cell 0, hct, a1.ts.frozenAt i, fun k h1 h2 => hc.block k h2 fun hk => by have := hlt k hk; omega, fun a' n u ha => ?_⟩
  exact turned_step hx hlt (by omega) (by omega) hc a1 a2 hi hxr hst ha n u

theorem go_res {w5 : World} {g i q : Nat} {u v v' : Value} (hne : g ≠ q) (h : w5.cell? ⟨q, 0, none⟩ = some v) : (((w5.setCell ⟨g, i, none⟩ v').setCell ⟨q, 0, none⟩ u).drew).cell? ⟨q, 0, none⟩ = some u := by
  show ((w5.setCell ⟨g, i, none⟩ v').setCell ⟨q, 0, none⟩ u).cell? ⟨q, 0, none⟩ = some u
  exact set_same ((set_other (ne_block hne)).trans h)

/-- a step that is done. -/
def sStep (s : Sc) (i : Nat) (x : St) (r : List St) : Sc := sGone (stepD s i x) i r

set_option maxRecDepth 20000 in
set_option maxHeartbeats 8000000 in
theorem go_step (b : Nat) (F : Nat → Prop) (s : Sc) (pick : Int) (w : World) (h : SchIs w b F s) (h0 : s.pend = 0) (n k i : Nat) (hn : (enL s s.ts.length).length = n) (hp : (pick % (n : Int)).toNat = k) (hk : (enL s s.ts.length)[k]? = some i) (x : St) (r : List St) (hx : s.ts.getD i [] = x :: r) (hu : x.op = 2 → s.lk x.a = some (i : Int)) :
    Calls Try.prog 14 #[.pointer (some ⟨b, 0, none⟩), .int .i64 pick] w fun e w' => e = .returned (.tuple #[.int .i64 i, .int .i64 0]) ∧ Turned w b F (sStep s i x r) w' := by
  obtain ⟨hen, hiN, hkn⟩ := enL_mem hk
  rw [hn] at hkn
  obtain ⟨x', r', e', hwx, hov, -⟩ := enB_head hen
  rw [hx] at e'
  injection e' with e1 e2
  subst e1; subst e2
  obtain ⟨⟨tv, sv, vals, bl, bc, nl, nc, h1⟩, h2⟩ := id h
  have hN := h1.fits.wide
  have hxo := h1.fits.ok i x (by rw [hx]; simp)
  have hle := leftB_yes hiN (by rw [hx]; simp)
  have hn64 : n ≤ 64 := by have := enL_len s s.ts.length; omega
  obtain ⟨m1, m2, m3⟩ := pick_mod pick n (by omega)
  have hpk : pick % (n : Int) = (k : Int) := by
    have := Int.emod_nonneg pick (b := (n : Int)) (by omega)
    omega
  rw [hpk] at m3
  have kn : ((n : Int) == 0) = false := beq_eq_false_iff_ne.2 (by omega)
  have HDO := Lib.hid (fun w' (hx' : Ext w w') => do_ok b F s i x w' (h.later hx') h0 hxo (by omega) hu)
  have HS := Lib.hid h
  have HO := Lib.hid hov
  have HL := Lib.hid hle
  have HN := Lib.hid hn
  have HK := Lib.hid hk
  have HX0 := Lib.hid hx
  have H2 := Lib.hid h2
  have hmf : ∀ (fn : Fn) (first cap : Array Value) (w : World), (Instr.makeFunc fn first cap).run Try.prog w = .ok (.func fn first cap) w := fun _ _ _ _ => rfl
  clear h h0 hn hp hk hx hu hen hwx hov h1 h2 hxo hle hpk
  go_enter_defers Try.func14, Try.ntmps14
  go_wp2_with (first
    | (go_at_call 13; refine (enabled_any b F s _ (HS.out.later (((Ext.refl w).alloc _ _).alloc _ _))).mono ?_; rintro q w3 ⟨v, rfl, hR⟩; have hG := GoAt.of hR.ext; have d4 := (HS.out.later hG.ext).over_cell.1; rw [HO.out] at d4; have p0 := hG.p; have q0 := hG.q; have f0 := hG.f; have sz := hG.sz; have HX := Lib.hid hG.ext; obtain ⟨gl, capl, rfl, hgl, cl⟩ := enrel_at hR HN.out HK.out; rw [HN.out]; obtain ⟨gt, capt, g, off, cap, hbl, t0, hct, x0, x1, x2⟩ := go_facts (HS.out.later hG.ext) hiN HX0.out; clear hR hG)
    | (go_at_call 29; refine (left_any b F s _ (HS.out.later HX.out)).mono ?_; rintro q w4 ⟨rfl, rfl⟩; rw [HL.out]))
  refine wp_region_head 11 (by kernel_rfl) (by kernel_rfl) ?_
  simp only [List.take_succ_cons, List.take_zero, List.drop_succ_cons, List.drop_zero]
  repeat (go_big_quiet_step (fail))
  refine wpQuiet_nil ?_
  go_wp2_with (go_at_call 31; refine (HDO.out _ HX.out.drew).mono ?_; rintro q w5 ⟨rfl, hT⟩)
  obtain ⟨gt5, capt5, g5, off5, cap5, b5, hg5, ne5, ne5', hcap5, sz5, t5, ct5, fz5, hkeep, hfin⟩ := go_facts5 (w := w) (x := x) (r := r) hT HX.out.drew H2.out (by show w.heap.size + 1 + 1 ≤ w3.heap.size; exact sz) (by rw [stepD_ts]; exact hiN) (by rw [stepD_ts]; exact HX0.out)
  have p5 : w5.cell? ⟨w.heap.size, 0, none⟩ = some (.pointer (some ⟨b, 0, none⟩)) := (World.cell?_of_block (hkeep w.heap.size (Nat.le_refl _) (by show w.heap.size < w3.heap.size; omega))).trans p0
  have q5 : w5.cell? ⟨w.heap.size + 1, 0, none⟩ = some (.int .i64 0) := (World.cell?_of_block (hkeep (w.heap.size + 1) (Nat.le_succ _) (by show w.heap.size + 1 < w3.heap.size; omega))).trans q0
  have f5 : w5.frozen? ⟨w.heap.size + 1, 0, none⟩ = false := (World.frozen?_of_block (hkeep (w.heap.size + 1) (Nat.le_succ _) (by show w.heap.size + 1 < w3.heap.size; omega))).trans f0
  rw [stepD_ts] at t5
  have HF := Lib.hid hfin
  clear hT hkeep hfin t0 hct x0 x1 x2 cl d4 p0 q0 f0 HDO
  by_cases hc1 : cap5 = 1
  · subst hc1
    have hr0 : r.length = 0 := by omega
    have HR0 := Lib.hid (List.eq_nil_of_length_eq_zero hr0)
    rw [hr0] at ct5
    clear hr0 hcap5
    go_wp2_with fail
    refine wp_region_head 14 (by kernel_rfl) (by kernel_rfl) ?_
    simp only [List.take_succ_cons, List.take_zero, List.drop_succ_cons, List.drop_zero]
    repeat (go_big_quiet_step (fail))
    refine wpQuiet_nil ?_
    go_wp2_with fail
    refine leaves_cons (f := 30) (args := #[.pointer (some ⟨w.heap.size, 0, none⟩), .pointer (some ⟨w.heap.size + 1, 0, none⟩)]) (by simp) (by simp [go_sem]) ?_
    refine (catch_idle _ _ _).mono ?_
    rintro e u' w'' ⟨rfl, rfl, rfl⟩
    have hfin := HF.out ⟨g5, off5, none⟩ 1 (.int .i64 0) (fun e => absurd HR0.out e)
    rw [show r.length = 0 by rw [HR0.out]; rfl] at hfin
    exact ⟨.tuple #[.int .i64 i, .int .i64 0], by simp [results, Try.results14, go_sem, go_res ne5' q5], rfl, hfin⟩
  · go_wp2_with fail
    refine wp_region_head 14 (by kernel_rfl) (by kernel_rfl) ?_
    simp only [List.take_succ_cons, List.take_zero, List.drop_succ_cons, List.drop_zero]
    repeat (go_big_quiet_step (fail))
    refine wpQuiet_nil ?_
    go_wp2_with fail
    refine leaves_cons (f := 30) (args := #[.pointer (some ⟨w.heap.size, 0, none⟩), .pointer (some ⟨w.heap.size + 1, 0, none⟩)]) (by simp) (by simp [go_sem]) ?_
    refine (catch_idle _ _ _).mono ?_
    rintro e u' w'' ⟨rfl, rfl, rfl⟩
    exact ⟨.tuple #[.int .i64 i, .int .i64 0], by simp [results, Try.results14, go_sem, go_res ne5' q5], rfl, HF.out ⟨g5, off5 + 3, none⟩ 1 (.int .i64 0) (fun _ => rfl)⟩

set_option maxRecDepth 20000 in
set_option maxHeartbeats 8000000 in
theorem go_bad (b : Nat) (F : Nat → Prop) (s : Sc) (pick : Int) (w : World) (h : SchIs w b F s) (n k i : Nat) (hn : (enL s s.ts.length).length = n) (hp : (pick % (n : Int)).toNat = k) (hk : (enL s s.ts.length)[k]? = some i) (x : St) (r : List St) (hx : s.ts.getD i [] = x :: r) (hu2 : x.op = 2) (hu : s.lk x.a ≠ some (i : Int)) :
    Calls Try.prog 14 #[.pointer (some ⟨b, 0, none⟩), .int .i64 pick] w fun e w' => e = .returned (.tuple #[.int .i64 i, .int .i64 20]) ∧ Turned w b F { s with over := true } w' := by
  obtain ⟨hen, hiN, hkn⟩ := enL_mem hk
  rw [hn] at hkn
  obtain ⟨x', r', e', hwx, hov, -⟩ := enB_head hen
  rw [hx] at e'
  injection e' with e1 e2
  subst e1; subst e2
  obtain ⟨⟨tv, sv, vals, bl, bc, nl, nc, h1⟩, h2⟩ := id h
  have hN := h1.fits.wide
  have hxo := h1.fits.ok i x (by rw [hx]; simp)
  have hle := leftB_yes hiN (by rw [hx]; simp)
  have hn64 : n ≤ 64 := by have := enL_len s s.ts.length; omega
  obtain ⟨m1, m2, m3⟩ := pick_mod pick n (by omega)
  have hpk : pick % (n : Int) = (k : Int) := by
    have := Int.emod_nonneg pick (b := (n : Int)) (by omega)
    omega
  rw [hpk] at m3
  have kn : ((n : Int) == 0) = false := beq_eq_false_iff_ne.2 (by omega)
  have HDO := Lib.hid (fun w' (hx' : Ext w w') => do_bad b F s i x w' (h.later hx') hxo hu2 (by omega) hu)
  have HS := Lib.hid h
  have HO := Lib.hid hov
  have HL := Lib.hid hle
  have HN := Lib.hid hn
  have HK := Lib.hid hk
  have HX0 := Lib.hid hx
  have H2 := Lib.hid h2
  have hmf : ∀ (fn : Fn) (first cap : Array Value) (w : World), (Instr.makeFunc fn first cap).run Try.prog w = .ok (.func fn first cap) w := fun _ _ _ _ => rfl
  clear h hn hp hk hx hu hu2 hen hwx hov h1 h2 hxo hle hpk
  go_enter_defers Try.func14, Try.ntmps14
  go_wp2_with (first
    | (go_at_call 13; refine (enabled_any b F s _ (HS.out.later (((Ext.refl w).alloc _ _).alloc _ _))).mono ?_; rintro q w3 ⟨v, rfl, hR⟩; have hG := GoAt.of hR.ext; have d4 := (HS.out.later hG.ext).over_cell.1; rw [HO.out] at d4; have p0 := hG.p; have q0 := hG.q; have f0 := hG.f; have sz := hG.sz; have HX := Lib.hid hG.ext; obtain ⟨gl, capl, rfl, hgl, cl⟩ := enrel_at hR HN.out HK.out; rw [HN.out]; obtain ⟨gt, capt, g, off, cap, hbl, t0, hct, x0, x1, x2⟩ := go_facts (HS.out.later hG.ext) hiN HX0.out; clear hR hG)
    | (go_at_call 29; refine (left_any b F s _ (HS.out.later HX.out)).mono ?_; rintro q w4 ⟨rfl, rfl⟩; rw [HL.out]))
  refine wp_region_head 11 (by kernel_rfl) (by kernel_rfl) ?_
  simp only [List.take_succ_cons, List.take_zero, List.drop_succ_cons, List.drop_zero]
  repeat (go_big_quiet_step (fail))
  refine wpQuiet_nil ?_
  go_wp2_with (go_at_call 31; refine (HDO.out _ HX.out.drew).mono ?_; rintro q w5 ⟨rfl, hT⟩)
  have hx5 : Ext w w5 := HX.out.drew.trans hT
  have hlt0 : w.heap.size < w3.drew.heap.size := by show w.heap.size < w3.heap.size; omega
  have hlt1 : w.heap.size + 1 < w3.drew.heap.size := by show w.heap.size + 1 < w3.heap.size; omega
  have hs5 := hT.size
  have p5 : w5.cell? ⟨w.heap.size, 0, none⟩ = some (.pointer (some ⟨b, 0, none⟩)) := (World.cell?_of_block (hT.below.block _ hlt0)).trans p0
  have q5 : w5.cell? ⟨w.heap.size + 1, 0, none⟩ = some (.int .i64 0) := (World.cell?_of_block (hT.below.block _ hlt1)).trans q0
  have f5 : w5.frozen? ⟨w.heap.size + 1, 0, none⟩ = false := (World.frozen?_of_block (hT.below.block _ hlt1)).trans f0
  have h5 := HS.out.later hx5
  obtain ⟨o5, b5, fo5⟩ := h5.over_cell
  have hbw : b < w.heap.size := HS.out.over_cell.2.1
  refine leaves_cons (f := 30) (args := #[.pointer (some ⟨w.heap.size, 0, none⟩), .pointer (some ⟨w.heap.size + 1, 0, none⟩)]) (by simp) (by simp [go_sem]) ?_
  refine (catch_end w.heap.size (w.heap.size + 1) b [] w5 p5 _ o5 fo5 0 q5 f5 b5 (by omega) (by omega) (by omega) (by omega)).mono ?_
  rintro e u' w'' ⟨rfl, rfl, rfl⟩
  have qf : (((w5.setCell ⟨b, 4, none⟩ (.bool true)).setCell ⟨w.heap.size + 1, 0, none⟩ (.int .i64 20)).alloc (.cells #[] 58)).cell? ⟨w.heap.size + 1, 0, none⟩ = some (.int .i64 20) :=
    (((Ext.refl _).alloc _ _).cell _ _ (by rw [World.size_setCell, World.size_setCell]; show w.heap.size + 1 < w5.heap.size; omega)).trans (set_same ((set_other (ne_block (by omega))).trans q5))
  exact ⟨.tuple #[.int .i64 i, .int .i64 20], by simp [results, Try.results14, go_sem, qf], rfl, turned_over hx5 h5 H2.out (by omega) _ _ _⟩

end Go.Proofs.Ytfgfbmmidijgoaa
