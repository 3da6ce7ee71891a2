/- Tasks that came in: rows of rows of steps. -/
import Derived.Test.YtfgfbmmidijgoaaRefNW
import Derived.Test.YtfgfbmmidijgoaaZs
import Derived.Deep.Slices
import Derived.SizedLaws
namespace Go.Proofs.Ytfgfbmmidijgoaa
open Go.RowKit Go.ChangeShapes Go.WideShapes Go.Deep
set_option linter.unusedVariables false

/-- a row of steps that can be read, whatever block it lies in. -/
def StIn (w : World) (v : Value) (t : List St) : Prop :=
  ∃ p cap, v = .slice p t.length cap ∧ t.length ≤ cap ∧ cap ≤ maxLen ∧ (p = none → cap = 0) ∧ (t = [] ∨ ∃ g off, p = some ⟨g, off, none⟩ ∧ g < w.heap.size ∧ ∀ j, j < t.length * 3 → w.cell? ⟨g, off + j, none⟩ = (stsL t)[j]?)
theorem StIn.later {w w' : World} {v : Value} {t : List St} (h : StIn w v t) (hx : Ext w w') : StIn w' v t := by
  obtain ⟨p, cap, e, h1, h2, h0, h3⟩ := h
  refine ⟨p, cap, e, h1, h2, h0, ?_⟩
  rcases h3 with h3 | ⟨g, off, e2, hg, hc⟩
  · exact .inl h3
  · exact .inr ⟨g, off, e2, Nat.lt_of_lt_of_le hg hx.size, fun j hj => (hx.cell g _ hg).trans (hc j hj)⟩
theorem StIn.at_ {w : World} {p : Option Addr} {cap : Nat} {t : List St} (h : StIn w (.slice p t.length cap) t) {j : Nat} (hj : j < t.length) :
    ∃ g off x, p = some ⟨g, off, none⟩ ∧ g < w.heap.size ∧ t[j]? = some x ∧ w.cell? ⟨g, off + j * 3, none⟩ = some (.int .i64 x.op) ∧ w.cell? ⟨g, off + j * 3 + 1, none⟩ = some (.int .i64 x.a) ∧ w.cell? ⟨g, off + j * 3 + 2, none⟩ = some (.int .i64 x.b) := by
  obtain ⟨p', cap', e, h1, h2, -, h3⟩ := h
  cases e
  rcases h3 with rfl | ⟨g, off, e2, hF, hc⟩
  · exact absurd hj (Nat.not_lt_zero _)
  · obtain ⟨c0, c1, c2⟩ := stsL_at t j t[j] (List.getElem?_eq_getElem hj)
    exact ⟨g, off, t[j], e2, hF, List.getElem?_eq_getElem hj, (hc _ (by omega)).trans c0, (by rw [Nat.add_assoc]; exact (hc _ (by omega)).trans c1), (by rw [Nat.add_assoc]; exact (hc _ (by omega)).trans c2)⟩
theorem stin_src {w : World} {a : Addr} {cap : Nat} {t : List St} (h : StIn w (.slice (some a) t.length cap) t) : Src w 3 (.slice (some a) t.length cap) t.length (stsL t) := by
  obtain ⟨p, cap', e, h1, h2, -, h3⟩ := h
  cases e
  rcases h3 with rfl | ⟨g, off, e2, -, hc⟩
  · exact .inr ⟨a, cap, rfl, rfl, fun j u hu => by cases hu⟩
  · cases e2
    refine .inr ⟨_, cap, rfl, stsL_len t, fun j u hu => ?_⟩
    have hj := (List.getElem?_eq_some_iff.1 hu).1
    rw [stsL_len] at hj
    rw [Addr.add_lit, hc j hj]
    exact hu
theorem stin_none {w : World} {cap : Nat} {t : List St} (h : StIn w (.slice none t.length cap) t) : t = [] := by
  obtain ⟨p, cap', e, h1, h2, -, h3⟩ := h
  cases e
  rcases h3 with h3 | ⟨g, off, e2, -⟩
  · exact h3
  · cases e2
theorem stin_any {w : World} {v : Value} {t : List St} (h : StIn w v t) : Src w 3 v t.length (stsL t) := by
  have h' := h
  obtain ⟨p, cap, rfl, -, -, h0, -⟩ := h
  cases p with
  | none =>
    have ht := stin_none h'
    subst ht
    rw [h0 rfl]
    exact .inl ⟨rfl, rfl, rfl⟩
  | some a => exact stin_src h'
/-- tasks as they come in. -/
def TsIn0 (w : World) (v : Value) (ts : List (List St)) : Prop :=
  ∃ p cap, v = .slice p ts.length cap ∧ ∀ i, i < ts.length → ∃ gt off u, p = some ⟨gt, off, none⟩ ∧ w.cell? ⟨gt, off + i, none⟩ = some u ∧ gt < w.heap.size ∧ StIn w u (ts.getD i [])
theorem TsIn0.later {w w' : World} {v : Value} {ts : List (List St)} (h : TsIn0 w v ts) (hx : Ext w w') : TsIn0 w' v ts := by
  obtain ⟨p, cap, e, hr⟩ := h
  refine ⟨p, cap, e, fun i hi => ?_⟩
  obtain ⟨gt, off, u, e2, hc, hg, hs⟩ := hr i hi
  exact ⟨gt, off, u, e2, (hx.cell gt _ hg).trans hc, Nat.lt_of_lt_of_le hg hx.size, hs.later hx⟩

structure Tk where
  len : Nat
  z : Nat → List St
/-- the argument. -/
def TkIn (W : World) (v : Value) (l : Tk) : Prop := l.len ≤ maxLen ∧ ∃ p cap, v = .slice p l.len cap ∧ ∀ r, r < l.len → ∃ b off u, p = some ⟨b, off, none⟩ ∧ b < W.heap.size ∧ W.cell? ⟨b, off + r, none⟩ = some u ∧ StIn W u (l.z r) ∧ (l.z r).length ≤ maxLen ∧
  ∀ x ∈ l.z r, (Lit.int .i64 x.op).wf = true ∧ (Lit.int .i64 x.a).wf = true ∧ (Lit.int .i64 x.b).wf = true
def tkN (l : Tk) : List (List St) := (List.range l.len).map l.z
theorem tkN_len (l : Tk) : (tkN l).length = l.len := by simp [tkN]
theorem tkN_get (l : Tk) {i : Nat} (h : i < l.len) : (tkN l).getD i [] = l.z i := by
  unfold tkN
  rw [List.getD_eq_getElem?_getD, List.getElem?_map, List.getElem?_range h]
  rfl
theorem TkIn.ts {W : World} {v : Value} {l : Tk} (h : TkIn W v l) : TsIn0 W v (tkN l) := by
  obtain ⟨-, p, cap, e, hr⟩ := h
  refine ⟨p, cap, by rw [tkN_len]; exact e, fun i hi => ?_⟩
  rw [tkN_len] at hi
  obtain ⟨b, off, u, e2, hb, hc, hs, -⟩ := hr i hi
  exact ⟨b, off, u, e2, hc, hb, by rw [tkN_get l hi]; exact hs⟩
theorem TkIn.wf {W : World} {v : Value} {l : Tk} (h : TkIn W v l) (i : Nat) (x : St) (hx : x ∈ (tkN l).getD i []) : (Lit.int .i64 x.a).wf = true ∧ (Lit.int .i64 x.b).wf = true := by
  obtain ⟨-, p, cap, e, hr⟩ := h
  by_cases hi : i < l.len
  · rw [tkN_get l hi] at hx
    obtain ⟨b, off, u, -, -, -, -, -, hw⟩ := hr i hi
    exact (hw x hx).2
  · rw [List.getD_eq_getElem?_getD, List.getElem?_eq_none (by rw [tkN_len]; omega)] at hx
    cases hx

theorem choose_nat {α : Type} {n : Nat} {Pr : Nat → α → Prop} (a0 : α) (h : ∀ i, i < n → ∃ a, Pr i a) : ∃ f : Nat → α, ∀ i, i < n → Pr i (f i) :=
  ⟨fun i => if hi : i < n then Classical.choose (h i hi) else a0, fun i hi => by
    show Pr i (if hi : i < n then Classical.choose (h i hi) else a0)
    rw [dif_pos hi]
    exact Classical.choose_spec (h i hi)⟩

theorem stsL_all {t : List St} {P : Nat → Option Value → Prop} (h : ∀ i x, t[i]? = some x → P (i * 3) (some (.int .i64 x.op)) ∧ P (i * 3 + 1) (some (.int .i64 x.a)) ∧ P (i * 3 + 2) (some (.int .i64 x.b))) (j : Nat) (hj : j < t.length * 3) : P j (stsL t)[j]? := by
  have hi : j / 3 < t.length := by omega
  obtain ⟨h0, h1, h2⟩ := h (j / 3) _ (List.getElem?_eq_getElem hi)
  obtain ⟨e0, e1, e2⟩ := stsL_at t (j / 3) _ (List.getElem?_eq_getElem hi)
  rcases (show j = j / 3 * 3 ∨ j = j / 3 * 3 + 1 ∨ j = j / 3 * 3 + 2 by omega) with e | e | e <;> rw [e]
  · rw [e0]; exact h0
  · rw [e1]; exact h1
  · rw [e2]; exact h2

theorem open_steps {H : Type} {enc : TypeId × Value → H} {W : World} {n : Nat} {u : Value} {y : DataW H × List MemPlace} (h : DataW.trod enc Try.prog W 0 (fun _ => true) true n 23 [u] = some y) :
    ∃ t : List St, (t = [] ∨ ∃ es sp, y.1 = .slice es sp ∧ es.length = t.length) ∧ StIn W u t ∧ t.length ≤ maxLen ∧ ∀ x ∈ t, (Lit.int .i64 x.op).wf = true ∧ (Lit.int .i64 x.a).wf = true ∧ (Lit.int .i64 x.b).wf = true := by
  rcases open_slice Try.underlying23 h with ⟨hcs, -⟩ | ⟨a, len, cap, m, k, D, Pl, hcs, -, hl, hm, hmm, hyd, hx⟩
  · obtain rfl : u = .slice none 0 0 := by simpa using hcs
    exact ⟨[], .inl rfl, ⟨none, 0, rfl, Nat.le_refl _, Nat.zero_le _, fun _ => rfl, .inl rfl⟩, Nat.zero_le _, fun x hx => by cases hx⟩
  · obtain rfl : u = .slice (some a) len cap := by simpa using hcs
    simp only [if_true] at hmm
    have hC : Try.prog.cellsOf 25 = 3 := by kernel_rfl
    have each : ∀ i, i < len → ∃ x : St, W.cell? (a.add (i * 3)) = some (.int .i64 x.op) ∧ W.cell? (a.add (i * 3 + 1)) = some (.int .i64 x.a) ∧ W.cell? (a.add (i * 3 + 2)) = some (.int .i64 x.b) ∧ (Lit.int .i64 x.op).wf = true ∧ (Lit.int .i64 x.a).wf = true ∧ (Lit.int .i64 x.b).wf = true := by
      intro i hi
      obtain ⟨cs', hc, hy⟩ := hx i (by omega)
      rw [hC] at hc
      obtain ⟨ys, n', -, -, -, hyl, hf⟩ := DataW.trod_struct Try.underlying25 hy
      obtain ⟨-, hcl, hat⟩ := World.cells?_some hc
      have h1 : Try.prog.cellsOf 3 = 1 := by kernel_rfl
      have fld : ∀ (j : Nat) (hj : j < 3), DataW.trod enc Try.prog W 0 (fun _ => true) true n' 3 (List.take (Try.prog.cellsOf 3) (List.drop j cs')) = ys[j]? → j < ys.length → ∃ z : Int, W.cell? (a.add (i * 3 + j)) = some (.int .i64 z) ∧ (Lit.int .i64 z).wf = true := by
        intro j hj ht hjy
        rw [h1, List.drop_eq_getElem_cons (by omega : j < cs'.length), List.getElem?_eq_getElem hjy] at ht
        obtain ⟨z, e, -, wz⟩ := DataW.trod_int Try.underlying3 (show DataW.trod enc Try.prog W 0 (fun _ => true) true n' 3 [cs'[j]] = some ys[j] from ht)
        have := hat j hj
        rw [List.getElem?_eq_getElem (by omega), show cs'[j] = .int .i64 z by simpa using e] at this
        refine ⟨z, ?_, wz⟩
        rw [← this]
        rw [Addr.add_add]
      have hy3 : ys.length = 3 := hyl
      obtain ⟨z0, c0, w0⟩ := fld 0 (by omega) (hf 0 _ rfl) (by omega)
      obtain ⟨z1, c1, w1⟩ := fld 1 (by omega) (hf 1 _ rfl) (by omega)
      obtain ⟨z2, c2, w2⟩ := fld 2 (by omega) (hf 2 _ rfl) (by omega)
      exact ⟨⟨z0, z1, z2⟩, c0, c1, c2, w0, w1, w2⟩
    obtain ⟨f, hf⟩ := choose_nat (⟨0, 0, 0⟩ : St) each
    have hl' : ((List.range len).map f).length = len := by simp
    have hget : ∀ i x, ((List.range len).map f)[i]? = some x → i < len ∧ x = f i := fun i x hi => by
      obtain ⟨h1, h2⟩ := List.getElem?_eq_some_iff.1 hi
      have : i < len := by rw [hl'] at h1; exact h1
      refine ⟨this, ?_⟩
      rw [← h2]; simp
    refine ⟨(List.range len).map f, .inr ⟨_, _, by rw [hyd], by simp⟩, ⟨some a, cap, by rw [hl'], by rw [hl']; exact hl, hm, (fun h => by cases h), ?_⟩, by rw [hl']; omega, fun x hx => ?_⟩
    · by_cases h0 : len = 0
      · left; rw [h0]; rfl
      · right
        obtain ⟨h00, -⟩ := hf 0 (by omega)
        have e0 : a.add (0 * 3) = a := rfl
        rw [e0] at h00
        obtain ⟨ea, hlt⟩ := cell_addr h00
        refine ⟨a.block, a.off, by rw [← ea], hlt, ?_⟩
        refine stsL_all (P := fun j v => W.cell? ⟨a.block, a.off + j, none⟩ = v) fun i x hi => ?_
        obtain ⟨hi', rfl⟩ := hget i x hi
        obtain ⟨g0, g1, g2, -⟩ := hf i hi'
        rw [ea, Addr.add_lit] at g0 g1 g2
        exact ⟨g0, g1, g2⟩
    · obtain ⟨i, hi⟩ := List.getElem?_of_mem hx
      obtain ⟨hi', rfl⟩ := hget i x hi
      exact (hf i hi').2.2.2
/-- no row is longer than what may come in. -/
def TkSm (l : Tk) : Prop := l.len ≤ 140737488355328 ∧ ∀ r, r < l.len → (l.z r).length ≤ 140737488355328
theorem weights_mem {H : Type} {P : Program} {e : TypeId} {n : Nat} : ∀ {l : List (DataW H)} {d : DataW H}, d ∈ l → n ∈ d.weights P e → n ∈ DataW.weightsAll P e l
  | [], _, h, _ => by cases h
  | x :: l, d, h, hn => by
    simp only [DataW.weightsAll, List.mem_append]
    rcases List.mem_cons.1 h with rfl | h
    · exact .inl hn
    · exact .inr (weights_mem h hn)
theorem open_ts {H : Type} {enc : TypeId × Value → H} {W : World} {base : Nat} {v : Value} {d : DataW H} {p : List MemPlace} (hval : Value.okWide Try.prog W .any base 22 v) (h : DataW.Trod enc Try.prog W 0 (fun _ => true) true 22 v d p) (hw : ∀ n ∈ d.weights Try.prog 22, n ≤ reachBytes) :
    ∃ l : Tk, TkIn W v l ∧ TkSm l := by
  obtain ⟨n, h⟩ := h
  rcases open_slice Try.underlying22 h with ⟨hv, -⟩ | ⟨a, len, cap, m, k, D, Pl, hv, -, hl, hm, hmm, hd, hx⟩
  · exact ⟨⟨0, fun _ => []⟩, ⟨Nat.zero_le _, none, 0, slice_value Try.underlying22 hval hv, fun r hr => absurd hr (Nat.not_lt_zero _)⟩, Nat.zero_le _, fun r hr => absurd hr (Nat.not_lt_zero _)⟩
  · have hv' : v = .slice (some a) len cap := slice_value Try.underlying22 hval hv
    subst hv'
    obtain ⟨b, off, rfl, hb⟩ := slice_place Try.underlying22 hval
    simp only [if_true] at hmm
    have hC : Try.prog.cellsOf 23 = 1 := by kernel_rfl
    have hB1 : Try.prog.bytesOf 23 = 24 := by kernel_rfl
    have hB2 : Try.prog.bytesOf 25 = 24 := by kernel_rfl
    have hlt47 := reachBytes_lt
    simp only [Prod.mk.injEq] at hd
    obtain ⟨rfl, -⟩ := hd
    have hwl := hw _ (by simp only [DataW.weights, Try.underlying22]; exact List.mem_cons_self)
    rw [hB1] at hwl
    simp only [List.length_map, List.length_range] at hwl
    have each : ∀ i, i < len → ∃ t : List St, t.length ≤ 140737488355328 ∧ ∃ u, W.cell? ⟨b, off + i, none⟩ = some u ∧ StIn W u t ∧ t.length ≤ maxLen ∧ ∀ x ∈ t, (Lit.int .i64 x.op).wf = true ∧ (Lit.int .i64 x.a).wf = true ∧ (Lit.int .i64 x.b).wf = true := by
      intro i hi
      obtain ⟨cs', hc, hy⟩ := hx i (by omega)
      rw [hC] at hc
      obtain ⟨-, hcl, hat⟩ := World.cells?_some hc
      obtain ⟨u, rfl⟩ : ∃ u, cs' = [u] := List.length_eq_one_iff.1 hcl
      obtain ⟨t, hsz, ht⟩ := open_steps hy
      have := hat 0 (by omega)
      rw [Addr.add_lit, Addr.add_lit, Nat.mul_one, Nat.add_zero] at this
      refine ⟨t, ?_, u, this, ht⟩
      rcases hsz with rfl | ⟨es, sp, e1, e2⟩
      · exact Nat.zero_le _
      · have e1 : D i = .slice es sp := e1
        have := hw ((es.length + sp.length) * Try.prog.bytesOf 25) (by
          simp only [DataW.weights, Try.underlying22]
          refine List.mem_cons_of_mem _ (List.mem_append_left _ (weights_mem (d := D i) (List.mem_map.2 ⟨i, List.mem_range.2 hi, rfl⟩) ?_))
          rw [e1]
          simp only [DataW.weights, Try.underlying23]
          exact List.mem_cons_self)
        rw [hB2, e2] at this
        omega
    obtain ⟨f, hf⟩ := choose_nat ([] : List St) each
    refine ⟨⟨len, f⟩, ⟨by show len ≤ maxLen; omega, _, cap, rfl, fun r (hr : r < len) => ?_⟩, by show len ≤ _; omega, fun r (hr : r < len) => (hf r hr).1⟩
    obtain ⟨-, u, h1, h2, h3, h4⟩ := hf r hr
    exact ⟨b, off, u, rfl, hb, h1, h2, h3, h4⟩
end Go.Proofs.Ytfgfbmmidijgoaa
