/- Tasks that open what they lock, and say what they say in order: the plain law. -/
import Derived.Test.YtfgfbmmidijgoaaCells
import Derived.Test.YtfgfbmmidijgoaaRwIn
namespace Go.Proofs.Ytfgfbmmidijgoaa
open Go.RowKit
set_option linter.unusedVariables false

def alT (i : Nat) : List Int → List St
  | [] => []
  | z :: r => ⟨1, z.tmod 3, 0⟩ :: ⟨5, 100 * (i : Int) + z, 0⟩ :: ⟨2, z.tmod 3, 0⟩ :: alT i r
theorem alT_snoc (i : Nat) : ∀ (a : List Int) (z : Int), alT i (a ++ [z]) = alT i a ++ [⟨1, z.tmod 3, 0⟩, ⟨5, 100 * (i : Int) + z, 0⟩, ⟨2, z.tmod 3, 0⟩]
  | [], _ => rfl
  | x :: a, z => by
    show _ :: _ :: _ :: alT i (a ++ [z]) = _ :: _ :: _ :: (alT i a ++ _)
    rw [alT_snoc i a z]
theorem alT_len (i : Nat) : ∀ a : List Int, (alT i a).length = 3 * a.length
  | [] => rfl
  | z :: a => by
    show (alT i a).length + 1 + 1 + 1 = 3 * (a.length + 1)
    rw [alT_len i a]; omega
theorem tmod3 {z : Int} (h : 0 ≤ z) : 0 ≤ z.tmod 3 ∧ z.tmod 3 ≤ 2 := by
  rw [Int.tmod_eq_emod_of_nonneg h]; omega
theorem alT_disc (i : Nat) : ∀ a : List Int, (∀ z, z ∈ a → 0 ≤ z ∧ z ≤ 50) → disc [] (alT i a)
  | [], _ => rfl
  | z :: a, h => by
    have h1 := alT_disc i a fun y hy => h y (List.mem_cons_of_mem _ hy)
    obtain ⟨m0, m2⟩ := tmod3 (h z (by simp)).1
    refine Or.inl ⟨rfl, by simp, m0, by show z.tmod 3 ≤ 20; omega, Or.inr (Or.inr ⟨rfl, Or.inr (Or.inl ⟨rfl, by simp, ?_⟩)⟩)⟩
    show disc (List.filter _ _) _
    simpa using h1
def saysOf : List St → List Int
  | [] => []
  | x :: r => if x.op = 5 then x.a :: saysOf r else saysOf r
theorem alT_says (i : Nat) : ∀ a : List Int, saysOf (alT i a) = a.map fun z => 100 * (i : Int) + z
  | [] => rfl
  | z :: a => by
    show (100 * (i : Int) + z) :: saysOf (alT i a) = _
    rw [alT_says i a]; rfl
theorem saysL_of : ∀ t : List St, saysL t = (saysOf t).length
  | [] => rfl
  | x :: r => by
    show (if x.op = 5 then 1 else 0) + saysL r = (if x.op = 5 then x.a :: saysOf r else saysOf r).length
    rw [saysL_of r]
    split
    · simp; omega
    · omega
theorem alT_ok (i : Nat) : ∀ a : List Int, (alT i a).all okSt = true
  | [] => rfl
  | z :: a => by
    show (okSt _ && (okSt _ && (okSt _ && (alT i a).all okSt))) = true
    rw [alT_ok i a]; rfl
theorem alT_mem (i : Nat) : ∀ (a : List Int) (x : St), x ∈ alT i a → x.b = 0 ∧ ∃ z, z ∈ a ∧ (x.a = z.tmod 3 ∨ x.a = 100 * (i : Int) + z)
  | [], _, h => by cases h
  | z :: a, x, h => by
    have h : x ∈ (⟨1, z.tmod 3, 0⟩ :: ⟨5, 100 * (i : Int) + z, 0⟩ :: ⟨2, z.tmod 3, 0⟩ :: alT i a : List St) := h
    simp only [List.mem_cons] at h
    rcases h with rfl | rfl | rfl | h
    · exact ⟨rfl, z, by simp, .inl rfl⟩
    · exact ⟨rfl, z, by simp, .inr rfl⟩
    · exact ⟨rfl, z, by simp, .inl rfl⟩
    · obtain ⟨h1, y, hy, h2⟩ := alT_mem i a x h
      exact ⟨h1, y, List.mem_cons_of_mem _ hy, h2⟩

def alN (z : Nat → List Int) (k : Nat) : List (List St) := (List.range k).map fun (i : Nat) => alT i (z i)
def lenN (z : Nat → List Int) : Nat → Nat
  | 0 => 0
  | k + 1 => lenN z k + (z k).length
theorem alN_succ (z : Nat → List Int) (k : Nat) : alN z (k + 1) = alN z k ++ [alT k (z k)] := by
  unfold alN; rw [List.range_succ, List.map_append]; rfl
theorem alN_len (z : Nat → List Int) (k : Nat) : (alN z k).length = k := by simp [alN]
theorem alN_get (z : Nat → List Int) {k i : Nat} (h : i < k) : (alN z k).getD i [] = alT i (z i) := by
  unfold alN
  rw [List.getD_eq_getElem?_getD, List.getElem?_map, List.getElem?_range h]
  rfl
theorem alN_total (z : Nat → List Int) : ∀ k, total (alN z k) = 3 * lenN z k
  | 0 => rfl
  | k + 1 => by
    rw [alN_succ, total_append, alN_total z k]
    show 3 * lenN z k + ((alT k (z k)).length + 0) = 3 * (lenN z k + (z k).length)
    rw [alT_len]; omega
theorem alN_says (z : Nat → List Int) : ∀ k, saysT (alN z k) = lenN z k
  | 0 => rfl
  | k + 1 => by
    rw [alN_succ, saysT_append, alN_says z k]
    show lenN z k + (saysL (alT k (z k)) + 0) = lenN z k + (z k).length
    rw [saysL_of, alT_says]; simp
theorem alN_ok (z : Nat → List Int) (k : Nat) : okTs (alN z k) = true := by
  unfold okTs
  rw [List.all_eq_true]
  intro t ht
  obtain ⟨i, -, rfl⟩ := List.mem_map.1 ht
  exact alT_ok _ _
def Small (z : Nat → List Int) (k : Nat) : Prop := ∀ i, i < k → ∀ x, x ∈ z i → 0 ≤ x ∧ x ≤ 50
theorem alN_wf (z : Nat → List Int) (k : Nat) (hk : k ≤ 20) (h : Small z k) : ∀ i x, x ∈ (alN z k).getD i [] → (Lit.int .i64 x.a).wf = true ∧ (Lit.int .i64 x.b).wf = true := by
  intro i x hx
  have hw : ∀ z : Int, 0 ≤ z → z ≤ 1000000 → (Lit.int .i64 z).wf = true := fun z h0 h1 => by
    simp [Lit.wf, IntKind.min, IntKind.max, IntKind.signed, IntKind.bits]; omega
  by_cases hi : i < k
  · rw [alN_get z hi] at hx
    obtain ⟨e, y, hy, h2⟩ := alT_mem i _ x hx
    obtain ⟨y0, y50⟩ := h i hi y hy
    have := tmod3 y0
    rw [e]
    rcases h2 with h2 | h2 <;> rw [h2]
    · exact ⟨hw _ (by omega) (by omega), by decide⟩
    · exact ⟨hw _ (by omega) (by omega), by decide⟩
  · rw [List.getD_eq_getElem?_getD, List.getElem?_eq_none (by rw [alN_len]; omega)] at hx
    cases hx

def tagB (i : Nat) (z : Int) : Bool := decide (z / 100 = (i : Int))
structure AloneI (z : Nat → List Int) (N n k : Nat) (s : Sc) : Prop where
  d : ∃ H, Disc s H
  len : s.ts.length = N
  tot : total s.ts + k = 3 * n
  said : s.out.length + saysT s.ts = n
  ord : ∀ i, i < N → s.out.filter (tagB i) ++ saysOf (s.ts.getD i []) = (z i).map fun x => 100 * (i : Int) + x
  tag : ∀ x, x ∈ s.out → ∃ i, i < N ∧ tagB i x = true
  rng : Small z N

section
variable {z : Nat → List Int} {N n k : Nat} {s : Sc}
theorem AloneI.start (h : Small z N) (hn : lenN z N = n) : AloneI z N n 0 (sc0 (alN z N)) := by
  subst hn
  refine ⟨⟨_, Disc.start fun i hi => ?_⟩, alN_len _ _, by show total (alN z N) + 0 = _; rw [alN_total]; rfl, by show 0 + saysT (alN z N) = _; rw [alN_says]; omega, fun i hi => ?_, fun x hx => (by cases hx), h⟩
  · rw [alN_len] at hi
    rw [alN_get z hi]
    exact alT_disc _ _ (h i hi)
  · show [] ++ saysOf ((alN z N).getD i []) = _
    rw [alN_get z hi, alT_says]; rfl
theorem AloneI.go (h : AloneI z N n k s) (hk : k < 3 * n) (pick : Int) : ∃ i : Nat, (goR s pick).1 = i ∧ (goR s pick).2.1 = 0 ∧ AloneI z N n (k + 1) (goR s pick).2.2 := by
  obtain ⟨H, hd⟩ := h.d
  have ht := h.tot
  obtain ⟨i, x, r, H', hi, hx, hg, ho, hd'⟩ := hd.go (by omega) pick
  rw [hg]
  have h1 := sStep_total hi hx
  have h2 := saysT_set s.ts i x r hi hx
  have h3 := h.said
  have hl := h.len
  have hget : ∀ j, (sStep s i x r).ts.getD j [] = if j = i then r else s.ts.getD j [] := fun j => by rw [sStep_ts, getD_set _ _ _ _ _ hi]
  have hout := sStep_out s i x r
  have hoi := h.ord i (by omega)
  rw [hx] at hoi
  refine ⟨i, rfl, rfl, ⟨H', hd'⟩, by show (sStep s i x r).ts.length = N; rw [sStep_ts, List.length_set]; exact hl, by show total (sStep s i x r).ts + (k + 1) = _; omega, ?_, fun j hj => ?_, fun y hy => ?_, h.rng⟩
  · show (sStep s i x r).out.length + saysT (sStep s i x r).ts = n
    rw [sStep_ts, hout]
    rcases ho with o | o | o
    · rw [if_pos (.inl o)]; rw [if_neg (by omega)] at h2; omega
    · rw [if_pos (.inr (.inl o))]; rw [if_neg (by omega)] at h2; omega
    · rw [if_neg (by omega), List.length_append]; rw [if_pos o] at h2; show s.out.length + 1 + _ = _; omega
  · show (sStep s i x r).out.filter (tagB j) ++ saysOf ((sStep s i x r).ts.getD j []) = _
    rw [hget, hout]
    by_cases o : x.op = 5
    · rw [if_neg (by omega), List.filter_append]
      have e1 : saysOf (x :: r) = x.a :: saysOf r := if_pos o
      rw [e1] at hoi
      have hm : x.a ∈ (z i).map fun x => 100 * (i : Int) + x := by rw [← hoi]; simp
      obtain ⟨y, hy, e2⟩ := List.mem_map.1 hm
      obtain ⟨y0, y5⟩ := h.rng i (by omega) y hy
      have ed : x.a / 100 = i := by omega
      by_cases e : j = i
      · subst e
        rw [if_pos rfl, ← hoi]
        have : List.filter (tagB j) [x.a] = [x.a] := by
          rw [List.filter_cons, if_pos (show tagB j x.a = true from decide_eq_true ed)]; rfl
        rw [this, List.append_assoc]; rfl
      · rw [if_neg e]
        have : List.filter (tagB j) [x.a] = [] := by
          rw [List.filter_cons, if_neg (by unfold tagB; rw [decide_eq_true_eq]; omega)]; rfl
        rw [this, List.append_nil]
        exact h.ord j hj
    · rw [if_pos (by omega)]
      have e1 : saysOf (x :: r) = saysOf r := if_neg o
      rw [e1] at hoi
      by_cases e : j = i
      · subst e; rw [if_pos rfl]; exact hoi
      · rw [if_neg e]; exact h.ord j hj
  · have hy : y ∈ (sStep s i x r).out := hy
    rw [hout] at hy
    by_cases o : x.op = 5
    · rw [if_neg (by omega)] at hy
      rcases List.mem_append.1 hy with hy | hy
      · exact h.tag y hy
      · obtain rfl : y = x.a := by simpa using hy
        have e1 : saysOf (x :: r) = x.a :: saysOf r := if_pos o
        rw [e1] at hoi
        have hm : x.a ∈ (z i).map fun x => 100 * (i : Int) + x := by rw [← hoi]; simp
        obtain ⟨y, hy, e2⟩ := List.mem_map.1 hm
        obtain ⟨y0, y5⟩ := h.rng i (by omega) y hy
        exact ⟨i, by omega, decide_eq_true (by omega)⟩
    · rw [if_pos (by omega)] at hy
      exact h.tag y hy
theorem AloneI.done (h : AloneI z N n (3 * n) s) (pick : Int) : goR s pick = (0, 22, s) := by
  obtain ⟨H, hd⟩ := h.d
  have ht := h.tot
  exact hd.done (by omega) pick
/-- what stands in order. -/
structure InOrder (z : Nat → List Int) (N n : Nat) (out : List Int) : Prop where
  len : out.length = n
  ord : ∀ i, i < N → out.filter (tagB i) = (z i).map fun x => 100 * (i : Int) + x
  tag : ∀ x, x ∈ out → ∃ i, i < N ∧ tagB i x = true
  rng : Small z N
theorem AloneI.end_ (h : AloneI z N n (3 * n) s) : InOrder z N n s.out ∧ (∀ a, s.lk a = none) ∧ enL s s.ts.length = [] := by
  have ht := h.tot
  have h0 : total s.ts = 0 := by omega
  have h2 := saysT_le s.ts
  have h3 := h.said
  obtain ⟨H, hd⟩ := h.d
  refine ⟨⟨by omega, fun i hi => ?_, h.tag, h.rng⟩, fun a => hd.free h0 a, enL_end h0 _⟩
  have := h.ord i hi
  rw [total_zero s.ts h0 i] at this
  rw [← this]
  show _ = _ ++ []
  rw [List.append_nil]
end

/-- how often a task has spoken so far. -/
def cntT (out : List Int) (j t : Nat) : Nat := ((out.take j).filter (tagB t)).length
theorem cntT_zero (out : List Int) (t : Nat) : cntT out 0 t = 0 := rfl
theorem cntT_succ {out : List Int} {j : Nat} {x : Int} (h : out[j]? = some x) (t : Nat) : cntT out (j + 1) t = cntT out j t + (if tagB t x = true then 1 else 0) := by
  unfold cntT
  rw [List.take_add_one, h, List.filter_append, List.length_append]
  congr 1
  show (List.filter _ [x]).length = _
  rw [List.filter_cons]
  split <;> rfl
theorem filter_at (p : Int → Bool) : ∀ (l : List Int) (j : Nat) (x : Int), l[j]? = some x → p x = true → (l.filter p)[((l.take j).filter p).length]? = some x
  | [], j, x, h, _ => by cases h
  | y :: l, 0, x, h, hp => by
    have : y = x := by simpa using h
    subst this
    rw [List.filter_cons, if_pos hp]; rfl
  | y :: l, j + 1, x, h, hp => by
    have ih := filter_at p l j x (by simpa using h) hp
    rw [List.take_succ_cons, List.filter_cons, List.filter_cons]
    by_cases e : p y = true
    · rw [if_pos e, if_pos e]
      simpa using ih
    · rw [if_neg e, if_neg e]; exact ih
theorem InOrder.at_ {z : Nat → List Int} {N n : Nat} {out : List Int} (h : InOrder z N n out) (hN : N ≤ 20) {j : Nat} (hj : j < out.length) :
    ∃ (x : Int) (t : Nat), out[j]? = some x ∧ t < N ∧ 0 ≤ x ∧ x ≤ 3000 ∧ x.tdiv 100 = t ∧ tagB t x = true ∧ cntT out j t < (z t).length ∧ (z t).getD (cntT out j t) 0 = x.tmod 100 := by
  obtain ⟨t, ht, hx⟩ := h.tag _ (List.getElem_mem hj)
  have e := List.getElem?_eq_getElem hj
  generalize out[j] = x at *
  have h1 := filter_at (tagB t) out j x e hx
  rw [h.ord t ht, List.getElem?_map] at h1
  change Option.map _ (z t)[cntT out j t]? = _ at h1
  cases h2 : (z t)[cntT out j t]? with
  | none => rw [h2] at h1; cases h1
  | some y =>
    rw [h2] at h1
    have h3 : 100 * (t : Int) + y = x := by simpa using h1
    obtain ⟨hlt, hy⟩ := List.getElem?_eq_some_iff.1 h2
    obtain ⟨y0, y5⟩ := h.rng t ht y (hy ▸ List.getElem_mem hlt)
    have hx0 : 0 ≤ x := by omega
    refine ⟨x, t, e, ht, hx0, by omega, ?_, hx, hlt, ?_⟩
    · rw [Int.tdiv_eq_ediv_of_nonneg hx0]
      exact of_decide_eq_true hx
    · rw [List.getD_eq_getElem?_getD, h2, Int.tmod_eq_emod_of_nonneg hx0]
      show y = _
      omega
theorem tag_one {t u : Nat} {x : Int} (h : tagB t x = true) : tagB u x = decide (u = t) := by
  have h : x / 100 = (t : Int) := of_decide_eq_true h
  unfold tagB
  rw [h]
  by_cases e : u = t
  · subst e; simp
  · rw [decide_eq_false e, decide_eq_false (by omega)]

/-! rows of counts -/
def nl (U : Nat → Nat) (n : Nat) : Array Value := (List.range n).toArray.map fun j => .int .i64 (U j : Nat)
theorem nl_size (U : Nat → Nat) (n : Nat) : (nl U n).size = n := by unfold nl; simp
theorem nl_get (U : Nat → Nat) (n j : Nat) (h : j < n) : (nl U n)[j]? = some (.int .i64 (U j : Nat)) := by unfold nl; simp [h]
theorem nl_set (U V : Nat → Nat) (n r x : Nat) (h : r < n) (hV : ∀ j, V j = if j = r then x else U j) : (nl U n).setIfInBounds r (.int .i64 (x : Nat)) = nl V n := by
  refine Array.ext_getElem? fun j => ?_
  by_cases hj : j < n
  · rw [nl_get _ n j hj, hV]
    by_cases e : r = j
    · subst e; simp [nl_size, h]
    · rw [Array.getElem?_setIfInBounds_ne e, nl_get _ n j hj, if_neg (fun x => e x.symm)]
  · rw [Array.getElem?_eq_none (by rw [Array.size_setIfInBounds, nl_size]; omega), Array.getElem?_eq_none (by rw [nl_size]; omega)]
theorem nl_made (n : Nat) : madeCells (Value.int .i64 0).cells (n * 1) = nl (fun _ => 0) n := by
  refine Array.ext_getElem? fun j => ?_
  by_cases hj : j < n
  · rw [nl_get _ n j hj]
    unfold madeCells
    simp [hj, Value.cells, Nat.mod_one]
  · rw [Array.getElem?_eq_none (by rw [size_madeCells]; omega), Array.getElem?_eq_none (by rw [nl_size]; omega)]

end Go.Proofs.Ytfgfbmmidijgoaa
