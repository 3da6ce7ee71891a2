/- SchedFair: the plain law. -/
import Derived.Test.YtfgfbmmidijgoaaTasks
namespace Go.Proofs.Ytfgfbmmidijgoaa
open Go.RowKit
set_option linter.unusedVariables false

def kF (z : Int) : Int := bits .and .i64 z 7
theorem kF_le (z : Int) : 0 ≤ kF z ∧ kF z ≤ 7 := by
  have e : kF z = IntKind.i64.wrap ((BitVec.ofInt IntKind.i64.bits z &&& BitVec.ofInt IntKind.i64.bits 7).toNat : Nat) := rfl
  rw [e]
  have h : (BitVec.ofInt IntKind.i64.bits z &&& BitVec.ofInt IntKind.i64.bits 7).toNat ≤ 7 := by
    rw [BitVec.toNat_and]
    exact Nat.le_trans Nat.and_le_right (by decide)
  generalize (BitVec.ofInt IntKind.i64.bits z &&& BitVec.ofInt IntKind.i64.bits 7).toNat = m at *
  rw [IntKind.wrap_i64]
  omega
def fT (i k : Int) : List St := [⟨1, k, 0⟩, ⟨1, k + 1, 0⟩, ⟨5, i, 0⟩, ⟨2, k, 0⟩, ⟨2, k + 1, 0⟩]
theorem fT_disc (i k : Int) (h0 : 0 ≤ k) (h7 : k ≤ 7) : disc [] (fT i k) := by
  refine Or.inl ⟨rfl, by simp, h0, by show k ≤ 20; omega, Or.inl ⟨rfl, by simp; omega, by show 0 ≤ k + 1; omega, by show k + 1 ≤ 20; omega, Or.inr (Or.inr ⟨rfl, Or.inr (Or.inl ⟨rfl, by simp, Or.inr (Or.inl ⟨rfl, ?_, ?_⟩)⟩)⟩)⟩⟩
  · simp; omega
  · show List.filter _ _ = []
    simp
def fairN (zs : List Int) (k : Nat) : List (List St) := (List.range k).map fun (i : Nat) => fT i (kF (zs.getD i 0))
theorem fairN_succ (zs : List Int) (k : Nat) : fairN zs (k + 1) = fairN zs k ++ [fT k (kF (zs.getD k 0))] := by
  unfold fairN; rw [List.range_succ, List.map_append]; rfl
theorem fairN_len (zs : List Int) (k : Nat) : (fairN zs k).length = k := by simp [fairN]
theorem fairN_get (zs : List Int) {k i : Nat} (h : i < k) : (fairN zs k).getD i [] = fT i (kF (zs.getD i 0)) := by
  unfold fairN
  rw [List.getD_eq_getElem?_getD, List.getElem?_map, List.getElem?_range h]
  rfl
theorem fairN_total (zs : List Int) : ∀ k, total (fairN zs k) = 5 * k
  | 0 => rfl
  | k + 1 => by
    rw [fairN_succ, total_append, fairN_total zs k]
    show 5 * k + (5 + 0) = _; omega
theorem fairN_says (zs : List Int) : ∀ k, saysT (fairN zs k) = k
  | 0 => rfl
  | k + 1 => by
    rw [fairN_succ, saysT_append, fairN_says zs k]
    rfl
theorem fT_ok (i k : Int) : (fT i k).all okSt = true := by simp [fT, okSt]
theorem fairN_ok (zs : List Int) (k : Nat) : okTs (fairN zs k) = true := by
  unfold okTs
  rw [List.all_eq_true]
  intro t ht
  obtain ⟨i, -, rfl⟩ := List.mem_map.1 ht
  exact fT_ok _ _
theorem wf_fair {x : Int} (h0 : 0 ≤ x) (h1 : x ≤ 1000000) : (Lit.int .i64 x).wf = true := by
  simp [Lit.wf, IntKind.min, IntKind.max, IntKind.signed, IntKind.bits]; omega
theorem fairN_wf (zs : List Int) (k : Nat) (hk : k ≤ 1000) : ∀ i x, x ∈ (fairN zs k).getD i [] → (Lit.int .i64 x.a).wf = true ∧ (Lit.int .i64 x.b).wf = true := by
  intro i x hx
  by_cases hi : i < k
  · rw [fairN_get zs hi] at hx
    obtain ⟨h0, h7⟩ := kF_le (zs.getD i 0)
    generalize kF (zs.getD i 0) = c at *
    simp [fT] at hx
    rcases hx with rfl | rfl | rfl | rfl | rfl <;> exact ⟨wf_fair (by dsimp only; omega) (by dsimp only; omega), by dsimp only; decide⟩
  · rw [List.getD_eq_getElem?_getD, List.getElem?_eq_none (by rw [fairN_len]; omega)] at hx
    simp at hx

/-- behind k steps of n tasks. -/
structure FairI (n k : Nat) (s : Sc) : Prop where
  d : ∃ H, Disc s H
  len : s.ts.length = n
  tot : total s.ts + k = 5 * n
  said : s.out.length + saysT s.ts = n
theorem FairI.start (zs : List Int) : FairI zs.length 0 (sc0 (fairN zs zs.length)) :=
  ⟨⟨_, Disc.start fun i hi => by
    rw [fairN_len] at hi
    rw [fairN_get zs hi]
    obtain ⟨h0, h7⟩ := kF_le (zs.getD i 0)
    exact fT_disc _ _ h0 h7⟩, fairN_len _ _, fairN_total _ _, by show 0 + saysT (fairN zs zs.length) = _; rw [fairN_says]; omega⟩
theorem FairI.go {n k : Nat} {s : Sc} (h : FairI n k s) (hk : k < 5 * n) (pick : Int) : ∃ i : Nat, i < n ∧ (goR s pick).1 = i ∧ (goR s pick).2.1 = 0 ∧ FairI n (k + 1) (goR s pick).2.2 := by
  obtain ⟨H, hd⟩ := h.d
  have ht := h.tot
  obtain ⟨i, x, r, H', hi, hx, hg, ho, hd'⟩ := hd.go (by omega) pick
  rw [hg]
  have h1 := sStep_total hi hx
  have h2 := saysT_set s.ts i x r hi hx
  have h3 := h.said
  refine ⟨i, by have := h.len; omega, rfl, rfl, ⟨H', hd'⟩, by show (sStep s i x r).ts.length = n; rw [sStep_ts, List.length_set]; exact h.len, by show total (sStep s i x r).ts + (k + 1) = _; omega, ?_⟩
  show (sStep s i x r).out.length + saysT (sStep s i x r).ts = n
  rw [sStep_ts, sStep_out]
  rcases ho with o | o | o
  · rw [if_pos (.inl o)]; rw [if_neg (by omega)] at h2; omega
  · rw [if_pos (.inr (.inl o))]; rw [if_neg (by omega)] at h2; omega
  · rw [if_neg (by omega), List.length_append]; rw [if_pos o] at h2; show s.out.length + 1 + _ = _; omega
theorem FairI.ne {n k : Nat} {s : Sc} (h : FairI n k s) (hk : k < 5 * n) : 0 < (enL s s.ts.length).length ∧ (enL s s.ts.length).length ≤ n := by
  obtain ⟨H, hd⟩ := h.d
  have ht := h.tot
  have := enL_len s s.ts.length
  have hl := h.len
  exact ⟨List.length_pos_iff.2 (hd.ne (by omega)), by omega⟩
theorem FairI.done {n : Nat} {s : Sc} (h : FairI n (5 * n) s) (pick : Int) : goR s pick = (0, 22, s) := by
  obtain ⟨H, hd⟩ := h.d
  have ht := h.tot
  exact hd.done (by omega) pick
theorem FairI.all {n : Nat} {s : Sc} (h : FairI n (5 * n) s) : s.out.length = n := by
  have h1 := h.tot
  have h2 := saysT_le s.ts
  have h3 := h.said
  omega

end Go.Proofs.Ytfgfbmmidijgoaa
