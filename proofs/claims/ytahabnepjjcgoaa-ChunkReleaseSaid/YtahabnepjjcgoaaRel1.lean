/- The law ChunkRelease: its acts, and what its scavenging comes to. -/
import Derived.Test.YtahabnepjjcgoaaCounts
import Derived.Test.YtahabnepjjcgoaaFindF
import Derived.Test.YtahabnepjjcgoaaFrame
namespace Go.Proofs.Ytahabnepjjcgoaa
open Go.RowKit
set_option linter.unusedVariables false

/-! ### the acts -/
structure Acts where
  len : Nat
  x : Nat → Int
  y : Nat → Int
  z : Nat → Int

def ActsAt (W : World) (p : Option Addr) (l : Acts) : Prop := ∀ i, i < l.len → ∃ b off, p = some ⟨b, off, none⟩ ∧ b < W.heap.size ∧
  W.cell? ⟨b, off + i * 3, none⟩ = some (.int .i64 (l.x i)) ∧ W.cell? ⟨b, off + i * 3 + 1, none⟩ = some (.int .i64 (l.y i)) ∧ W.cell? ⟨b, off + i * 3 + 2, none⟩ = some (.int .i64 (l.z i)) ∧
  (Lit.int .i64 (l.x i)).wf = true ∧ (Lit.int .i64 (l.y i)).wf = true ∧ (Lit.int .i64 (l.z i)).wf = true

def ActsIn (W : World) (v : Value) (l : Acts) : Prop := l.len ≤ maxLen ∧ ∃ p cap, v = .slice p l.len cap ∧ ActsAt W p l

theorem open_acts {H : Type} {enc : TypeId × Value → H} {W : World} {base : Nat} {v : Value} {d : DataW H} {p : List MemPlace} (hval : Value.okWide Try.prog W .any base 33 v) (h : DataW.Trod enc Try.prog W 0 (fun _ => true) true 33 v d p) :
    ∃ l : Acts, ActsIn W v l := by
  rcases open_recs (fs := _) Try.underlying33 Try.underlying35 (by kernel_rfl) (by kernel_rfl) (by decide) hval h with hv | ⟨b, off, len, cap, hv, hm, hb, hc⟩
  · exact ⟨⟨0, fun _ => 0, fun _ => 0, fun _ => 0⟩, by simp, none, 0, hv, fun i hi => absurd hi (by simp)⟩
  · have each : ∀ i, i < len → ∃ x : Int × Int × Int, W.cell? ⟨b, off + i * 3, none⟩ = some (.int .i64 x.1) ∧ W.cell? ⟨b, off + i * 3 + 1, none⟩ = some (.int .i64 x.2.1) ∧ W.cell? ⟨b, off + i * 3 + 2, none⟩ = some (.int .i64 x.2.2) ∧ (Lit.int .i64 x.1).wf = true ∧ (Lit.int .i64 x.2.1).wf = true ∧ (Lit.int .i64 x.2.2).wf = true := by
      intro i hi
      obtain ⟨u0, y0, n0, c0, t0⟩ := hc i hi 0 _ rfl
      obtain ⟨u1, y1, n1, c1, t1⟩ := hc i hi 1 _ rfl
      obtain ⟨u2, y2, n2, c2, t2⟩ := hc i hi 2 _ rfl
      obtain ⟨z0, e0, -, f0⟩ := DataW.trod_int Try.underlying3 t0
      obtain ⟨z1, e1, -, f1⟩ := DataW.trod_int Try.underlying3 t1
      obtain ⟨z2, e2, -, f2⟩ := DataW.trod_int Try.underlying3 t2
      simp only [List.cons.injEq, and_true] at e0 e1 e2
      subst e0 e1 e2
      exact ⟨⟨z0, z1, z2⟩, c0, c1, c2, f0, f1, f2⟩
    let f : Nat → Int × Int × Int := fun i => if h : i < len then Classical.choose (each i h) else ⟨0, 0, 0⟩
    refine ⟨⟨len, fun i => (f i).1, fun i => (f i).2.1, fun i => (f i).2.2⟩, hm, some ⟨b, off, none⟩, cap, hv, fun i hi => ?_⟩
    have hf := Classical.choose_spec (each i hi)
    have he : f i = Classical.choose (each i hi) := by simp only [f]; exact dif_pos hi
    rw [← he] at hf
    exact ⟨b, off, rfl, hb, hf⟩


/-! ### used and released are apart -/
def Apart (u g : Nat → Bool) : Prop := ∀ j, j < 512 → u j = true → g j = false

theorem apart_take {u g : Nat → Bool} (h : Apart u g) (i n : Int) : Apart (if lookE u i n 0 32 = 0 then setF u i n else u) (if lookE u i n 0 32 = 0 then clrF g i n else g) := by
  split
  · unfold setF clrF
    split
    · intro j hj hu
      unfold setB at hu
      unfold clrB
      have := h j hj
      revert hu this
      cases u j <;> cases g j <;> cases inB i.toNat n.toNat j <;> simp
    · exact h
  · exact h
theorem apart_give {u g : Nat → Bool} (h : Apart u g) (i n : Int) : Apart (if lookE u i n n 31 = 0 then clrF u i n else u) g := by
  split
  · unfold clrF
    split
    · intro j hj hu
      unfold clrB at hu
      have := h j hj
      revert hu this
      cases u j <;> cases g j <;> cases inB i.toNat n.toNat j <;> simp
    · exact h
  · exact h
theorem apart_back {u g : Nat → Bool} (h : Apart u g) (i n : Int) : Apart (if lookE u i n n 31 = 0 then clrF u i n else u) (if lookE u i n n 31 = 0 then setF g i n else g) := by
  split
  · unfold setF clrF
    split
    · intro j hj hu
      unfold clrB at hu
      unfold setB
      have := h j hj
      revert hu this
      cases u j <;> cases g j <;> cases inB i.toNat n.toNat j <;> simp
    · exact h
  · exact h

/-! ### one scavenging -/
/-- either nothing is left, or a row at the top of what is free and not released. -/
theorem scav_step {u g : Nat → Bool} (ha : Apart u g) (each L : Nat) (h1 : 1 ≤ each) (hL : L ≤ 512) (ht : ∀ j, L ≤ j → j < 512 → orB u g j = true) :
    (scavN u g each = 0 ∧ ∀ j, j < 512 → g j = !u j) ∨
    ∃ i n : Nat, scavI u g each = i ∧ scavN u g each = n ∧ 1 ≤ n ∧ n ≤ each ∧ i + n ≤ L ∧ cntF u i n = 0 ∧ cnt5 (setF g i n) = cnt5 g + n ∧ Apart u (setF g i n) ∧ ∀ j, i ≤ j → j < 512 → orB u (setF g i n) j = true := by
  have hT : lastT 512 = 512 := by decide
  unfold scavI scavN lastI lastN
  rw [hT, if_neg (by omega), Int.toNat_natCast]
  have t1 := topz_le (orB u g) 512
  have t2 := topz_set (orB u g) 512
  have t3 := topz_clear (orB u g) 512
  have r1 := runz_le (orB u g) (topz (orB u g) 512) each
  have r2 := runz_clear (orB u g) (topz (orB u g) 512) each
  have r3 := runz_stop (orB u g) (topz (orB u g) 512) each
  generalize topz (orB u g) 512 = T at *
  generalize runz (orB u g) T each = N at *
  have hTL : T ≤ L := by
    by_cases h : T ≤ L
    · exact h
    · have := t3 (by omega)
      rw [ht (T - 1) (by omega) (by omega)] at this
      cases this
  by_cases hN : N = 0
  · left
    subst hN
    have hT0 : T = 0 := by
      by_cases h : T = 0
      · exact h
      · have e := t3 (by omega)
        rcases r3 with h3 | h3 | h3
        · omega
        · omega
        · rw [Nat.sub_zero, e] at h3; cases h3
    subst hT0
    refine ⟨rfl, fun j hj => ?_⟩
    have h4 := t2 j (by omega) hj
    have h5 := ha j hj
    unfold orB at h4
    revert h4 h5
    cases u j <;> cases g j <;> simp
  · right
    refine ⟨T - N, N, by rw [if_neg hN], rfl, by omega, by omega, by omega, ?_, ?_, ?_, ?_⟩
    · rw [cntF_is (by omega), cnt_zero N (T - N) (fun j h6 h7 => by
        have := r2 j h6 (by omega)
        unfold orB at this
        revert this
        cases u j <;> simp)]; rfl
    · rw [setF_is (by omega), cnt5_is, cnt5_is]
      have e : ∀ j, T - N ≤ j → j < T - N + N → g j = false := fun j h6 h7 => by
        have := r2 j h6 (by omega)
        unfold orB at this
        revert this
        cases g j <;> simp
      have s1 := cnt_add (setB g (T - N) N) (T - N) 0 (512 - (T - N))
      have s2 := cnt_add (setB g (T - N) N) N (T - N) (512 - T)
      have s3 := cnt_add g (T - N) 0 (512 - (T - N))
      have s4 := cnt_add g N (T - N) (512 - T)
      rw [show N + (512 - T) = 512 - (T - N) by omega] at s2 s4
      rw [show T - N + (512 - (T - N)) = 512 by omega] at s1 s3
      rw [Nat.zero_add] at s1 s3
      have q1 := cnt_congr (f := setB g (T - N) N) (g := g) (T - N) 0 (fun j h6 h7 => by unfold setB inB; simp; omega)
      have q2 := cnt_all (f := setB g (T - N) N) N (T - N) (fun j h6 h7 => by unfold setB inB; simp; omega)
      have q3 := cnt_congr (f := setB g (T - N) N) (g := g) (512 - T) (T - N + N) (fun j h6 h7 => by unfold setB inB; simp; omega)
      have q4 := cnt_zero (f := g) N (T - N) e
      omega
    · rw [setF_is (by omega)]
      intro j hj hu
      have h5 := ha j hj hu
      unfold setB
      rw [h5, Bool.false_or]
      cases hi : inB (T - N) N j
      · rfl
      · have := r2 j (by unfold inB at hi; simp at hi; omega) (by unfold inB at hi; simp at hi; omega)
        unfold orB at this
        rw [hu] at this
        cases this
    · rw [setF_is (by omega)]
      intro j h6 h7
      unfold orB setB
      by_cases h8 : j < T
      · rw [show inB (T - N) N j = true by unfold inB; simp; omega]; simp
      · have := t2 j (by omega) h7
        unfold orB at this
        revert this
        cases u j <;> cases g j <;> simp

theorem scav_end {u g : Nat → Bool} (h : ∀ j, j < 512 → g j = !u j) : cnt5 g = 512 - cnt5 u := by
  rw [cnt5_is, cnt5_is]
  have h1 := cnt_not u 512 0
  have h2 := cnt_congr (f := g) (g := fun j => !u j) 512 0 (fun j _ hj => h j (by omega))
  omega
theorem get_not {u g : Nat → Bool} (h : ∀ j, j < 512 → g j = !u j) (k : Nat) (hk : k < 512) : getB g k = !getB u k := by
  unfold getB
  rw [Int.toNat_natCast, h k hk, decide_eq_true (by omega)]
  simp

end Go.Proofs.Ytahabnepjjcgoaa
