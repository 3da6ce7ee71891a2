/- A cheaper test that a region's text is an order of it: no array of marks is carried along. -/
import Derived.Test.YtahabnepjjcgoaaLater
namespace Go.Proofs.Ytahabnepjjcgoaa
open Go.RowKit
set_option linter.unusedVariables false

def quickL (md : Region.Mode) (ops : Array Oper) : Nat → List Oper → Bool
  | _, [] => true
  | k, o :: r => o.after.all (fun e => !Region.binds md e || decide (e.on < k)) && r.all (fun oj => oj.after.any (fun e => Region.binds md e && e.on == k) || o.apart ops oj) && quickL md ops (k + 1) r

theorem lexFrom_of_quick {md : Region.Mode} {ops : Array Oper} : ∀ (l : List Oper) (k : Nat) (listed : Array Bool), (∀ j, l[j]? = ops[k + j]?) → k + l.length = ops.size →
    listed.size = ops.size → (∀ i, i < ops.size → listed[i]? = some (decide (i < k))) → quickL md ops k l = true → Region.lexFrom md ops l.length k listed = true
  | [], k, listed, hl, hk, hs, hi, _ => by
    simp only [List.length_nil, Region.lexFrom, Region.ready, List.isEmpty_iff, List.filter_eq_nil_iff, List.mem_range]
    intro i h
    have := hi i h
    simp at hk
    simp [Array.getD_eq_getD_getElem?, this, show i < k by omega]
  | o :: r, k, listed, hl, hk, hs, hi, hq => by
    have h0 : ops[k]? = some o := by simpa using (hl 0).symm
    have hkl : k < ops.size := by simp at hk; omega
    unfold quickL at hq
    simp only [Bool.and_eq_true] at hq
    obtain ⟨⟨h1, h2⟩, h3⟩ := hq
    simp only [List.length_cons, Region.lexFrom, Bool.and_eq_true]
    refine ⟨⟨?_, ?_⟩, lexFrom_of_quick r (k + 1) _ (fun j => by have := hl (j + 1); simpa [Nat.add_assoc, Nat.add_comm 1 j] using this) (by simp at hk; omega) (by simpa using hs) (fun i h => ?_) h3⟩
    · rw [List.contains_iff_mem, Region.ready, List.mem_filter]
      refine ⟨List.mem_range.2 hkl, ?_⟩
      have hkk := hi k hkl
      simp only [Array.getD_eq_getD_getElem?, hkk, h0, Option.map_some, Option.getD_some, Nat.lt_irrefl, decide_false, Bool.not_false, Bool.true_and]
      rw [Array.all_eq_true_iff_forall_mem] at h1 ⊢
      intro e he
      have := h1 e he
      simp only [Bool.or_eq_true, decide_eq_true_eq] at this ⊢
      rcases this with h | h
      · exact .inl h
      · right; rw [hi e.on (by omega)]; simpa using h
    · unfold Region.free
      simp only [h0, List.all_eq_true, List.mem_range]
      intro j hj
      by_cases c : j ≤ k
      · by_cases c2 : j = k
        · simp [c2]
        · have := hi j hj
          simp [Array.getD_eq_getD_getElem?, this, show j < k by omega]
      · have e : r[j - k - 1]? = ops[j]? := by
          have := hl (j - k)
          rw [show k + (j - k) = j by omega] at this
          rw [← this, show j - k = j - k - 1 + 1 by omega]; simp
        have hm := Array.getElem?_eq_getElem hj
        rw [hm] at e ⊢
        have hin : ops[j] ∈ r := List.mem_of_getElem? e
        have := List.all_eq_true.1 h2 _ hin
        simp only [Bool.or_eq_true] at this ⊢
        exact .inr this
    · rw [Array.getElem?_setIfInBounds]
      by_cases c : k = i
      · subst c; simp [hs, hkl]
      · rw [if_neg c, hi i h]
        congr 1
        by_cases d : i < k
        · simp [d]; omega
        · simp [d]; omega

theorem lex_of_quick {md : Region.Mode} {l : List Oper} (hs : Region.noSelect l.toArray = true) (h : quickL md l.toArray 0 l = true) : Region.lexB md l.toArray = true := by
  unfold Region.lexB
  rw [hs, Bool.true_and]
  exact lexFrom_of_quick l 0 _ (fun j => by simp) (by simp) (by simp) (fun i hi => by simpa [Array.getElem?_replicate] using hi) h

end Go.Proofs.Ytahabnepjjcgoaa
