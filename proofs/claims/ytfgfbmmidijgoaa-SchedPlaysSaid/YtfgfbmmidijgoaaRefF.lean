/- The reference's scheduler, one step on: its memory, and which scheduler it is then. -/
import Derived.Test.YtfgfbmmidijgoaaRefP
import Derived.Test.YtfgfbmmidijgoaaStuck
import Derived.Test.YtfgfbmmidijgoaaDisc
namespace Go.Proofs.Ytfgfbmmidijgoaa
open Go.RowKit
set_option linter.unusedVariables false

theorem absT_set {T : List (List St)} {A : List Nat} {i : Nat} (hi : i < T.length) (hl : A.length = T.length) {a : Nat} : absT T (A.set i a) = (absT T A).set i ((T.getD i []).drop a) := by
  refine List.ext_getElem? fun j => ?_
  by_cases hj : j < T.length
  · have e1 : (absT T (A.set i a))[j]? = some ((T.getD j []).drop ((A.set i a).getD j 0)) := by
      unfold absT
      rw [List.getElem?_map, List.getElem?_range hj]; rfl
    have e2 : (absT T A)[j]? = some ((T.getD j []).drop (A.getD j 0)) := by
      unfold absT
      rw [List.getElem?_map, List.getElem?_range hj]; rfl
    rw [e1, List.getElem?_set, absT_len]
    have e3 : (A.set i a).getD j 0 = if j = i then a else A.getD j 0 := getD_set _ _ _ _ _ (by omega)
    by_cases e : i = j
    · subst e
      rw [if_pos rfl, if_pos hi, e3, if_pos rfl]
    · rw [if_neg e, e2, e3, if_neg (fun x => e x.symm)]
  · rw [List.getElem?_eq_none (by rw [absT_len]; omega), List.getElem?_eq_none (by rw [List.length_set, absT_len]; omega)]
theorem natsL_set (A : List Nat) (i a : Nat) : natsL (A.set i a) = (natsL A).set i (.int .i64 (a : Nat)) := by
  unfold natsL
  rw [List.map_set]

section
variable {W w' : World} {b : Nat} {F F' : Nat → Prop} {r r' : Rf} {tv av lv cv ov av' lv' cv' ov' : Value} {vals : List Value}
theorem RAt.final (h : RAt W b F r tv av lv cv ov vals) (hlt : ∀ k, F k → k < W.heap.size) (hc : Chg (fun k => k = b ∨ HasT W k 3 ∨ HasT W k 70) W w') (hF : ∀ k, F k → F' k)
    (hT : r'.T = r.T) (blk : Blk w' b 63 #[tv, av, lv', cv', ov', .bool r'.over]) (at_ : w'.ownsRow (b + 1) 3 1 av r'.A.length (natsL r'.A))
    (lk : w'.ownsRow (b + 1) 70 2 lv' r'.L.length (psL r'.L)) (cl : w'.ownsRow (b + 1) 70 2 cv' r'.C.length (psL r'.C)) (said : w'.ownsRow (b + 1) 3 1 ov' r'.out.length (r'.out.map (Value.int .i64)))
    (ne1 : ∀ g, av.ownBlock = some g → ov'.ownBlock ≠ some g) (ne2 : ∀ g, lv'.ownBlock = some g → cv'.ownBlock ≠ some g) (flv : ∀ g, lv'.ownBlock = some g → F' g) (fcv : ∀ g, cv'.ownBlock = some g → F' g) (fov : ∀ g, ov'.ownBlock = some g → F' g)
    (len : r'.A.length = r.T.length) (le : ∀ i, i < r.T.length → r'.A.getD i 0 ≤ (r.T.getD i []).length) (few : r'.L.length + r'.C.length + r'.out.length + total (absT r'.T r'.A) ≤ 10000) : RAt w' b F' r' tv av lv' cv' ov' vals := by
  have hno : ∀ g t, HasT W g t → t ≠ 63 → t ≠ 3 → t ≠ 70 → ¬ (g = b ∨ HasT W g 3 ∨ HasT W g 70) := fun g t hg h1 h2 h3 hh => by
    rcases hh with e | e | e
    · exact (hg.ne h.blk.hasT h1) e
    · exact (hg.ne e h2) rfl
    · exact (hg.ne e h3) rfl
  refine ⟨blk, ?_, fun i hi => ?_, at_, lk, cl, said, ne1, ne2, hF _ h.fb, fun g hg => hF g (h.ftv g hg), fun g hg => hF g (h.fav g hg), flv, fcv, fov, by rw [hT]; exact len, by rw [hT]; exact le, by rw [hT]; exact h.wide, by rw [hT]; exact h.ok, few, by rw [hT]; exact h.all⟩
  · rw [hT]
    exact owns_chg h.ts hc fun g hg => hno g _ (own_hasT h.ts hg) (by decide) (by decide) (by decide)
  · rw [hT] at hi ⊢
    exact ((h.rows i hi).same fun g hg hTy => hc.block g (hlt g hg) (hno g _ hTy (by decide) (by decide) (by decide))).mono hF
end

/-- one step is gone of what is left. -/
theorem total_gone {T : List (List St)} {A : List Nat} {i : Nat} (hi : i < T.length) (hl : A.length = T.length) (ha : A.getD i 0 < (T.getD i []).length) : total (absT T (A.set i (A.getD i 0 + 1))) + 1 = total (absT T A) := by
  rw [absT_set hi hl]
  obtain ⟨x, hx⟩ : ∃ x, (T.getD i [])[A.getD i 0]? = some x := ⟨_, List.getElem?_eq_getElem ha⟩
  have hd : (T.getD i []).drop (A.getD i 0) = x :: (T.getD i []).drop (A.getD i 0 + 1) := by
    obtain ⟨h1, h2⟩ := List.getElem?_eq_some_iff.1 hx
    rw [List.drop_eq_getElem_cons h1, h2]
  exact total_set _ i x _ (by rw [absT_len]; exact hi) (by rw [absT_get _ _ hi, hd])

/-- what a call of the reference leaves. -/
def RTurned (w : World) (b : Nat) (F : Nat → Prop) (s' : Sc) (w' : World) : Prop := ∃ r' F', RIs w' b F' r' ∧ absS r' = s' ∧ Chg F w w' ∧ ∀ k, F' k → F k ∨ w.heap.size ≤ k

/-- the steps that are left, as they are counted. -/
theorem left_take {T : List (List St)} {A : List Nat} {k : Nat} (hk : k < T.length) : total ((absT T A).take (k + 1)) = total ((absT T A).take k) + ((T.getD k []).length - A.getD k 0) := by
  rw [total_take _ _ (by rw [absT_len]; exact hk), absT_get _ _ hk, List.length_drop]
theorem leftB_total {ts : List (List St)} (h : 0 < total ts) : leftB ts = true := by
  obtain ⟨i, x, r, hi, e⟩ := total_pos ts h
  exact leftB_yes hi (by rw [e]; simp)

end Go.Proofs.Ytfgfbmmidijgoaa
