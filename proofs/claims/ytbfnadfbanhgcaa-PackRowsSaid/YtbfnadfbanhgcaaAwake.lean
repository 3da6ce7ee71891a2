/- The contracts of Merge and Fits at every row, and of awake. -/
import Derived.Test.YtbfnadfbanhgcaaWords
namespace Go.Proofs.Ytbfnadfbanhgcaa
open Go.RowKit
set_option linter.unusedVariables false

theorem rights_of {l : List Sm} {p : Int} (h : rightsB l p = true) : 1 ≤ p ∧ p ≤ 2097152 ∧ l.length ≤ 64 ∧ ∀ k, (hk : k < l.length) → rightB l[k].s l[k].m l[k].e p = true := by
  unfold rightsB at h
  rw [Bool.and_eq_true] at h
  obtain ⟨h1, h2⟩ := h
  have h1 := of_decide_eq_true h1
  refine ⟨h1.1, h1.2.1, h1.2.2, fun k hk => ?_⟩
  exact List.all_eq_true.1 h2 l[k] (List.getElem_mem hk)

theorem right_fit {s m e p : Int} (hp : 1 ≤ p) (h : rightB s m e p = true) : 0 ≤ s ∧ s ≤ p ∧ 0 ≤ e ∧ e ≤ p ∧ 0 ≤ m ∧ m ≤ p := by
  unfold rightB at h
  have h := of_decide_eq_true h
  omega

theorem fit_of {l : List Sm} {p : Int} (h : rightsB l p = true) : ∀ k, (hk : k < l.length) → 0 ≤ l[k].s ∧ l[k].s ≤ p ∧ 0 ≤ l[k].e ∧ l[k].e ≤ p ∧ 0 ≤ l[k].m ∧ l[k].m ≤ p := by
  obtain ⟨hp, -, -, hr⟩ := rights_of h
  exact fun k hk => right_fit hp (hr k hk)

theorem ok_of {l : List Sm} {p : Int} (h : rightsB l p = true) : ∀ k, k ≤ l.length → mergeOk p k (mergeTo p l k) := by
  have hp := (rights_of h).1
  have hf := fit_of h
  intro k
  induction k with
  | zero => intro _; unfold mergeOk mergeTo; simp
  | succ k ih =>
    intro hk
    have h1 := ih (by omega)
    have h2 := hf k (by omega)
    have e : mergeTo p l (k + 1) = mergeStep p (mergeTo p l k) k (l.getD k ⟨0, 0, 0⟩) := rfl
    rw [e, getD_lt (by omega)]
    have e2 : ((k + 1 : Nat) : Int) * p = k * p + p := by rw [Int.natCast_add, Int.add_mul]; simp
    unfold mergeOk at *
    rw [e2]
    generalize mergeTo p l k = o at *
    generalize l[k] = x at *
    generalize (k : Int) * p = z at *
    unfold mergeStep
    dsimp only
    refine ⟨?_, ?_, ?_, ?_, ?_, ?_⟩ <;> (repeat' split) <;> omega

def mergeT (l : List Sm) (p : Int) : Value :=
  if rightsB l p = true then .tuple #[(mergeTo p l l.length).val, .int .i64 0] else .tuple #[.agg #[.int .i64 0, .int .i64 0, .int .i64 0], .int .i64 1]

def fitsT (l : List Sm) (p n : Int) : Value :=
  if rightsB l p = true ∧ 1 ≤ n then fitsTuple (fitsRec p n l 0 0) else .tuple #[.int .i64 0, .bool false, .int .i64 1]

theorem merge_nil (p : Int) (w : World) (hr : rightsB [] p = true) :
    Calls Try.prog 11 #[.slice none 0 0, .int .i64 p] w fun r w' => r = .returned (.tuple #[.agg #[.int .i64 0, .int .i64 0, .int .i64 0], .int .i64 0]) ∧ Ext w w' := by
  have H : ∀ w, SlAt w (.slice none 0 0) [] := fun w => Or.inl ⟨rfl, rfl⟩
  have H := Lib.hid H
  go_enter Try.func11, Try.ntmps11
  go_wp2_with fail
  refine (rights_any _ [] _ _ (H.out _)).mono ?_
  rintro e w1 ⟨rfl, hg⟩
  obtain ⟨q0, q1, q2, f, hz⟩ := hg.new3
  have hx := (Ext.refl w).alloc #[.int .i64 0, .int .i64 0, .int .i64 0] 25 |>.trans hg
  have HX := Lib.hid hx
  clear hg hx
  go_wp2
  refine wp_loop_rounds 1 ?_
  rw [rounds_succ]
  go_wp2
  refine bodyPost_ret (v := .tuple #[.agg #[.int .i64 0, .int .i64 0, .int .i64 0], .int .i64 0]) (by simp [results, Try.results11, go_sem, q0, q1, q2, f, Nat.ne_of_lt hz, hz]) rfl ⟨rfl, ?_⟩
  exact (((HX.out.setCell (Nat.le_refl _) _).setCell (Nat.le_refl _) _).setCell (Nat.le_refl _) _).alloc _ _

theorem merge_any (v : Value) (l : List Sm) (p : Int) (w : World) (h : SlAt w v l) :
    Calls Try.prog 11 #[v, .int .i64 p] w fun r w' => r = .returned (mergeT l p) ∧ Ext w w' := by
  unfold mergeT
  cases hr : rightsB l p
  · rw [if_neg (by decide)]; exact merge_no v l p w h hr
  · rw [if_pos rfl]
    obtain ⟨h1, h2, h3, -⟩ := rights_of hr
    rcases h with ⟨rfl, rfl⟩ | ⟨b, off, cap, rfl, hb, hc⟩
    · exact merge_nil p w hr
    · exact merge_yes b off cap l p w hb hc hr h1 h2 h3 (ok_of hr) (fit_of hr)

theorem fits_any (v : Value) (l : List Sm) (p n : Int) (w : World) (h : SlAt w v l) (hn : n ≤ 9223372036854775807) :
    Calls Try.prog 13 #[v, .int .i64 p, .int .i64 n] w fun r w' => r = .returned (fitsT l p n) ∧ Ext w w' := by
  unfold fitsT
  cases hr : rightsB l p
  · rw [if_neg (by simp)]; exact fits_no v l p n w h hr
  · by_cases h1 : 1 ≤ n
    · rw [if_pos ⟨rfl, h1⟩]
      obtain ⟨a1, a2, a3, -⟩ := rights_of hr
      rcases h with ⟨rfl, rfl⟩ | ⟨b, off, cap, rfl, hb, hc⟩
      · exact fits_nil p n w hr h1
      · exact fits_yes b off cap l p n w hb hc hr a1 a2 a3 h1 hn (fit_of hr)
    · rw [if_neg (by simp [h1])]; exact fits_low v l p n w h hr (by omega)

theorem sums_two (w : World) (x y : Sm) : SumsAt (w.alloc (.cells #[.int .i64 x.s, .int .i64 x.m, .int .i64 x.e, .int .i64 y.s, .int .i64 y.m, .int .i64 y.e] 25)) w.heap.size 0 [x, y] := by
  intro i hi
  have hi' : i < 2 := hi
  have : i = 0 ∨ i = 1 := by omega
  rcases this with rfl | rfl <;> simp

set_option maxHeartbeats 1000000 in
theorem awake_any (w : World) : Calls Try.prog 16 #[] w fun e w' => e = .returned (.bool true) ∧ Ext w w' := by
  have p1 : packT 1 2 1 = .tuple #[.int .u64 4398050705409, .int .i64 0] := by rw [packT_ok (by decide)]; rfl
  have p2 : mergeT [⟨8, 8, 8⟩, ⟨3, 4, 2⟩] 8 = .tuple #[.agg #[.int .i64 11, .int .i64 11, .int .i64 2], .int .i64 0] := by
    unfold mergeT; rw [if_pos (by decide)]; rfl
  have p3 : fitsT [⟨0, 2, 1⟩, ⟨2, 3, 0⟩] 8 3 = .tuple #[.int .i64 7, .bool true, .int .i64 0] := by
    unfold fitsT; rw [if_pos (by decide)]; rfl
  go_enter Try.func16, Try.ntmps16
  go_wp2_with fail
  refine (pack_any _ _ _ _).mono ?_
  rintro e w1 ⟨rfl, hg1⟩
  rw [p1]
  go_wp2_with fail
  refine (merge_any _ [⟨8, 8, 8⟩, ⟨3, 4, 2⟩] _ _ (Or.inr ⟨_, _, _, rfl, by simp, sums_two w1 ⟨8, 8, 8⟩ ⟨3, 4, 2⟩⟩)).mono ?_
  rintro e w2 ⟨rfl, hg2⟩
  rw [p2]
  go_wp2_with fail
  refine (fits_any _ [⟨0, 2, 1⟩, ⟨2, 3, 0⟩] _ _ _ (Or.inr ⟨w2.heap.size + 1, 0, _, rfl, by simp, ?_⟩) (by omega)).mono ?_
  · have := sums_two (w2.alloc (.cells #[.int .i64 11, .int .i64 11, .int .i64 2] 25)) ⟨0, 2, 1⟩ ⟨2, 3, 0⟩
    simpa using this
  rintro e w3 ⟨rfl, hg3⟩
  rw [p3]
  have hg3' : Ext (w2.alloc (.cells #[.int .i64 11, .int .i64 11, .int .i64 2] 25)) w3 := ((Ext.refl _).alloc _ _).trans hg3
  obtain ⟨q0, q1, q2, f, hz⟩ := hg3'.new3
  have HX : Hid (Ext w w3) := Lib.hid (by
    refine (hg1.trans ?_).trans hg3'
    exact (((Ext.refl w1).alloc _ _).trans hg2).trans ((Ext.refl w2).alloc _ _))
  clear hg1 hg2 hg3 hg3'
  go_wp2
  go_ret
  exact ⟨rfl, HX.out⟩

end Go.Proofs.Ytbfnadfbanhgcaa
