/- The contracts of the reference's put and drop. -/
import Derived.Test.YtfgfbmmidijgoaaRefR
namespace Go.Proofs.Ytfgfbmmidijgoaa
open Go.RowKit
set_option linter.unusedVariables false

theorem putP_hit : ∀ (l : List (Int × Int)) (j : Nat) (n x y : Int), (∀ (i : Nat) (q : Int × Int), i < j → l[i]? = some q → q.1 ≠ n) → l[j]? = some (n, y) → psL (putP l n x) = (psL l).set (j * 2 + 1) (.int .i64 x) ∧ (putP l n x).length = l.length
  | p :: l, 0, n, x, y, _, h => by
    have e : p = (n, y) := by simpa using h
    subst e
    have e2 : putP ((n, y) :: l) n x = (n, x) :: l := if_pos rfl
    rw [e2]
    exact ⟨rfl, rfl⟩
  | p :: l, j + 1, n, x, y, hn, h => by
    obtain ⟨h1, h2⟩ := putP_hit l j n x y (fun i q hi hq => hn (i + 1) q (by omega) (by simpa using hq)) (by simpa using h)
    have e2 : putP (p :: l) n x = p :: putP l n x := if_neg (hn 0 p (by omega) (by simp))
    rw [e2]
    refine ⟨?_, by rw [List.length_cons, h2]; rfl⟩
    show pL p ++ psL (putP l n x) = (pL p ++ psL l).set ((j + 1) * 2 + 1) _
    rw [h1, show (j + 1) * 2 + 1 = (j * 2 + 1) + 1 + 1 by omega]
    rfl
theorem putP_miss : ∀ (l : List (Int × Int)) (n x : Int), (∀ (i : Nat) (q : Int × Int), l[i]? = some q → q.1 ≠ n) → putP l n x = l ++ [(n, x)]
  | [], n, x, _ => rfl
  | p :: l, n, x, h => by
    have e2 : putP (p :: l) n x = p :: putP l n x := if_neg (h 0 p (by simp))
    rw [e2, putP_miss l n x fun i q hq => h (i + 1) q (by simpa using hq)]
    rfl
theorem pair_info : (Try.prog.info? 70).map (fun i => (i.zero, i.size, i.bytes)) = some (some (.agg #[.int .i64 0, .int .i64 0]), 2, 16) := by kernel_rfl

/-- what put leaves. -/
structure PutPost (B : Nat) (v : Value) (l' : List (Int × Int)) (w : World) (v' : Value) (w' : World) : Prop where
  own : w'.ownsRow B 70 2 v' l'.length (psL l')
  chg : Chg (fun k => v.ownBlock = some k) w w'
  blk : ∀ g, v'.ownBlock = some g → v.ownBlock = some g ∨ w.heap.size ≤ g

set_option maxRecDepth 20000 in
set_option maxHeartbeats 4000000 in
theorem put_any (B : Nat) (v : Value) (l : List (Int × Int)) (n x : Int) (w : World) (h : w.ownsRow B 70 2 v l.length (psL l)) (hl : l.length ≤ 20000) (hB : B ≤ w.heap.size) :
    Calls Try.prog 36 #[v, .int .i64 n, .int .i64 x] w fun e w' => ∃ v', e = .returned v' ∧ PutPost B v (putP l n x) w v' w' := by
  obtain ⟨i0, hi0, hz0, hz1, hz2⟩ := info_parts pair_info
  have HW := Lib.hid h
  obtain ⟨p, cap, hv, _, hc⟩ := ps_of_own h hl
  subst hv
  have HC := Lib.hid hc
  clear h hc
  go_enter Try.func36, Try.ntmps36
  go_wp2
  obtain ⟨W, rfl⟩ : ∃ W, W = w := ⟨_, rfl⟩
  go_loopw [7] (fun i wr => ∃ k : Nat, k ≤ l.length ∧ i = .int .i64 k ∧ wr = W ∧ Hid (∀ i q, i < k → l[i]? = some q → q.1 ≠ n)) (fun i _ => l.length - (intOf i).toNat)
  case atStart => exact ⟨0, by omega, rfl, rfl, Lib.hid fun i q hi => absurd hi (Nat.not_lt_zero _)⟩
  case round =>
    obtain ⟨k, hk, rfl, rfl, hI⟩ := hrel
    by_cases hlt : k < l.length
    · have hq := List.getElem?_eq_getElem hlt
      obtain ⟨g, rfl, hg, c0, c1⟩ := HC.out k _ hq
      have HQ := Lib.hid hq
      clear hq
      generalize l[k] = q at *
      obtain ⟨a, y⟩ := q
      by_cases ha : a = n
      · subst ha
        have hput := putP_hit l k a x y hI.out HQ.out
        obtain ⟨s1, s2⟩ := HW.out.stored (k * 2 + 1) (.int .i64 x)
        have fz := HW.out.frozenAt (k * 2 + 1)
        have HP : Hid (PutPost B (.slice (some ⟨g, 0, none⟩) l.length cap) (putP l a x) wr (.slice (some ⟨g, 0, none⟩) l.length cap) (wr.setCell ⟨g, k * 2 + 1, none⟩ (.int .i64 x))) := Lib.hid
          ⟨by rw [hput.1, hput.2]; exact s1, (Chg.refl (fun k => (Value.slice (some ⟨g, 0, none⟩) l.length cap).ownBlock = some k) wr).setCell (p := ⟨g, k * 2 + 1, none⟩) (.inl rfl) _, fun g' h => .inl h⟩
        clear hput s1 s2
        go_wp2_with fail
        go_ret
        exact ⟨_, rfl, HP.out⟩
      · have k1 : (a == n) = false := beq_eq_false_iff_ne.2 ha
        have HN := Lib.hid (show ∀ i q, i < k + 1 → l[i]? = some q → q.1 ≠ n from fun i q hi hq => by
          by_cases e : i = k
          · subst e
            have := HQ.out.symm.trans hq
            injection this with this
            subst this
            exact ha
          · exact hI.out i q (by omega) hq)
        clear ha
        go_wp2_with fail
        go_roundw
        case rel => exact ⟨k + 1, by omega, by go_num, by first | trivial | rfl, HN⟩
        case measure => simp [intOf]; omega
    · have HE := Lib.hid (putP_miss l n x fun i q hq => hI.out i q (by have := (List.getElem?_eq_some_iff.1 hq).1; omega) hq)
      go_wp2_with (first | (at_builtin; refine wpList_append_all B _ rfl (.tmp 27) (.tmp 31) 61 rfl 70 i0 _ 2 16 Try.underlying61 hi0 hz0 hz1 hz2 rfl (by decide) _ _ _ (by rfl) (by exact owns_later HW.out (((Ext.refl _).alloc _ _).below)) (.slice (some ⟨wr.heap.size, 0, none⟩) 1 1) 1 [.int .i64 n, .int .i64 x] (by rfl) (by exact src_one wr [.int .i64 n, .int .i64 x] _ 2 rfl) (by intro u hu; simp at hu; rcases hu with rfl | rfl <;> rfl) (by unfold maxLen; omega) (by omega) (by simp; omega) ?_) | fail)
      intro v' w2 hown hchg hat
      have HP : Hid (PutPost B (.slice p l.length cap) (putP l n x) wr v' w2) := Lib.hid
        ⟨by rw [HE.out, List.length_append, psL_append]; exact hown, ((Chg.refl (fun k => (Value.slice p l.length cap).ownBlock = some k) wr).alloc _ _).trans hchg fun i hi => .inl hi, fun g hg => by
          rcases hat with e | e
          · exact .inl (e ▸ hg)
          · right
            rw [e] at hg
            injection hg with hg
            omega⟩
      clear hown hchg hat
      go_wp2_with fail
      go_ret
      exact ⟨_, rfl, HP.out⟩

theorem dropP_take (l : List (Int × Int)) (n : Int) (k : Nat) (q : Int × Int) (h : l[k]? = some q) : dropP (l.take (k + 1)) n = if q.1 = n then dropP (l.take k) n else dropP (l.take k) n ++ [q] := by
  unfold dropP
  rw [List.take_add_one, h, List.filter_append]
  show _ ++ List.filter _ [q] = _
  rw [List.filter_cons]
  by_cases e : q.1 = n
  · rw [if_pos e, if_neg (by simpa using e)]; simp
  · rw [if_neg e, if_pos (by simpa using e)]; rfl

set_option maxRecDepth 20000 in
set_option maxHeartbeats 4000000 in
theorem drop_any (v : Value) (l : List (Int × Int)) (n : Int) (w : World) (h : PsAt w v l) :
    Calls Try.prog 35 #[v, .int .i64 n] w fun e w' => ∃ v', e = .returned v' ∧ w'.ownsRow w.heap.size 70 2 v' (dropP l n).length (psL (dropP l n)) ∧ Ext w w' := by
  obtain ⟨i0, hi0, hz0, hz1, hz2⟩ := info_parts pair_info
  obtain ⟨p, cap, rfl, hl, hc⟩ := h
  have HC := Lib.hid hc
  clear hc
  go_enter Try.func35, Try.ntmps35
  go_wp2
  go_loopw [5, 6] (fun v i wr => ∃ k : Nat, k ≤ l.length ∧ i = .int .i64 k ∧ Hid (wr.ownsRow w.heap.size 70 2 v (dropP (l.take k) n).length (psL (dropP (l.take k) n)) ∧ Ext w wr)) (fun _ i _ => l.length - (intOf i).toNat)
  case atStart => exact ⟨0, by omega, rfl, Lib.hid ⟨owns_nil _ _ _ _, Ext.refl _⟩⟩
  case round =>
    obtain ⟨k, hk, rfl, hI⟩ := hrel
    by_cases hlt : k < l.length
    · have hq := List.getElem?_eq_getElem hlt
      obtain ⟨g, rfl, hg, c0, c1⟩ := HC.out k _ hq
      have c0 := (hI.out.2.cell _ _ hg).trans c0
      have c1 := (hI.out.2.cell _ _ hg).trans c1
      have HT := Lib.hid (dropP_take l n k _ hq)
      have hdl : (dropP (l.take k) n).length ≤ l.length := Nat.le_trans (dropP_len _ _) (by rw [List.length_take]; omega)
      clear hq
      generalize l[k] = q at *
      obtain ⟨a, y⟩ := q
      by_cases ha : a = n
      · have k1 : (a == n) = true := beq_iff_eq.2 ha
        have HN := Lib.hid (show wr.ownsRow w.heap.size 70 2 _ (dropP (l.take (k + 1)) n).length (psL (dropP (l.take (k + 1)) n)) ∧ Ext w wr by
          rw [HT.out, if_pos ha]; exact hI.out)
        clear ha hI
        go_wp2_with fail
        go_roundw
        case rel => exact ⟨k + 1, by omega, by go_num, HN⟩
        case measure => simp [intOf]; omega
      · have k1 : (a == n) = false := beq_eq_false_iff_ne.2 ha
        obtain ⟨pv, capv, rfl, -, -, -⟩ := owns_form hI.out.1
        generalize hm : (dropP (l.take k) n).length = m at *
        have HM := Lib.hid hm
        have HOw : Hid (wr.ownsRow w.heap.size 70 2 (.slice pv m capv) m (psL (dropP (l.take k) n))) := Lib.hid hI.out.1
        have HX := Lib.hid hI.out.2
        clear hm hI
        go_wp2_with (first | (at_builtin; refine wpList_append_all w.heap.size _ rfl (.tmp 20) (.tmp 25) 61 rfl 70 i0 _ 2 16 Try.underlying61 hi0 hz0 hz1 hz2 rfl (by decide) _ _ _ (by rfl) (by exact owns_later HOw.out (((Ext.refl _).alloc _ _).below)) (.slice (some ⟨wr.heap.size, 0, none⟩) 1 1) 1 [.int .i64 a, .int .i64 y] (by rfl) (by exact src_one wr [.int .i64 a, .int .i64 y] _ 2 rfl) (by intro u hu; simp at hu; rcases hu with rfl | rfl <;> rfl) (by unfold maxLen; omega) (by omega) (by have := HX.out.size; simp; omega) ?_) | fail)
        intro v' w2 hown hchg hat
        have HN := Lib.hid (show w2.ownsRow w.heap.size 70 2 v' (dropP (l.take (k + 1)) n).length (psL (dropP (l.take (k + 1)) n)) ∧ Ext w w2 by
          rw [HT.out, if_neg ha, List.length_append, HM.out, psL_append]
          exact ⟨hown, hchg.ext (HX.out.alloc _ _) fun i hi => (owns_lt HOw.out i hi).1⟩)
        obtain ⟨p', cap', rfl, -, -, -⟩ := owns_form hown
        clear hown hchg hat ha
        go_wp2_with fail
        go_roundw
        case rel => exact ⟨k + 1, by omega, by go_num, HN⟩
        case measure => simp [intOf]; omega
    · obtain rfl : k = l.length := by omega
      have HN := Lib.hid (by have := hI.out; rwa [List.take_length] at this : wr.ownsRow w.heap.size 70 2 _ (dropP l n).length (psL (dropP l n)) ∧ Ext w wr)
      clear hI
      go_wp2_with fail
      go_ret
      exact ⟨_, rfl, HN.out⟩

end Go.Proofs.Ytfgfbmmidijgoaa
