/- The reference's scheduler: what it holds, how it lies in memory, and which scheduler it is. -/
import Derived.Test.YtfgfbmmidijgoaaSchG
namespace Go.Proofs.Ytfgfbmmidijgoaa
open Go.RowKit
set_option linter.unusedVariables false

def lookP : List (Int × Int) → Int → Option Int
  | [], _ => none
  | p :: r, k => if p.1 = k then some p.2 else lookP r k
def putP : List (Int × Int) → Int → Int → List (Int × Int)
  | [], n, x => [(n, x)]
  | p :: r, n, x => if p.1 = n then (p.1, x) :: r else p :: putP r n x
def dropP (l : List (Int × Int)) (n : Int) : List (Int × Int) := l.filter fun p => decide (p.1 ≠ n)
theorem lookP_put : ∀ (l : List (Int × Int)) (n x : Int), lookP (putP l n x) = updM (lookP l) n (some x)
  | [], n, x => by
    funext k
    show (if n = k then some x else none) = if k = n then some x else none
    by_cases h : n = k
    · rw [if_pos h, if_pos h.symm]
    · rw [if_neg h, if_neg (fun e => h e.symm)]
  | p :: r, n, x => by
    have ih := lookP_put r n x
    funext k
    by_cases h : p.1 = n
    · have e : putP (p :: r) n x = (p.1, x) :: r := if_pos h
      rw [e]
      show (if p.1 = k then some x else lookP r k) = if k = n then some x else (if p.1 = k then some p.2 else lookP r k)
      by_cases h2 : p.1 = k
      · rw [if_pos h2, if_pos (h2.symm.trans h)]
      · rw [if_neg h2, if_neg (fun e => h2 (h.trans e.symm)), if_neg h2]
    · have e : putP (p :: r) n x = p :: putP r n x := if_neg h
      rw [e]
      show (if p.1 = k then some p.2 else lookP (putP r n x) k) = if k = n then some x else (if p.1 = k then some p.2 else lookP r k)
      rw [ih]
      unfold updM
      by_cases h2 : p.1 = k
      · rw [if_pos h2, if_neg (fun e => h (h2.trans e)), if_pos h2]
      · rw [if_neg h2, if_neg h2]
theorem lookP_drop : ∀ (l : List (Int × Int)) (n : Int), lookP (dropP l n) = updM (lookP l) n none
  | [], n => by
    funext k
    show none = if k = n then none else none
    split <;> rfl
  | p :: r, n => by
    have ih := lookP_drop r n
    unfold dropP at ih
    funext k
    unfold dropP
    rw [List.filter_cons]
    by_cases h : p.1 = n
    · rw [if_neg (by simpa using h), ih]
      show (if k = n then none else lookP r k) = if k = n then none else (if p.1 = k then some p.2 else lookP r k)
      by_cases h2 : k = n
      · rw [if_pos h2, if_pos h2]
      · rw [if_neg h2, if_neg h2, if_neg (fun e => h2 (e.symm.trans h))]
    · rw [if_pos (by simpa using h)]
      show (if p.1 = k then some p.2 else lookP (List.filter _ r) k) = if k = n then none else (if p.1 = k then some p.2 else lookP r k)
      rw [ih]
      unfold updM
      by_cases h2 : p.1 = k
      · rw [if_pos h2, if_neg (fun e => h (h2.trans e)), if_pos h2]
      · rw [if_neg h2, if_neg h2]
theorem putP_len : ∀ (l : List (Int × Int)) (n x : Int), (putP l n x).length ≤ l.length + 1
  | [], n, x => Nat.le_refl _
  | p :: r, n, x => by
    have := putP_len r n x
    show (if p.1 = n then (p.1, x) :: r else p :: putP r n x).length ≤ r.length + 1 + 1
    split
    · simp
    · simp; omega
theorem dropP_len (l : List (Int × Int)) (n : Int) : (dropP l n).length ≤ l.length := List.length_filter_le _ _

/-- the cells of a row of pairs. -/
def pL (p : Int × Int) : List Value := [.int .i64 p.1, .int .i64 p.2]
def psL : List (Int × Int) → List Value
  | [] => []
  | p :: r => pL p ++ psL r
theorem psL_len : ∀ l : List (Int × Int), (psL l).length = l.length * 2
  | [] => rfl
  | p :: r => by
    show (pL p ++ psL r).length = _
    rw [List.length_append, psL_len r, List.length_cons]; show 2 + _ = _; omega
theorem psL_append : ∀ a b : List (Int × Int), psL (a ++ b) = psL a ++ psL b
  | [], _ => rfl
  | p :: a, b => by show pL p ++ psL (a ++ b) = (pL p ++ psL a) ++ psL b; rw [psL_append a b, List.append_assoc]
theorem psL_at : ∀ (l : List (Int × Int)) (j : Nat) (p : Int × Int), l[j]? = some p → (psL l)[j * 2]? = some (.int .i64 p.1) ∧ (psL l)[j * 2 + 1]? = some (.int .i64 p.2)
  | q :: l, 0, p, h => by
    have : q = p := by simpa using h
    subst this
    exact ⟨rfl, rfl⟩
  | q :: l, j + 1, p, h => by
    obtain ⟨h1, h2⟩ := psL_at l j p (by simpa using h)
    rw [show (j + 1) * 2 = j * 2 + 1 + 1 by omega]
    exact ⟨h1, h2⟩

structure Rf where
  T : List (List St)
  A : List Nat
  L : List (Int × Int)
  C : List (Int × Int)
  out : List Int
  over : Bool
def absT (T : List (List St)) (A : List Nat) : List (List St) := (List.range T.length).map fun (i : Nat) => (T.getD i []).drop (A.getD i 0)
def absS (r : Rf) : Sc := { ts := absT r.T r.A, lk := lookP r.L, cl := lookP r.C, out := r.out, over := r.over }
theorem absT_len (T : List (List St)) (A : List Nat) : (absT T A).length = T.length := by simp [absT]
theorem absT_get (T : List (List St)) (A : List Nat) {i : Nat} (h : i < T.length) : (absT T A).getD i [] = (T.getD i []).drop (A.getD i 0) := by
  unfold absT
  rw [List.getD_eq_getElem?_getD, List.getElem?_map, List.getElem?_range h]
  rfl
def natsL (A : List Nat) : List Value := A.map fun (a : Nat) => .int .i64 (a : Nat)

structure RAt (w : World) (b : Nat) (F : Nat → Prop) (r : Rf) (tv av lv cv ov : Value) (vals : List Value) : Prop where
  blk : Blk w b 63 #[tv, av, lv, cv, ov, .bool r.over]
  ts : w.ownsRow (b + 1) 23 1 tv r.T.length vals
  rows : ∀ i, i < r.T.length → StRow w F (vals.getD i undef) (r.T.getD i [])
  at_ : w.ownsRow (b + 1) 3 1 av r.A.length (natsL r.A)
  lk : w.ownsRow (b + 1) 70 2 lv r.L.length (psL r.L)
  cl : w.ownsRow (b + 1) 70 2 cv r.C.length (psL r.C)
  said : w.ownsRow (b + 1) 3 1 ov r.out.length (r.out.map (Value.int .i64))
  ne1 : ∀ g, av.ownBlock = some g → ov.ownBlock ≠ some g
  ne2 : ∀ g, lv.ownBlock = some g → cv.ownBlock ≠ some g
  fb : F b
  ftv : ∀ g, tv.ownBlock = some g → F g
  fav : ∀ g, av.ownBlock = some g → F g
  flv : ∀ g, lv.ownBlock = some g → F g
  fcv : ∀ g, cv.ownBlock = some g → F g
  fov : ∀ g, ov.ownBlock = some g → F g
  len : r.A.length = r.T.length
  le : ∀ i, i < r.T.length → r.A.getD i 0 ≤ (r.T.getD i []).length
  wide : r.T.length ≤ 64
  ok : ∀ i x, x ∈ r.T.getD i [] → x.Ok
  few : r.L.length + r.C.length + r.out.length + total (absT r.T r.A) ≤ 10000
  all : total r.T ≤ 10000
structure RIs (w : World) (b : Nat) (F : Nat → Prop) (r : Rf) : Prop where
  at_ : ∃ tv av lv cv ov vals, RAt w b F r tv av lv cv ov vals
  lt : ∀ k, F k → k < w.heap.size

section
variable {w w' : World} {b : Nat} {F G : Nat → Prop} {r : Rf} {tv av lv cv ov : Value} {vals : List Value}
theorem RAt.chg (h : RAt w b F r tv av lv cv ov vals) (hlt : ∀ k, F k → k < w.heap.size) (hc : Chg G w w') (hd : ∀ k, F k → ¬ G k) : RAt w' b F r tv av lv cv ov vals :=
  ⟨h.blk.chg hc (hd b h.fb), owns_chg h.ts hc fun g hg => hd g (h.ftv g hg), fun i hi => (h.rows i hi).same fun g hF hT => hc.block g (hlt g hF) (hd g hF), owns_chg h.at_ hc fun g hg => hd g (h.fav g hg), owns_chg h.lk hc fun g hg => hd g (h.flv g hg), owns_chg h.cl hc fun g hg => hd g (h.fcv g hg), owns_chg h.said hc fun g hg => hd g (h.fov g hg), h.ne1, h.ne2, h.fb, h.ftv, h.fav, h.flv, h.fcv, h.fov, h.len, h.le, h.wide, h.ok, h.few, h.all⟩
theorem RAt.mono {F' : Nat → Prop} (h : RAt w b F r tv av lv cv ov vals) (hF : ∀ k, F k → F' k) : RAt w b F' r tv av lv cv ov vals :=
  ⟨h.blk, h.ts, fun i hi => (h.rows i hi).mono hF, h.at_, h.lk, h.cl, h.said, h.ne1, h.ne2, hF _ h.fb, fun g hg => hF g (h.ftv g hg), fun g hg => hF g (h.fav g hg), fun g hg => hF g (h.flv g hg), fun g hg => hF g (h.fcv g hg), fun g hg => hF g (h.fov g hg), h.len, h.le, h.wide, h.ok, h.few, h.all⟩
theorem RIs.chg (h : RIs w b F r) (hc : Chg G w w') (hd : ∀ k, F k → ¬ G k) : RIs w' b F r := by
  obtain ⟨⟨tv, av, lv, cv, ov, vals, h1⟩, h2⟩ := h
  exact ⟨⟨tv, av, lv, cv, ov, vals, h1.chg h2 hc hd⟩, fun k hk => Nat.lt_of_lt_of_le (h2 k hk) hc.size⟩
theorem RIs.later (h : RIs w b F r) (hx : Ext w w') : RIs w' b F r := h.chg (Chg.of_ext hx (fun _ => False)) fun _ _ h => h
theorem RIs.lt_b (h : RIs w b F r) : b < w.heap.size := by
  obtain ⟨⟨tv, av, lv, cv, ov, vals, h1⟩, -⟩ := h
  exact h1.blk.lt
end

/-- a row of pairs that can be read. -/
def PsAt (w : World) (v : Value) (l : List (Int × Int)) : Prop := ∃ p cap, v = .slice p l.length cap ∧ l.length ≤ 20000 ∧ ∀ j q, l[j]? = some q → ∃ g, p = some ⟨g, 0, none⟩ ∧ g < w.heap.size ∧ w.cell? ⟨g, j * 2, none⟩ = some (.int .i64 q.1) ∧ w.cell? ⟨g, j * 2 + 1, none⟩ = some (.int .i64 q.2)
theorem ps_of_own {w : World} {B : Nat} {v : Value} {l : List (Int × Int)} (h : w.ownsRow B 70 2 v l.length (psL l)) (hl : l.length ≤ 20000) : PsAt w v l := by
  obtain ⟨p, cap, rfl, -, -, hp⟩ := owns_form h
  refine ⟨p, cap, rfl, hl, fun j q hj => ?_⟩
  obtain ⟨hlt, -⟩ := List.getElem?_eq_some_iff.1 hj
  rcases hp with hp | ⟨g, rfl, -, hg⟩
  · omega
  · obtain ⟨e1, e2⟩ := psL_at l j q hj
    exact ⟨g, rfl, hg, (h.cellAt _ (by omega)).trans e1, (h.cellAt _ (by omega)).trans e2⟩

theorem drop_at {l : List (Int × Int)} {j : Nat} {q : Int × Int} (h : l[j]? = some q) : l.drop j = q :: l.drop (j + 1) := by
  obtain ⟨hlt, e⟩ := List.getElem?_eq_some_iff.1 h
  rw [List.drop_eq_getElem_cons hlt, e]

set_option maxRecDepth 20000 in
set_option maxHeartbeats 2000000 in
theorem look_any (v : Value) (l : List (Int × Int)) (name : Int) (w : World) (h : PsAt w v l) :
    Calls Try.prog 41 #[v, .int .i64 name] w fun r w' => r = .returned (.tuple #[.int .i64 ((lookP l name).getD 0), .bool (lookP l name).isSome]) ∧ w = w' := by
  obtain ⟨p, cap, rfl, hl, hc⟩ := h
  have HC := Lib.hid hc
  clear hc
  go_enter Try.func41, Try.ntmps41
  go_wp2
  obtain ⟨W, rfl⟩ : ∃ W, W = w := ⟨_, rfl⟩
  go_loopw [6] (fun i wr => ∃ k : Nat, k ≤ l.length ∧ i = .int .i64 k ∧ wr = W ∧ Hid (lookP l name = lookP (l.drop k) name)) (fun i _ => l.length - (intOf i).toNat)
  case atStart => exact ⟨0, by omega, rfl, rfl, Lib.hid rfl⟩
  case round =>
    obtain ⟨k, hk, rfl, rfl, hI⟩ := hrel
    by_cases hlt : k < l.length
    · have hq := List.getElem?_eq_getElem hlt
      obtain ⟨g, rfl, hg, c0, c1⟩ := HC.out k _ hq
      have HD := Lib.hid (drop_at hq)
      clear hq
      generalize l[k] = q at *
      obtain ⟨a, x⟩ := q
      by_cases ha : a = name
      · subst ha
        have HE := Lib.hid (show lookP l a = some x by rw [hI.out, HD.out]; exact if_pos rfl)
        go_wp2_with fail
        go_ret2
        rw [HE.out]
        exact ⟨rfl, rfl⟩
      · have k1 : (a == name) = false := beq_eq_false_iff_ne.2 ha
        have HN := Lib.hid (show lookP l name = lookP (l.drop (k + 1)) name by rw [hI.out, HD.out]; exact if_neg ha)
        clear ha
        go_wp2_with fail
        go_roundw
        case rel => exact ⟨k + 1, by omega, by go_num, by first | trivial | rfl, HN⟩
        case measure => simp [intOf]; omega
    · have HE := Lib.hid (show lookP l name = none by rw [hI.out, List.drop_eq_nil_of_le (by omega)]; rfl)
      go_wp2_with fail
      go_ret2
      rw [HE.out]
      exact ⟨rfl, rfl⟩

end Go.Proofs.Ytfgfbmmidijgoaa
