/- Tasks, locks, cells: what a scheduler holds, and how it lies in memory. -/
import Derived.Test.YtfgfbmmidijgoaaIMap
import Derived.Test.YtfgfbmmidijgoaaHead
import Derived.Test.YtfgfbmmidijgoaaLater
namespace Go.Proofs.Ytfgfbmmidijgoaa
open Go.RowKit
set_option linter.unusedVariables false

structure St where
  op : Int
  a : Int
  b : Int
structure St.Ok (x : St) : Prop where
  op1 : 1 ≤ x.op
  op5 : x.op ≤ 5
  a : (Lit.int .i64 x.a).wf = true
  b : (Lit.int .i64 x.b).wf = true
def stL (x : St) : List Value := [.int .i64 x.op, .int .i64 x.a, .int .i64 x.b]
def stsL : List St → List Value
  | [] => []
  | x :: t => stL x ++ stsL t
theorem stsL_len : ∀ t : List St, (stsL t).length = t.length * 3
  | [] => rfl
  | x :: t => by
    show (stL x ++ stsL t).length = _
    rw [List.length_append, stsL_len t, List.length_cons]; show 3 + _ = _; omega
theorem stsL_append : ∀ t u : List St, stsL (t ++ u) = stsL t ++ stsL u
  | [], _ => rfl
  | x :: t, u => by show stL x ++ stsL (t ++ u) = (stL x ++ stsL t) ++ stsL u; rw [stsL_append t u, List.append_assoc]
theorem stsL_one (t : List St) : ∀ u ∈ stsL t, u.oneCell' = true := by
  induction t with
  | nil => intro u hu; cases hu
  | cons x t ih =>
    intro u hu
    rcases List.mem_append.1 (show u ∈ stL x ++ stsL t from hu) with h | h
    · simp [stL] at h
      rcases h with rfl | rfl | rfl <;> rfl
    · exact ih u h

structure Sc where
  ts : List (List St)
  lk : Int → Option Int
  cl : Int → Option Int
  out : List Int
  over : Bool
  pend : Nat := 0

def total : List (List St) → Nat
  | [] => 0
  | t :: r => t.length + total r

/-- a block of cells of a type. -/
def HasT (w : World) (g : Nat) (t : TypeId) : Prop := ∃ cs fz, w.heap[g]? = some (.cells cs t fz)
theorem HasT.ne {w : World} {g g' : Nat} {t t' : TypeId} (h : HasT w g t) (h' : HasT w g' t') (hne : t ≠ t') : g ≠ g' := by
  rintro rfl
  obtain ⟨cs, fz, e⟩ := h
  obtain ⟨cs', fz', e'⟩ := h'
  rw [e] at e'
  injection e' with e'; injection e' with _ e2 _
  exact hne e2
theorem HasT.lt {w : World} {g : Nat} {t : TypeId} (h : HasT w g t) : g < w.heap.size := by
  obtain ⟨cs, fz, e⟩ := h
  exact (Array.getElem?_eq_some_iff.1 e).1
theorem HasT.same {w w' : World} {g : Nat} {t : TypeId} (h : HasT w g t) (hb : w'.heap[g]? = w.heap[g]?) : HasT w' g t := by
  obtain ⟨cs, fz, e⟩ := h
  exact ⟨cs, fz, hb.trans e⟩
theorem Blk.hasT {w : World} {g : Nat} {t : TypeId} {cs : Array Value} (h : Blk w g t cs) : HasT w g t := ⟨cs, (0, 0), h⟩
theorem own_hasT {w : World} {B s n : Nat} {e : TypeId} {v : Value} {xs : List Value} (h : w.ownsRow B e s v n xs) {g : Nat} (hg : v.ownBlock = some g) : HasT w g e := by
  rcases h.2 with ⟨rfl, -⟩ | ⟨g', cap, cur, rfl, -, hh, -⟩
  · cases hg
  · have : g' = g := by simpa [Value.ownBlock] using hg
    subst this
    exact ⟨cur, _, hh⟩
theorem IMap.ne_t {w : World} {b n g : Nat} {f : Int → Option Int} {t : TypeId} (h : IMap w b n f) (h' : HasT w g t) : b ≠ g := by
  rintro rfl
  obtain ⟨es, c, e⟩ := h.isMap
  obtain ⟨cs, fz, e'⟩ := h'
  rw [e] at e'; injection e' with e'; cases e'

/-- a row of steps that can be read; its block is F's. -/
def StRow (w : World) (F : Nat → Prop) (v : Value) (t : List St) : Prop :=
  ∃ p cap, v = .slice p t.length cap ∧ t.length ≤ cap ∧ cap ≤ maxLen ∧ (t = [] ∨ ∃ g off, p = some ⟨g, off, none⟩ ∧ F g ∧ HasT w g 25 ∧ ∀ j, j < t.length * 3 → w.cell? ⟨g, off + j, none⟩ = (stsL t)[j]?)

theorem StRow.same {w w' : World} {F : Nat → Prop} {v : Value} {t : List St} (h : StRow w F v t) (hb : ∀ g, F g → HasT w g 25 → w'.heap[g]? = w.heap[g]?) : StRow w' F v t := by
  obtain ⟨p, cap, e, h1, h2, h3⟩ := h
  refine ⟨p, cap, e, h1, h2, ?_⟩
  rcases h3 with h3 | ⟨g, off, e2, hF, hT, hc⟩
  · exact .inl h3
  · have hg := hb g hF hT
    exact .inr ⟨g, off, e2, hF, hT.same hg, fun j hj => (World.cell?_of_block hg).trans (hc j hj)⟩
theorem StRow.mono {w : World} {F F' : Nat → Prop} {v : Value} {t : List St} (h : StRow w F v t) (hF : ∀ g, F g → F' g) : StRow w F' v t := by
  obtain ⟨p, cap, e, h1, h2, h3⟩ := h
  refine ⟨p, cap, e, h1, h2, ?_⟩
  rcases h3 with h3 | ⟨g, off, e2, hf, r⟩
  · exact .inl h3
  · exact .inr ⟨g, off, e2, hF g hf, r⟩
theorem StRow.head {w : World} {F : Nat → Prop} {v : Value} {x : St} {t : List St} (h : StRow w F v (x :: t)) : ∃ g off cap, v = .slice (some ⟨g, off, none⟩) (t.length + 1) cap ∧ t.length + 1 ≤ cap ∧ cap ≤ maxLen ∧ F g ∧ HasT w g 25 ∧
    w.cell? ⟨g, off, none⟩ = some (.int .i64 x.op) ∧ w.cell? ⟨g, off + 1, none⟩ = some (.int .i64 x.a) ∧ w.cell? ⟨g, off + 2, none⟩ = some (.int .i64 x.b) := by
  obtain ⟨p, cap, rfl, h1, h2, h3⟩ := h
  rcases h3 with h3 | ⟨g, off, rfl, hF, hT, hc⟩
  · cases h3
  · refine ⟨g, off, cap, rfl, h1, h2, hF, hT, ?_, ?_, ?_⟩
    · have := hc 0 (by simp)
      exact this
    · exact hc 1 (by rw [List.length_cons]; omega)
    · exact hc 2 (by rw [List.length_cons]; omega)
/-- the first step is gone. -/
theorem StRow.tail {w : World} {F : Nat → Prop} {x : St} {t : List St} {g off cap : Nat} {a' : Addr} (h : StRow w F (.slice (some ⟨g, off, none⟩) (t.length + 1) cap) (x :: t)) (ha : t ≠ [] → a' = ⟨g, off + 3, none⟩) : StRow w F (.slice (some a') t.length (cap - 1)) t := by
  obtain ⟨p, cap', e, h1, h2, h3⟩ := h
  cases e
  have h1' : t.length + 1 ≤ cap := h1
  refine ⟨_, _, rfl, by omega, by omega, ?_⟩
  cases t with
  | nil => exact .inl rfl
  | cons y t =>
    rcases h3 with h3 | ⟨g', off', e2, hF, hT, hc⟩
    · cases h3
    · cases e2
      refine .inr ⟨g, off + 3, by rw [ha (by simp)], hF, hT, fun j hj => ?_⟩
      have := hc (j + 3) (by rw [List.length_cons]; omega)
      rw [show off + 3 + j = off + (j + 3) by omega, this]
      show (stL x ++ stsL (y :: t))[j + 3]? = _
      rw [List.getElem?_append_right (by simp [stL])]
      rfl

/-- numbers as they are in every scheduler. -/
structure Fits (s : Sc) (nl nc : Nat) : Prop where
  few : nl + nc + s.out.length + total s.ts ≤ 10000 + s.pend
  pend : s.pend ≤ 1
  wide : s.ts.length ≤ 64
  ok : ∀ i x, x ∈ s.ts.getD i [] → x.Ok

structure SchAt (w : World) (b : Nat) (F : Nat → Prop) (s : Sc) (tv sv : Value) (vals : List Value) (bl bc nl nc : Nat) : Prop where
  blk : Blk w b 54 #[tv, .map (some bl), .map (some bc), sv, .bool s.over]
  ts : w.ownsRow (b + 1) 23 1 tv s.ts.length vals
  rows : ∀ i, i < s.ts.length → StRow w F (vals.getD i undef) (s.ts.getD i [])
  lk : IMap w bl nl s.lk
  cl : IMap w bc nc s.cl
  ne : bl ≠ bc
  said : w.ownsRow (b + 1) 3 1 sv s.out.length (s.out.map (Value.int .i64))
  fits : Fits s nl nc
  fb : F b
  fbl : F bl
  fbc : F bc
  ftv : ∀ g, tv.ownBlock = some g → F g
  fsv : ∀ g, sv.ownBlock = some g → F g

structure SchIs (w : World) (b : Nat) (F : Nat → Prop) (s : Sc) : Prop where
  at_ : ∃ tv sv vals bl bc nl nc, SchAt w b F s tv sv vals bl bc nl nc
  lt : ∀ k, F k → k < w.heap.size

theorem SchAt.chg {w w' : World} {b : Nat} {F G : Nat → Prop} {s : Sc} {tv sv : Value} {vals : List Value} {bl bc nl nc : Nat} (h : SchAt w b F s tv sv vals bl bc nl nc) (hlt : ∀ k, F k → k < w.heap.size) (hc : Chg G w w') (hd : ∀ k, F k → ¬ G k) : SchAt w' b F s tv sv vals bl bc nl nc :=
  ⟨h.blk.chg hc (hd b h.fb), owns_chg h.ts hc fun g hg => hd g (h.ftv g hg), fun i hi => (h.rows i hi).same fun g hF hT => hc.block g (hlt g hF) (hd g hF), h.lk.chg hc (hd bl h.fbl), h.cl.chg hc (hd bc h.fbc), h.ne, owns_chg h.said hc fun g hg => hd g (h.fsv g hg), h.fits, h.fb, h.fbl, h.fbc, h.ftv, h.fsv⟩
theorem SchAt.mono {w : World} {b : Nat} {F F' : Nat → Prop} {s : Sc} {tv sv : Value} {vals : List Value} {bl bc nl nc : Nat} (h : SchAt w b F s tv sv vals bl bc nl nc) (hF : ∀ k, F k → F' k) : SchAt w b F' s tv sv vals bl bc nl nc :=
  ⟨h.blk, h.ts, fun i hi => (h.rows i hi).mono hF, h.lk, h.cl, h.ne, h.said, h.fits, hF _ h.fb, hF _ h.fbl, hF _ h.fbc, fun g hg => hF g (h.ftv g hg), fun g hg => hF g (h.fsv g hg)⟩
theorem SchIs.chg {w w' : World} {b : Nat} {F G : Nat → Prop} {s : Sc} (h : SchIs w b F s) (hc : Chg G w w') (hd : ∀ k, F k → ¬ G k) : SchIs w' b F s := by
  obtain ⟨⟨tv, sv, vals, bl, bc, nl, nc, h1⟩, h2⟩ := h
  exact ⟨⟨tv, sv, vals, bl, bc, nl, nc, h1.chg h2 hc hd⟩, fun k hk => Nat.lt_of_lt_of_le (h2 k hk) hc.size⟩
theorem SchIs.later {w w' : World} {b : Nat} {F : Nat → Prop} {s : Sc} (h : SchIs w b F s) (hx : Ext w w') : SchIs w' b F s :=
  h.chg (Chg.of_ext hx (fun _ => False)) fun _ _ h => h

def Grew (F : Nat → Prop) (w w' : World) : Nat → Prop := fun k => F k ∨ (w.heap.size ≤ k ∧ k < w'.heap.size)
def Turned (w : World) (b : Nat) (F : Nat → Prop) (s' : Sc) (w' : World) : Prop := SchIs w' b (Grew F w w') s' ∧ Chg F w w'

/-! ### what is told of it -/
def waitsB (s : Sc) (x : St) : Bool := if x.op = 1 then (s.lk x.a).isSome else if x.op = 4 then decide ((s.cl x.a).getD 0 < x.b) else false
def enB (s : Sc) (i : Nat) : Bool := !s.over && match s.ts.getD i [] with
  | [] => false
  | x :: _ => !waitsB s x
def enL (s : Sc) (n : Nat) : List Nat := (List.range n).filter (enB s)
theorem enL_succ (s : Sc) (n : Nat) : enL s (n + 1) = enL s n ++ (if enB s n = true then [n] else []) := by
  unfold enL
  rw [List.range_succ, List.filter_append]
  by_cases h : enB s n = true <;> simp [h]
theorem enL_len (s : Sc) (n : Nat) : (enL s n).length ≤ n := by
  have := List.length_filter_le (enB s) (List.range n)
  rwa [List.length_range] at this
def ints (l : List Nat) : List Value := l.map fun j => .int .i64 (j : Nat)
theorem ints_snoc (l : List Nat) (j : Nat) : ints (l ++ [j]) = ints l ++ [.int .i64 (j : Nat)] := by unfold ints; simp
theorem ints_len (l : List Nat) : (ints l).length = l.length := by unfold ints; simp

end Go.Proofs.Ytfgfbmmidijgoaa
