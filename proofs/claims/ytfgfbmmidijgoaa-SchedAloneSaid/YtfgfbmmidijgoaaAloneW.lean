/- The walk of SchedAlone: its parts. -/
import Derived.Test.YtfgfbmmidijgoaaAlone
namespace Go.Proofs.Ytfgfbmmidijgoaa
open Go.RowKit
set_option linter.unusedVariables false

def AlW (W w : World) (b : Nat) (z : Nat → List Int) (N n k : Nat) : Prop := ∃ s, SchG W w b (fun _ => False) s ∧ AloneI z N n k s
/-- all is done. -/
def AlD (W w : World) (b : Nat) (R : Nat → Prop) : Prop := ∃ s, SchG W w b R s ∧ (∀ a, s.lk a = none) ∧ enL s s.ts.length = []
section
variable {W w : World} {b N n k : Nat} {z : Nat → List Int} {R : Nat → Prop}
theorem AlW.ext (h : AlW W w b z N n k) : Ext W w := by obtain ⟨s, h, -⟩ := h; exact h.ext
theorem al_go (h : AlW W w b z N n k) (hk : k < 3 * n) (pick : Int) :
    Calls Try.prog 14 #[.pointer (some ⟨b, 0, none⟩), .int .i64 pick] w fun e w' => ∃ i : Nat, e = .returned (.tuple #[.int .i64 i, .int .i64 0]) ∧ AlW W w' b z N n (k + 1) := by
  obtain ⟨s, h, hi⟩ := h
  refine (g_go h pick).mono ?_
  rintro e w' ⟨rfl, h', -⟩
  obtain ⟨i, e1, e2, hi'⟩ := hi.go hk pick
  rw [e1, e2]
  exact ⟨i, rfl, _, h', hi'⟩
theorem al_done (h : AlW W w b z N n (3 * n)) (pick : Int) :
    Calls Try.prog 14 #[.pointer (some ⟨b, 0, none⟩), .int .i64 pick] w fun e w' => e = .returned (.tuple #[.int .i64 0, .int .i64 22]) ∧ AlW W w' b z N n (3 * n) := by
  obtain ⟨s, h, hi⟩ := h
  refine (g_go h pick).mono ?_
  rintro e w' ⟨rfl, h', -⟩
  rw [hi.done pick] at h' ⊢
  exact ⟨rfl, s, h', hi⟩
theorem al_said (h : AlW W w b z N n (3 * n)) : Calls Try.prog 15 #[.pointer (some ⟨b, 0, none⟩)] w fun r w' => ∃ p cap out, r = .returned (.slice p n cap) ∧ w'.ownsRow W.heap.size 3 1 (.slice p n cap) n (out.map (Value.int .i64)) ∧ InOrder z N n out ∧ AlD W w' b (fun _ => False) := by
  obtain ⟨s, h, hi⟩ := h
  refine (g_said h).mono ?_
  rintro r w' ⟨v, rfl, hown, hx⟩
  obtain ⟨h1, h2, h3⟩ := hi.end_
  rw [h1.len] at hown
  have hown := owns_rebase hown fun g hg => Nat.le_trans h.ext.size (owns_lt hown g hg).1
  obtain ⟨p, cap, rfl, -⟩ := owns_form hown
  exact ⟨p, cap, s.out, rfl, hown, h1, s, h.later hx, h2, h3⟩
theorem AlD.ext (h : AlD W w b R) : Ext W w := by obtain ⟨s, h, -⟩ := h; exact h.ext
theorem AlD.later {w' : World} (h : AlD W w b R) (hx : Ext w w') : AlD W w' b R := by obtain ⟨s, h, h1⟩ := h; exact ⟨s, h.later hx, h1⟩
theorem AlD.alloc (h : AlD W w b (fun _ => False)) (c : Array Value) (t : TypeId) : AlD W (w.alloc (.cells c t)) b (fun k => k = w.heap.size) := by
  obtain ⟨s, h, h1⟩ := h
  exact ⟨s, h.chg (Chg.of_ext ((Ext.refl w).alloc c t) _) (fun k hk => hk.elim) (fun k hk => .inr (by omega)) fun k hk => by rw [World.size_alloc]; omega, h1⟩
theorem AlD.set_ {g : Nat} (h : AlD W w b (fun k => k = g)) (hg : W.heap.size ≤ g) (i : Nat) (u : Value) : AlD W (w.setCell ⟨g, i, none⟩ u) b (fun k => k = g) := by
  obtain ⟨s, h, h1⟩ := h
  exact ⟨s, h.chg ((Chg.refl (fun k => k = g) w).setCell (p := ⟨g, i, none⟩) (.inl rfl) u) (fun k hk => by rw [hk]; exact hg) (fun k hk => .inl hk) fun k hk => by rw [World.size_setCell]; exact h.lt k hk, h1⟩
theorem al_holder (h : AlD W w b R) (c : Int) (hc : (Lit.int .i64 c).wf = true) : Calls Try.prog 16 #[.pointer (some ⟨b, 0, none⟩), .int .i64 c] w fun r w' => r = .returned (.tuple #[.int .i64 0, .bool false]) ∧ AlD W w' b R := by
  obtain ⟨s, h, h1, h2⟩ := h
  refine (g_holder h c hc).mono ?_
  rintro r w' ⟨rfl, hx⟩
  rw [h1 c]
  exact ⟨rfl, s, h.later hx, h1, h2⟩
theorem al_enabled (h : AlD W w b R) : Calls Try.prog 13 #[.pointer (some ⟨b, 0, none⟩)] w fun r w' => ∃ p cap, r = .returned (.slice p 0 cap) ∧ Ext W w' := by
  obtain ⟨s, h, h1, h2⟩ := h
  refine (g_enabled h).mono ?_
  rintro r w' ⟨v, rfl, hown, hx⟩
  rw [h2] at hown
  obtain ⟨p, cap, rfl, -⟩ := owns_form hown
  exact ⟨p, cap, rfl, h.ext.trans hx⟩
end

structure AlB (W w : World) (v : Value) (vals : List Value) (z : Nat → List Int) (k n : Nat) : Prop where
  at_ : TasksAt W w v vals (alN z k)
  cnt : lenN z k = n
  small : Small z k
structure AlT (w0 w : World) (v : Value) (k : Nat) (row : List Int) (j m n : Nat) : Prop where
  ext : Ext w0 w
  own : w.ownsRow w0.heap.size 25 3 v (3 * j) (stsL (alT k (row.take j)))
  le : j ≤ row.length
  tot : m = n + j
  small : ∀ x, x ∈ row.take j → 0 ≤ x ∧ x ≤ 50
theorem AlB.start (W : World) (z : Nat → List Int) : AlB W W (.slice none 0 0) [] z 0 0 := ⟨TasksAt.start W, rfl, fun i hi => absurd hi (Nat.not_lt_zero _)⟩
theorem AlT.start (w : World) (k n : Nat) (row : List Int) : AlT w w (.slice none 0 0) k row 0 n n := ⟨Ext.refl _, owns_nil _ _ _ _, Nat.zero_le _, rfl, fun x hx => by cases hx⟩
theorem AlT.add_ {w0 w w2 : World} {v v' : Value} {k j m n : Nat} {row : List Int} {z : Int} {cs : Array Value} {ty : TypeId} (h : AlT w0 w v k row j m n) (hz : row[j]? = some z) (h1 : 0 ≤ z) (h2 : z ≤ 50)
    (hown : w2.ownsRow w0.heap.size 25 3 v' (3 * j + 3) (stsL (alT k (row.take j)) ++ [.int .i64 1, .int .i64 (z.tmod 3), .int .i64 0, .int .i64 5, .int .i64 (100 * (k : Int) + z), .int .i64 0, .int .i64 2, .int .i64 (z.tmod 3), .int .i64 0]))
    (hc : Chg (fun b => v.ownBlock = some b) (w.alloc (.cells cs ty)) w2) : AlT w0 w2 v' k row (j + 1) (m + 1) n := by
  have hlt := (List.getElem?_eq_some_iff.1 hz).1
  refine ⟨hc.ext (h.ext.alloc _ _) fun i hi => (owns_lt h.own i hi).1, ?_, hlt, by have := h.tot; omega, fun x hx => ?_⟩
  · rw [List.take_add_one, hz]
    show w2.ownsRow _ _ _ _ _ (stsL (alT k (row.take j ++ [z])))
    rw [alT_snoc, stsL_append]
    exact hown
  · rw [List.take_add_one, hz] at hx
    rcases List.mem_append.1 hx with hx | hx
    · exact h.small x hx
    · obtain rfl : x = z := by simpa using hx
      exact ⟨h1, h2⟩
theorem AlB.push {W w0 w w2 : World} {v u v' : Value} {vals : List Value} {z : Nat → List Int} {k m n : Nat} {cs : Array Value} {row : List Int} (h : AlB W w0 v vals z k n) (hrow : z k = row) (ht : AlT w0 w u k row row.length m n)
    (hown : w2.ownsRow W.heap.size 23 1 v' (k + 1) (vals ++ [u])) (hc : Chg (fun i => v.ownBlock = some i) (w.alloc (.cells cs 23)) w2) : AlB W w2 v' (vals ++ [u]) z (k + 1) m := by
  subst hrow
  have htk : (z k).take (z k).length = z k := List.take_length
  have hso := ht.own
  rw [htk] at hso
  have hst : StRow w (fun g => W.heap.size ≤ g ∧ g < w.heap.size) u (alT k (z k)) := by
    refine strow_own (B := w0.heap.size) ?_ fun g hg => ?_
    · rw [alT_len]; exact hso
    · have := owns_lt hso g hg
      have := h.at_.ext.size
      omega
  refine ⟨?_, ?_, fun i hi => ?_⟩
  · rw [alN_succ]
    exact (h.at_.later ht.ext).add hst (by rw [alN_len]; exact hown) hc
  · show lenN z k + (z k).length = m
    have := ht.tot; have := h.cnt; omega
  · by_cases e : i = k
    · subst e
      have := ht.small
      rwa [htk] at this
    · exact h.small i (by omega)
theorem int_info0 : (Try.prog.info? 3).map (fun i => (i.zero, i.size, i.bytes)) = some (some (.int .i64 0), 1, 8) := by kernel_rfl
theorem make_ints (n : Nat) (hn : n ≤ 1000) (w : World) : (Instr.makeSlice 31 (.int .i64 n) (.int .i64 n)).run Try.prog w = .ok (.slice (some ⟨w.heap.size, 0, none⟩) n n) (w.alloc (.cells (nl (fun _ => 0) n) 3)) := by
  obtain ⟨i0, hi, hz0, hz1, hz2⟩ := info_parts int_info0
  have := run_make (P := Try.prog) w 31 3 i0 _ Try.underlying31 hi hz0 .i64 .i64 n n (by omega) (by omega) (by rw [hz2]; omega) (by omega)
  rw [hz1] at this
  simp only [Int.toNat_natCast] at this
  rwa [nl_made] at this

/-- what is told, and what was counted of it so far. -/
structure AlE (W w : World) (b : Nat) (out : List Int) (v : Value) (g N n j : Nat) : Prop where
  sch : AlD W w b (fun k => k = g)
  said : w.ownsRow W.heap.size 3 1 v n (out.map (Value.int .i64))
  blk : Blk w g 3 (nl (fun t => cntT out j t) N)
  lo : W.heap.size ≤ g
  ne : v.ownBlock ≠ some g
theorem AlE.start {W w : World} {b : Nat} {out : List Int} {v : Value} {N n : Nat} (h : AlD W w b (fun _ => False)) (hs : w.ownsRow W.heap.size 3 1 v n (out.map (Value.int .i64))) : AlE W (w.alloc (.cells (nl (fun _ => 0) N) 3)) b out v w.heap.size N n 0 :=
  ⟨h.alloc _ _, owns_later hs ((Ext.refl w).alloc _ _).below, Blk.new w _ _, h.ext.size, fun e => by have := (owns_lt hs _ e).2; omega⟩
theorem AlE.step {W w : World} {b : Nat} {out : List Int} {v : Value} {g N n j t : Nat} {x : Int} (h : AlE W w b out v g N n j) (hx : out[j]? = some x) (ht : t < N) (htag : tagB t x = true) : AlE W (w.setCell ⟨g, t, none⟩ (.int .i64 ((cntT out j t : Nat) + 1 : Int))) b out v g N n (j + 1) := by
  refine ⟨h.sch.set_ h.lo _ _, owns_blocks h.said fun k hk => Below.heap_setCell w _ _ k fun e => h.ne (by rw [hk, e]), ?_, h.lo, h.ne⟩
  have hb := h.blk.set_ t (.int .i64 (((cntT out j t + 1 : Nat) : Int)))
  rw [nl_set (fun t => cntT out j t) (fun t => cntT out (j + 1) t) N t (cntT out j t + 1) ht fun u => ?_] at hb
  · exact hb
  · show cntT out (j + 1) u = _
    rw [cntT_succ hx, tag_one htag]
    by_cases e : u = t
    · subst e; simp
    · simp [e]
theorem AlE.drewN {W w : World} {b : Nat} {out : List Int} {v : Value} {g N n j : Nat} (h : AlE W w b out v g N n j) (q : Nat) : AlE W (w.drewN q) b out v g N n j :=
  ⟨h.sch.later ((Ext.refl w).drewN' q), owns_blocks h.said fun _ _ => rfl, h.blk.drewN q, h.lo, h.ne⟩

end Go.Proofs.Ytfgfbmmidijgoaa
