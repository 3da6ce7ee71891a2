/- What a call may turn: the blocks of a set, and new ones; blocks that are known whole; 'append' with all that it leaves. -/
import Derived.Test.YticaamdghjfifaaDoorBase
import Derived.Test.YticaamdghjfifaaDoorFar
import Derived.Maps.AppendAt
import Derived.Laws.OwnMore
import Derived.Deep.Draws
import Derived.Laws.Rows
namespace Go.Proofs.YticaamdghjfifaaDoor
open Go.RowKit
set_option linter.unusedVariables false

/-- only blocks of F, and new ones, turn; nothing is frozen that was not. -/
structure Chg (F : Nat → Prop) (w w' : World) : Prop where
  os : w'.os = w.os
  tape : w'.tape = w.tape
  output : w'.output = w.output
  size : w.heap.size ≤ w'.heap.size
  frozen : ∀ a, w'.frozen? a = w.frozen? a
  block : ∀ i, i < w.heap.size → ¬ F i → w'.heap[i]? = w.heap[i]?

theorem Chg.refl (F : Nat → Prop) (w : World) : Chg F w w := ⟨rfl, rfl, rfl, Nat.le_refl _, fun _ => rfl, fun _ _ _ => rfl⟩
theorem Chg.trans {F F' : Nat → Prop} {a b c : World} (h : Chg F a b) (k : Chg F' b c) (hF : ∀ i, F' i → F i ∨ a.heap.size ≤ i) : Chg F a c :=
  ⟨k.os.trans h.os, k.tape.trans h.tape, k.output.trans h.output, Nat.le_trans h.size k.size, fun x => (k.frozen x).trans (h.frozen x),
   fun i hi hf => (k.block i (Nat.lt_of_lt_of_le hi h.size) (fun hf' => by rcases hF i hf' with h1 | h1; exact hf h1; omega)).trans (h.block i hi hf)⟩
theorem Chg.mono {F F' : Nat → Prop} {a b : World} (h : Chg F a b) (hF : ∀ i, F i → F' i ∨ a.heap.size ≤ i) : Chg F' a b :=
  ⟨h.os, h.tape, h.output, h.size, h.frozen, fun i hi hf => h.block i hi (fun hf' => by rcases hF i hf' with h1 | h1; exact hf h1; omega)⟩
theorem Chg.setCell {F : Nat → Prop} {a w : World} (h : Chg F a w) {p : Addr} (hp : F p.block ∨ a.heap.size ≤ p.block) (u : Value) : Chg F a (w.setCell p u) :=
  ⟨h.os, h.tape, h.output, by rw [World.size_setCell]; exact h.size, fun x => (World.frozen?_setCell _ _ _ _).trans (h.frozen x),
   fun i hi hf => (Below.heap_setCell w p u i (by rintro rfl; rcases hp with hp | hp; exact hf hp; omega)).trans (h.block i hi hf)⟩
theorem Chg.alloc {F : Nat → Prop} {a w : World} (h : Chg F a w) (c : Array Value) (t : TypeId) : Chg F a (w.alloc (.cells c t)) :=
  ⟨h.os, h.tape, h.output, Nat.le_trans h.size (by simp), fun x => (frozen?_alloc_cells w c t x).trans (h.frozen x),
   fun i hi hf => (Below.heap_alloc w _ i (Nat.lt_of_lt_of_le hi h.size)).trans (h.block i hi hf)⟩
theorem Chg.drew {F : Nat → Prop} {a w : World} (h : Chg F a w) : Chg F a w.drew := ⟨h.os, h.tape, h.output, h.size, h.frozen, h.block⟩
theorem Chg.drewN {F : Nat → Prop} {a w : World} (h : Chg F a w) (n : Nat) : Chg F a (w.drewN n) := ⟨h.os, h.tape, h.output, h.size, h.frozen, h.block⟩
theorem Chg.of_ext {a w : World} (h : Ext a w) (F : Nat → Prop) : Chg F a w := ⟨h.below.os, h.below.tape, h.below.output, h.size, h.frozen, fun i hi _ => h.below.block i hi⟩
theorem Chg.to_ext {a w : World} (h : Chg (fun _ => False) a w) : Ext a w := ⟨⟨h.os, h.tape, h.output, h.size, fun i hi => h.block i hi (fun h => h)⟩, h.frozen⟩
theorem Chg.ext {F : Nat → Prop} {W w w' : World} (h : Chg F w w') (hW : Ext W w) (hF : ∀ i, F i → W.heap.size ≤ i) : Ext W w' :=
  ⟨⟨h.os.trans hW.below.os, h.tape.trans hW.below.tape, h.output.trans hW.below.output, Nat.le_trans hW.size h.size,
    fun i hi => (h.block i (Nat.lt_of_lt_of_le hi hW.size) (fun hf => by have := hF i hf; omega)).trans (hW.below.block i hi)⟩, fun x => (h.frozen x).trans (hW.frozen x)⟩
theorem Chg.cell {F : Nat → Prop} {w w' : World} (h : Chg F w w') {b o : Nat} (hb : b < w.heap.size) (hf : ¬ F b) : w'.cell? ⟨b, o, none⟩ = w.cell? ⟨b, o, none⟩ :=
  World.cell?_of_block (h.block b hb hf)
theorem Ext.drewN' {W w : World} (h : Ext W w) (n : Nat) : Ext W (w.drewN n) := ⟨⟨h.below.os, h.below.tape, h.below.output, h.below.size, h.below.block⟩, h.frozen⟩

/-- a block that is known whole. -/
def Blk (w : World) (g : Nat) (t : TypeId) (cs : Array Value) : Prop := w.heap[g]? = some (.cells cs t (0, 0))

section
variable {w w' : World} {g : Nat} {t : TypeId} {cs : Array Value}
theorem Blk.lt (h : Blk w g t cs) : g < w.heap.size := by
  rcases Nat.lt_or_ge g w.heap.size with hlt | hge
  · exact hlt
  · unfold Blk at h; rw [Array.getElem?_eq_none hge] at h; cases h
theorem Blk.cell (h : Blk w g t cs) (i : Nat) : w.cell? ⟨g, i, none⟩ = cs[i]? := cell_of_row w g i cs t (0, 0) h
theorem Blk.frozen (h : Blk w g t cs) (i : Nat) : w.frozen? ⟨g, i, none⟩ = false := by
  unfold Blk at h
  simp [World.frozen?, h]
theorem Blk.new (w : World) (t : TypeId) (cs : Array Value) : Blk (w.alloc (.cells cs t)) w.heap.size t cs := heap_alloc_new w _
theorem Blk.drew (h : Blk w g t cs) : Blk w.drew g t cs := h
theorem Blk.drewN (h : Blk w g t cs) (n : Nat) : Blk (w.drewN n) g t cs := h
theorem Blk.alloc (h : Blk w g t cs) (o : Obj) : Blk (w.alloc o) g t cs := (Below.heap_alloc w o g h.lt).trans h
theorem Blk.set_ (h : Blk w g t cs) (i : Nat) (u : Value) : Blk (w.setCell ⟨g, i, none⟩ u) g t (cs.setIfInBounds i u) := by
  unfold Blk at h ⊢
  simp [World.setCell, Array.getElem?_modify, h]
theorem Blk.far (h : Blk w g t cs) {p : Addr} (hp : g ≠ p.block) (u : Value) : Blk (w.setCell p u) g t cs := (Below.heap_setCell w p u g hp).trans h
theorem Blk.chg {F : Nat → Prop} (h : Blk w g t cs) (hc : Chg F w w') (hg : ¬ F g) : Blk w' g t cs := (hc.block g h.lt hg).trans h
theorem Blk.later (h : Blk w g t cs) (hx : Ext w w') : Blk w' g t cs := (hx.below.block g h.lt).trans h
theorem Blk.same {cs' : Array Value} {t' : TypeId} (h : Blk w g t cs) (h' : Blk w g t' cs') : cs = cs' ∧ t = t' := by
  unfold Blk at h h'
  rw [h] at h'
  injection h' with h'
  injection h' with h1 h2
  exact ⟨h1, h2⟩
theorem Blk.ne_ {g' : Nat} {t' : TypeId} {cs' : Array Value} (h : Blk w g t cs) (h' : Blk w g' t' cs') (hne : t ≠ t') : g ≠ g' := by
  rintro rfl
  exact hne (h.same h').2
theorem own_blk_ne {base : Nat} {e : TypeId} {size n : Nat} {v : Value} {xs : List Value} (h : w.ownsRow base e size v n xs) (hg : Blk w g t cs) (hne : e ≠ t) : v.ownBlock ≠ some g := by
  rcases h.2 with ⟨rfl, _⟩ | ⟨g', cap, cur, rfl, _, hh, _⟩
  · simp [Value.ownBlock]
  · intro he
    have : g' = g := by simpa [Value.ownBlock] using he
    subst this
    exact Blk.ne_ (t := e) hh hg hne rfl
end

theorem owns_blocks {w w1 : World} {base : Nat} {e : TypeId} {size : Nat} {v : Value} {n : Nat} {xs : List Value} (h : w.ownsRow base e size v n xs) (hb : ∀ g, v.ownBlock = some g → w1.heap[g]? = w.heap[g]?) : w1.ownsRow base e size v n xs := by
  refine ⟨h.1, ?_⟩
  rcases h.2 with hn | ⟨g, cap, cur, rfl, hbb, hg, rest⟩
  · exact .inl hn
  · exact .inr ⟨g, cap, cur, rfl, hbb, (hb g rfl).trans hg, rest⟩
theorem owns_chg {w w1 : World} {F : Nat → Prop} {base : Nat} {e : TypeId} {size : Nat} {v : Value} {n : Nat} {xs : List Value} (h : w.ownsRow base e size v n xs) (hc : Chg F w w1) (hf : ∀ g, v.ownBlock = some g → ¬ F g) : w1.ownsRow base e size v n xs :=
  owns_blocks h fun g hg => hc.block g (owns_lt h g hg).2 (hf g hg)
theorem owns_rebase {w : World} {B B' s n : Nat} {e : TypeId} {v : Value} {xs : List Value} (h : w.ownsRow B e s v n xs) (hB : ∀ g, v.ownBlock = some g → B' ≤ g) : w.ownsRow B' e s v n xs := by
  refine ⟨h.1, ?_⟩
  rcases h.2 with hn | ⟨g, cap, cur, rfl, hb, rest⟩
  · exact .inl hn
  · exact .inr ⟨g, cap, cur, rfl, hB g rfl, rest⟩
/-- a row of the call's own as a slice value. -/
theorem owns_form {w : World} {B s n : Nat} {e : TypeId} {v : Value} {xs : List Value} (h : w.ownsRow B e s v n xs) : ∃ p cap, v = .slice p n cap ∧ n ≤ cap ∧ cap ≤ maxLen ∧ (n = 0 ∨ ∃ g, p = some ⟨g, 0, none⟩ ∧ B ≤ g ∧ g < w.heap.size) := by
  rcases h.2 with ⟨rfl, rfl⟩ | ⟨g, cap, cur, rfl, hb, hg, hnc, hcm, -⟩
  · exact ⟨none, 0, rfl, Nat.le_refl _, Nat.zero_le _, .inl rfl⟩
  · exact ⟨_, cap, rfl, hnc, hcm, .inr ⟨g, rfl, hb, (Array.getElem?_eq_some_iff.1 hg).1⟩⟩
theorem owns_nil (w : World) (B : Nat) (e : TypeId) (s : Nat) : w.ownsRow B e s (.slice none 0 0) 0 [] := World.ownsRow_nil _ _ _ _

/-- the walk's law of append, with all that it leaves. -/
theorem wpList_append_all {P : Program} (B : Nat) (w : World) {ops : Array Oper} {rest : List Oper} {o : Oper} {a : Act} {Q : Exit → Act → World → Prop} (hgd : o.guard = none) (s x : Operand) (t : TypeId)
    (ho : o.op = .call { callee := .builtin .append, args := #[s, x], argTypes := #[t, t] })
    (e : TypeId) (i : TypeInfo) (z : Value) (size bytes : Nat) (ht : P.underlying t = some (.slice e)) (hi : P.info? e = some i) (hz : i.zero = some z)
    (hsize : i.size = size) (hby : i.bytes = bytes) (hzs : z.cells.size = size) (hsz : 0 < size)
    (v : Value) (n : Nat) (xs : List Value) (hs : a.eval s = v) (hown : w.ownsRow B e size v n xs)
    (vx : Value) (m : Nat) (news : List Value) (hx : a.eval x = vx) (hsrc : Src w size vx m news) (h1 : ∀ u ∈ news, u.oneCell' = true)
    (h63 : n + m ≤ maxLen) (hbytes : (n + m) * bytes ≤ 140737488355328) (hB : B ≤ w.heap.size)
    (h : ∀ v' w', w'.ownsRow B e size v' (n + m) (xs ++ news) → Chg (fun b => v.ownBlock = some b) w w' → (v'.ownBlock = v.ownBlock ∨ v'.ownBlock = some w.heap.size) → wpList P ops Q rest (a.put o.dst v') w') : wpList P ops Q (o :: rest) a w := by
  refine wpList_plain hgd fun K hK => ?_
  rcases hsrc with ⟨rfl, rfl, rfl⟩ | ⟨ad, c, rfl, hl, hnews⟩
  · have hr := run_append_nothing (P := P) t o.type i ht hi hown 0
    unfold Oper.wp execOp
    simp only [ho, resolve, invoke, builtin, Sem.run_bind, Sem.run_pure, Result.andThen_ok, List.map_toArray, List.map_cons, List.map_nil, hs, hx, hr]
    exact hK _ _ (h v w (by simpa using hown) (Chg.refl _ _) (.inl rfl))
  · obtain ⟨v', w', hr, h2, h3, -, h5⟩ := run_append_own_at (P := P) w B t o.type e i z size bytes ht hi hz hsize hby hzs hsz v n xs hown ad m c news hl hnews h1 h63 hbytes hB
    have hf := append_keeps_off (P := P) t o.type i z bytes ht hi hz hsize hby hsz hown ad m c news hl hnews h1 h63 hbytes hr
    have hE : Chg (fun b => v.ownBlock = some b) w w' := ⟨h3.os, h3.tape, h3.output, h3.size, hf, fun k hk hne => h3.block k hk (fun e => hne e.symm)⟩
    unfold Oper.wp execOp
    simp only [ho, resolve, invoke, builtin, Sem.run_bind, Sem.run_pure, Result.andThen_ok, List.map_toArray, List.map_cons, List.map_nil, hs, hx, hr]
    exact hK _ _ (h v' w' h2 hE h5)

/-- what is to be appended lies in a block that was just made. -/
theorem src_one (w : World) (cs : List Value) (t : TypeId) (size : Nat) (h : cs.length = size) : Src (w.alloc (.cells cs.toArray t)) size (.slice (some ⟨w.heap.size, 0, none⟩) 1 1) 1 cs :=
  .inr ⟨_, _, rfl, by omega, fun j u hu => by
    rw [Addr.add_lit, Nat.zero_add, cell_new]
    simpa using hu⟩

end Go.Proofs.YticaamdghjfifaaDoor
