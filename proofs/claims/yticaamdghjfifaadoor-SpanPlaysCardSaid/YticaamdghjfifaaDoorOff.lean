/- 'append' to a row of the call's own, whatever is appended: what is owned behind it, what stays, and that nothing is frozen by it. -/
import Derived.WalkKit
import Derived.Laws.AppendOwn
import Derived.OwnWalk
import Derived.Lib.Hide
namespace Go.Proofs.YticaamdghjfifaaDoor
open Go.RowKit
set_option linter.unusedVariables false

/-- nothing below block B has turned, and nothing is frozen that was not. -/
structure Off (B : Nat) (w w' : World) : Prop where
  below : Below B w w'
  frozen : ∀ a, w'.frozen? a = w.frozen? a

theorem Off.refl (B : Nat) (w : World) : Off B w w := ⟨Below.refl _ _, fun _ => rfl⟩
theorem Off.size {B : Nat} {w w' : World} (h : Off B w w') : w.heap.size ≤ w'.heap.size := h.below.size
theorem Off.trans {B : Nat} {a b c : World} (h : Off B a b) (k : Off B b c) : Off B a c := ⟨h.below.trans k.below, fun x => (k.frozen x).trans (h.frozen x)⟩
theorem Off.mono {B B' : Nat} {a b : World} (h : Off B a b) (hB : B' ≤ B) : Off B' a b := ⟨h.below.mono hB, h.frozen⟩
theorem Off.alloc {B : Nat} {W w : World} (h : Off B W w) (hB : B ≤ W.heap.size) (c : Array Value) (t : TypeId) : Off B W (w.alloc (.cells c t)) :=
  ⟨h.below.alloc (Nat.le_trans hB h.size) _, fun a => (frozen?_alloc_cells w c t a).trans (h.frozen a)⟩
theorem Off.setCell {B : Nat} {W w : World} (h : Off B W w) {p : Addr} (hp : B ≤ p.block) (u : Value) : Off B W (w.setCell p u) :=
  ⟨h.below.setCell hp u, fun a => (World.frozen?_setCell _ _ _ _).trans (h.frozen a)⟩
theorem Off.drew {B : Nat} {W w : World} (h : Off B W w) : Off B W w.drew := ⟨h.below.drew, h.frozen⟩
theorem Off.cell {B : Nat} {W w : World} (h : Off B W w) (b o : Nat) (hb : b < B) : w.cell? ⟨b, o, none⟩ = W.cell? ⟨b, o, none⟩ := h.below.cell (p := ⟨b, o, none⟩) hb

theorem setRow_frozen (w : World) (g : Nat) (new cur : Array Value) (e : TypeId) (hg : w.heap[g]? = some (.cells cur e (0, 0))) (a : Addr) : (w.setRow g new).frozen? a = w.frozen? a := by
  by_cases h : a.block = g
  · have h1 := setRow_heap w g cur new e _ hg
    unfold World.frozen?
    rw [h, hg, h1]
  · exact World.frozen?_of_block (setRow_other w g a.block _ h)

/-- what a slice value holds, cell by cell: nil, or a row that is there. -/
def Src (w : World) (size : Nat) (x : Value) (m : Nat) (news : List Value) : Prop :=
  (x = .slice none 0 0 ∧ m = 0 ∧ news = []) ∨ ∃ (a : Addr) (c : Nat), x = .slice (some a) m c ∧ news.length = m * size ∧ ∀ j u, news[j]? = some u → w.cell? (a.add j) = some u

section
variable {P : Program} {w : World} {base : Nat} {e : TypeId} {size : Nat} {v : Value} {n : Nat} {xs : List Value}

theorem append_keeps_off (t ty : TypeId) (i : TypeInfo) (z : Value) (bytes : Nat) (ht : P.underlying t = some (.slice e)) (hi : P.info? e = some i) (hz : i.zero = some z)
    (hsize : i.size = size) (hby : i.bytes = bytes) (hsz : 0 < size) (hown : w.ownsRow base e size v n xs)
    (a : Addr) (m c : Nat) (news : List Value) (hl : news.length = m * size) (hnews : ∀ j u, news[j]? = some u → w.cell? (a.add j) = some u) (h1 : ∀ u ∈ news, u.oneCell' = true)
    (h63 : n + m ≤ maxLen) (hbytes : (n + m) * bytes ≤ 140737488355328) {v' : Value} {w' : World}
    (hr : (Builtin.append_ #[t, t] ty #[v, .slice (some a) m c]).run P w = .ok v' w') : ∀ x, w'.frozen? x = w.frozen? x := by
  subst hsize
  subst hby
  have hsmall : n + m ≤ 9223372036854775807 := by simp only [maxLen] at h63; omega
  intro x
  rcases hown.2 with ⟨rfl, rfl⟩ | ⟨g, cap, cur, rfl, hbg, hg, hnc, hcm, hcs, htake⟩
  · by_cases hm0 : m = 0
    · subst hm0
      have hn : news = [] := List.eq_nil_of_length_eq_zero (by simpa using hl)
      subst hn
      have h2 : (Builtin.append_ #[t, t] ty #[.slice none 0 0, .slice (some a) 0 c]).run P w = .ok (.slice none 0 0) w := by
        simp [Builtin.append_, run_underlying ht, sizeOf, typeInfo, hi, Builtin.lenOf, Builtin.firstCells, loadCells, loadCellsFrom]
      rw [h2] at hr
      injection hr with _ hw
      rw [← hw]
    have h2 := run_append_nil (P := P) w t ty e i z ht hi hz a m c news hl hnews (by omega) (by omega) (by have hb := hbytes; simp only [Nat.zero_add] at hb; omega)
    rw [h2] at hr
    injection hr with _ hw
    rw [← hw]
    exact frozen?_alloc_cells _ _ _ _
  · by_cases hroom : n + m ≤ cap
    · have hfit : n * i.size + news.length ≤ cur.size := by rw [hl, hcs, ← Nat.add_mul]; exact Nat.mul_le_mul_right _ hroom
      have h2 := run_append_room (P := P) w t ty e i ht hi g n cap cur hg a m c news hl hnews h1 hroom hfit
      rw [h2] at hr
      injection hr with _ hw
      rw [← hw]
      exact setRow_frozen w g _ cur e hg x
    · have holds : ∀ j u, xs[j]? = some u → w.cell? ((⟨g, 0, none⟩ : Addr).add j) = some u := hown.cells (g := g) rfl
      have h2 := run_append_grow (P := P) w t ty e i z ht hi hz ⟨g, 0, none⟩ n cap xs hown.1 holds a m c news hl hnews (by omega) (by omega) (growslice_fits (by omega) hbytes)
      rw [h2] at hr
      injection hr with _ hw
      rw [← hw]
      exact frozen?_alloc_cells _ _ _ _

theorem run_append_nothing (t ty : TypeId) (i : TypeInfo) (ht : P.underlying t = some (.slice e)) (hi : P.info? e = some i)
    (hown : w.ownsRow base e size v n xs) (c : Nat) : (Builtin.append_ #[t, t] ty #[v, .slice none 0 c]).run P w = .ok v w := by
  rcases hown.2 with ⟨rfl, rfl⟩ | ⟨g, cap, cur, rfl, _, _, hnc, _⟩
  · simp [Builtin.append_, run_underlying ht, sizeOf, typeInfo, hi, Builtin.lenOf, Builtin.firstCells]
  · simp [Builtin.append_, run_underlying ht, sizeOf, typeInfo, hi, Builtin.lenOf, Builtin.firstCells, hnc, storeCells]

end

/-- the walk's law. -/
theorem wpList_append_off {P : Program} (B : Nat) (w : World) {ops : Array Oper} {rest : List Oper} {o : Oper} {a : Act} {Q : Exit → Act → World → Prop} (hgd : o.guard = none) (s x : Operand) (t : TypeId)
    (ho : o.op = .call { callee := .builtin .append, args := #[s, x], argTypes := #[t, t] })
    (e : TypeId) (i : TypeInfo) (z : Value) (size bytes : Nat) (ht : P.underlying t = some (.slice e)) (hi : P.info? e = some i) (hz : i.zero = some z)
    (hsize : i.size = size) (hby : i.bytes = bytes) (hzs : z.cells.size = size) (hsz : 0 < size)
    (v : Value) (n : Nat) (xs : List Value) (hs : a.eval s = v) (hown : w.ownsRow B e size v n xs)
    (vx : Value) (m : Nat) (news : List Value) (hx : a.eval x = vx) (hsrc : Src w size vx m news) (h1 : ∀ u ∈ news, u.oneCell' = true)
    (h63 : n + m ≤ maxLen) (hbytes : (n + m) * bytes ≤ 140737488355328) (hB : B ≤ w.heap.size)
    (h : ∀ v' w', w'.ownsRow B e size v' (n + m) (xs ++ news) → Off B w w' → wpList P ops Q rest (a.put o.dst v') w') : wpList P ops Q (o :: rest) a w := by
  refine wpList_plain hgd fun K hK => ?_
  rcases hsrc with ⟨rfl, rfl, rfl⟩ | ⟨ad, c, rfl, hl, hnews⟩
  · have hr := run_append_nothing (P := P) t o.type i ht hi hown 0
    unfold Oper.wp execOp
    simp only [ho, resolve, invoke, builtin, Sem.run_bind, Sem.run_pure, Result.andThen_ok, List.map_toArray, List.map_cons, List.map_nil, hs, hx, hr]
    exact hK _ _ (h v w (by simpa using hown) (Off.refl _ _))
  · obtain ⟨v', w', hr, h2, h3, h4⟩ := run_append_own (P := P) w B t o.type e i z size bytes ht hi hz hsize hby hzs hsz v n xs hown ad m c news hl hnews h1 h63 hbytes hB
    have hf := append_keeps_off (P := P) t o.type i z bytes ht hi hz hsize hby hsz hown ad m c news hl hnews h1 h63 hbytes hr
    have hE : Off B w w' := ⟨(Below.refl _ _).grown h3 hB (fun k hk => (hown.lt k hk).1), hf⟩
    unfold Oper.wp execOp
    simp only [ho, resolve, invoke, builtin, Sem.run_bind, Sem.run_pure, Result.andThen_ok, List.map_toArray, List.map_cons, List.map_nil, hs, hx, hr]
    exact hK _ _ (h v' w' h2 hE)

/-- an empty row of the call's own. -/
theorem owns_empty (w : World) (B : Nat) (e : TypeId) (size : Nat) (hB : B ≤ w.heap.size) : (w.alloc (.cells #[] e)).ownsRow B e size (.slice (some ⟨w.heap.size, 0, none⟩) 0 0) 0 [] := by
  refine ⟨by simp, .inr ⟨w.heap.size, 0, #[], rfl, hB, heap_alloc_new w _, by omega, by omega, by simp, by simp⟩⟩

theorem owns_off {w w1 : World} {B : Nat} {base : Nat} {e : TypeId} {size : Nat} {v : Value} {n : Nat} {xs : List Value} (h : w.ownsRow base e size v n xs) (hx : Off B w w1) (hv : ∀ g, v.ownBlock = some g → g < B) : w1.ownsRow base e size v n xs := by
  refine ⟨h.1, ?_⟩
  rcases h.2 with hn | ⟨g, cap, cur, rfl, hb, hg, rest⟩
  · exact .inl hn
  · exact .inr ⟨g, cap, cur, rfl, hb, (hx.below.block g (hv g rfl)).trans hg, rest⟩

end Go.Proofs.YticaamdghjfifaaDoor
