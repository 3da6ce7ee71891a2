/- 'append' to a row of the call's own, as one step of a region that draws its order; what it leaves is said in full. -/
import Derived.Test.YtfgfbmmidijgoaaChg
import Derived.Deep.RegionLaw
namespace Go.Proofs.Ytfgfbmmidijgoaa
open Go.RowKit
set_option linter.unusedVariables false

theorem step_append_all {P : Program} {ops : Array Oper} {o : Oper} {a : Act} {w : World} {K : Act → World → Prop} {Q : Exit → Act → World → Prop} {E : Prop} (B : Nat) (hgd : o.guard = none) (s x : Operand) (t : TypeId)
    (ho : o.op = .call { callee := .builtin .append, args := #[s, x], argTypes := #[t, t] })
    (e : TypeId) (i : TypeInfo) (z : Value) (size bytes : Nat) (ht : P.underlying t = some (.slice e)) (hi : P.info? e = some i) (hz : i.zero = some z)
    (hsize : i.size = size) (hby : i.bytes = bytes) (hzs : z.cells.size = size) (hsz : 0 < size)
    (v : Value) (n : Nat) (xs : List Value) (hs : a.eval s = v) (hown : w.ownsRow B e size v n xs)
    (vx : Value) (m : Nat) (news : List Value) (hx : a.eval x = vx) (hsrc : Src w size vx m news) (h1 : ∀ u ∈ news, u.oneCell' = true)
    (h63 : n + m ≤ maxLen) (hbytes : (n + m) * bytes ≤ 140737488355328) (hB : B ≤ w.heap.size)
    (h : ∀ v' w', w'.ownsRow B e size v' (n + m) (xs ++ news) → Chg (fun b => v.ownBlock = some b) w w' → (v'.ownBlock = v.ownBlock ∨ v'.ownBlock = some w.heap.size) → K (a.put o.dst v') w') :
    if Region.wanted o (yielded ops a.tmps) = true then Oper.wp P o a w K Q else E := by
  have hw : Region.wanted o (yielded ops a.tmps) = true := by simp [Region.wanted, hgd]
  rw [if_pos hw]
  rcases hsrc with ⟨rfl, rfl, rfl⟩ | ⟨ad, c, rfl, hl, hnews⟩
  · have hr := run_append_nothing (P := P) t o.type i ht hi hown 0
    unfold Oper.wp execOp
    simp only [ho, resolve, invoke, builtin, Sem.run_bind, Sem.run_pure, Result.andThen_ok, List.map_toArray, List.map_cons, List.map_nil, hs, hx, hr]
    exact h v w (by simpa using hown) (Chg.refl _ _) (.inl rfl)
  · obtain ⟨v', w', hr, h2, h3, -, h5⟩ := run_append_own_at (P := P) w B t o.type e i z size bytes ht hi hz hsize hby hzs hsz v n xs hown ad m c news hl hnews h1 h63 hbytes hB
    have hf := append_keeps_off (P := P) t o.type i z bytes ht hi hz hsize hby hsz hown ad m c news hl hnews h1 h63 hbytes hr
    have hE : Chg (fun b => v.ownBlock = some b) w w' := ⟨h3.os, h3.tape, h3.output, h3.size, hf, fun k hk hne => h3.block k hk (fun e => hne e.symm)⟩
    unfold Oper.wp execOp
    simp only [ho, resolve, invoke, builtin, Sem.run_bind, Sem.run_pure, Result.andThen_ok, List.map_toArray, List.map_cons, List.map_nil, hs, hx, hr]
    exact h v' w' h2 hE h5

/-- a block of one element. -/
theorem src_blk {w : World} {g : Nat} {t : TypeId} {cs : Array Value} {size : Nat} (h : Blk w g t cs) (hs : cs.size = size) : Src w size (.slice (some ⟨g, 0, none⟩) 1 1) 1 cs.toList :=
  .inr ⟨_, _, rfl, by simpa using hs, fun j u hu => by
    rw [Addr.add_lit, Nat.zero_add, h.cell]
    simpa using hu⟩

end Go.Proofs.Ytfgfbmmidijgoaa
