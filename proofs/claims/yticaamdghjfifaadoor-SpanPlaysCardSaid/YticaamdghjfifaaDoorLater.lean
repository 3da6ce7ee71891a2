/- A region that draws its order, whose operations read and whose callees read or make new memory, walked once, in the order of the text. -/
import Derived.Test.YticaamdghjfifaaDoorRows
import Derived.Test.YticaamdghjfifaaDoorBase
import Derived.Deep.QuietTactic
import Derived.BigQuiet
import Derived.KernelRfl
namespace Go.Proofs.YticaamdghjfifaaDoor
open Go.RowKit
set_option linter.unusedVariables false

/-- a later world: new blocks at most. -/
structure Later (W : World) where
  w : World
  ext : Ext W w

instance (W : World) : Nonempty (Later W) := ⟨⟨W, Ext.refl W⟩⟩

theorem wp_region_later {P : Program} {id : Nat} {Q : Exit → Act → World → Prop} {a : Act} {w : World} {l : List Oper} (W : World) (hm : P.follows .mixedOrders = true) (hB : Region.lexB .any l.toArray = true) (hW : Ext W w)
    (h : wpQuiet P l.toArray (fun w' => ∃ x : Later W, w' = x.w) (fun a' => ∀ x : Later W, Q .normal a' x.w) l a) : (Code.region id l.toArray true).wp P Q a w := by
  refine wp_region_quiet (C := fun w' => ∃ x : Later W, w' = x.w) hm hB ⟨⟨_, hW.drew⟩, rfl⟩ ?_
  have : (fun a' => ∀ w', (∃ x : Later W, w' = x.w) → Q .normal a' w') = fun a' => ∀ x : Later W, Q .normal a' x.w := by
    funext a'
    exact propext ⟨fun h x => h _ ⟨x, rfl⟩, fun h w' ⟨x, hx⟩ => hx ▸ h x⟩
  rw [this]
  exact h

theorem later_call {P : Program} {f : FuncId} {args : Array Value} {W : World} {x : Later W} {v : Value}
    (h : Calls P f args x.w fun e w'' => e = .returned v ∧ Ext x.w w'') : Calls P f args x.w fun e w'' => e = .returned v ∧ ∃ y : Later W, w'' = y.w :=
  h.mono fun _ _ ⟨he, hx⟩ => ⟨he, ⟨_, x.ext.trans hx⟩, rfl⟩

theorem later_same {P : Program} {f : FuncId} {args : Array Value} {W : World} {x : Later W} {v : Value}
    (h : Calls P f args x.w fun e w'' => e = .returned v ∧ x.w = w'') : Calls P f args x.w fun e w'' => e = .returned v ∧ ∃ y : Later W, w'' = y.w :=
  h.mono fun _ _ ⟨he, hx⟩ => ⟨he, x, hx.symm⟩

theorem later_cell {W : World} {b o : Nat} {v : Value} (h : W.cell? ⟨b, o, none⟩ = some v) (hb : b < W.heap.size) : ∀ x : Later W, x.w.cell? ⟨b, o, none⟩ = some v :=
  fun x => (x.ext.cell b o hb).trans h

end Go.Proofs.YticaamdghjfifaaDoor
