/- A call of a Go function, as one step of a region that draws its order. -/
import Derived.Test.YtfgfbmmidijgoaaStepA
namespace Go.Proofs.Ytfgfbmmidijgoaa
open Go.RowKit
set_option linter.unusedVariables false

theorem step_call {P : Program} {ops : Array Oper} {o : Oper} {a : Act} {w : World} {K : Act → World → Prop} {Q : Exit → Act → World → Prop} {E : Prop} (hgd : o.guard = none) (f : FuncId) (n : Nat) (t : TypeId)
    (ho : o.op = .call { callee := .value (.func f), args := #[.tmp n], argTypes := #[t] }) (v : Value) (hx : a.eval (.tmp n) = v) (hrun : ∀ w : World, (callFunc f #[v]).run P w = .ok (.enter f #[v]) w) (R : Ending → World → Prop) (h : Calls P f #[v] w R)
    (hk : ∀ e w', R e w' → ∃ u, e = .returned u ∧ K (a.put o.dst u) w') :
    if Region.wanted o (yielded ops a.tmps) = true then Oper.wp P o a w K Q else E := by
  have hw : Region.wanted o (yielded ops a.tmps) = true := by simp [Region.wanted, hgd]
  rw [if_pos hw]
  unfold Oper.wp execOp
  simp [Act.eval] at hx
  simp [ho, resolve, invoke, go_sem, hx, hrun]
  refine h.mono fun e w' hr => ?_
  obtain ⟨u, rfl, hu⟩ := hk e w' hr
  exact hu

end Go.Proofs.Ytfgfbmmidijgoaa
