/- A region that draws its order, whose first operations only read and whose last ones stand in one forced order: the first are walked once, in the order of the text, the rest is an ordinary list. -/
import Derived.Test.YticaamdghjfifaaDoorRows
import Derived.Deep.QuietTactic
import Derived.BigQuiet
import Derived.StillTail
import Derived.KernelRfl
namespace Go.Proofs.YticaamdghjfifaaDoor
open Go.RowKit
set_option linter.unusedVariables false

theorem still_of_quiet_op {P : Program} {o : Oper} {a : Act} {w : World} {K K' : Act → Prop} (hK : ∀ a, K a → K' a) (h : o.quiet P a (fun w' => w' = w) K) : o.still P a w K' := by
  obtain ⟨v, h1, h2⟩ := h
  have h3 := h1 w rfl
  unfold Oper.quietAt at h3
  unfold Oper.still
  generalize (execOp a.eval o).run P w = r at *
  cases r with
  | ok n w' =>
    cases n with
    | value u => obtain ⟨e1, e2⟩ := h3; subst e2; exact ⟨e1, hK _ h2⟩
    | skip => obtain ⟨e1, e2⟩ := h3; subst e2; exact ⟨e1, hK _ h2⟩
    | enter f args => exact ⟨h3.1, v, h3.2, hK _ h2⟩
    | _ => exact h3.elim
  | _ => exact h3.elim

theorem still_of_quiet {P : Program} {ops : Array Oper} {w : World} {Q : Act → Prop} : ∀ (l : List Oper) (a : Act), wpQuiet P ops (fun w' => w' = w) Q l a → wpStill P ops w Q l a
  | [], _, h => h
  | o :: rest, a, h => by
    unfold wpQuiet at h
    unfold wpStill
    by_cases hw : Region.wanted o (yielded ops a.tmps) = true
    · rw [if_pos hw] at h ⊢
      exact still_of_quiet_op (fun a' ha => still_of_quiet rest a' ha) h
    · rw [if_neg hw] at h ⊢
      exact still_of_quiet rest _ h

theorem wp_region_head {P : Program} {id : Nat} {Q : Exit → Act → World → Prop} {a : Act} {w : World} {l : List Oper} (n : Nat) (hm : P.follows .mixedOrders = true) (hB : Region.lexTailB .any l.toArray n = true)
    (h : wpQuiet P l.toArray (fun w' => w' = w.drew) (fun a' => wpList P l.toArray Q (l.drop n) a' w.drew) (l.take n) a) : (Code.region id l.toArray true).wp P Q a w :=
  wp_region_still_tail n hm hB (still_of_quiet _ _ h)

end Go.Proofs.YticaamdghjfifaaDoor
