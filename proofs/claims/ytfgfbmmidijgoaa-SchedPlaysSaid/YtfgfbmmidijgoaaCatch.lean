/- The contracts of the closure that Go defers. -/
import Derived.Test.YtfgfbmmidijgoaaDo
import Derived.Defers
import Derived.Recover
namespace Go.Proofs.Ytfgfbmmidijgoaa
open Go.RowKit
set_option linter.unusedVariables false

theorem catch_idle (p q : Addr) (w : World) :
    CallsD Try.prog 30 #[.pointer (some p), .pointer (some q)] .returning w fun e u' w' => e = .returned (.tuple #[]) ∧ u' = .returning ∧ w' = w := by
  refine callsD_of_wpS Try.func30 rfl fun c₀ cs hu => ?_
  apply wpS_seq
  apply wpS_region
  simp [wpOpsS, go_sem, recoverD, hu, Try.ntmps30, Exit.thenS]
  refine wpS_of_wp ?_
  go_wp2
  cases c₀
  simp_all [bodyPostS, results, Try.results30]

theorem catch_end (pb qb : Nat) (b : Nat) (older : List PanicEntry) (w : World) (hp : w.cell? ⟨pb, 0, none⟩ = some (.pointer (some ⟨b, 0, none⟩))) (x : Bool) (h4 : w.cell? ⟨b, 4, none⟩ = some (.bool x)) (f4 : w.frozen? ⟨b, 4, none⟩ = false) (y : Int) (hq : w.cell? ⟨qb, 0, none⟩ = some (.int .i64 y)) (fq : w.frozen? ⟨qb, 0, none⟩ = false) (hb : b < w.heap.size) (hqb : qb < w.heap.size) (hpb : pb < w.heap.size) (hne : qb ≠ b) (hne2 : b ≠ qb) :
    CallsD Try.prog 30 #[.pointer (some ⟨pb, 0, none⟩), .pointer (some ⟨qb, 0, none⟩)] (.panicking ({ v := .iface 58 (.agg #[]), recovered := false } :: older)) w fun e u' w' => e = .returned (.tuple #[]) ∧ u' = .panicking ({ v := .iface 58 (.agg #[]), recovered := true } :: older) ∧ w' = (((w.setCell ⟨b, 4, none⟩ (.bool true)).setCell ⟨qb, 0, none⟩ (.int .i64 20)).alloc (.cells #[] 58)) := by
  have hta : ∀ w : World, (Instr.typeAssert (.iface 58 (.agg #[])) 20 58 true).run Try.prog w = .ok (.tuple #[.agg #[], .bool true]) w := fun _ => by kernel_rfl
  refine callsD_of_wpS Try.func30 rfl fun c₀ cs hu => ?_
  apply wpS_seq
  apply wpS_region
  simp [wpOpsS, go_sem, recoverD, hu, Try.ntmps30, Exit.thenS]
  refine wpS_of_wp ?_
  go_wp2
  cases c₀
  simp_all [bodyPostS, results, Try.results30]

end Go.Proofs.Ytfgfbmmidijgoaa
