/- The contract of a scheduler's waits. -/
import Derived.Test.YtfgfbmmidijgoaaSc
namespace Go.Proofs.Ytfgfbmmidijgoaa
open Go.RowKit
set_option linter.unusedVariables false

set_option maxHeartbeats 800000 in
theorem waits_any (b : Nat) (F : Nat → Prop) (s : Sc) (x : St) (w : World) (h : SchIs w b F s) (hx : x.Ok) :
    Calls Try.prog 28 #[.pointer (some ⟨b, 0, none⟩), .agg #[.int .i64 x.op, .int .i64 x.a, .int .i64 x.b]] w fun r w' => r = .returned (.bool (waitsB s x)) ∧ Ext w w' := by
  obtain ⟨⟨tv, sv, vals, bl, bc, nl, nc, h1⟩, h2⟩ := h
  have c1 : w.cell? ⟨b, 1, none⟩ = some (.map (some bl)) := h1.blk.cell 1
  have c2 : w.cell? ⟨b, 2, none⟩ = some (.map (some bc)) := h1.blk.cell 2
  have hb := h1.blk.lt
  have HW := Lib.hid (show waitsB s x = if x.op = 1 then (s.lk x.a).isSome else if x.op = 4 then decide ((s.cl x.a).getD 0 < x.b) else false from rfl)
  have o1 := hx.op1
  have o5 := hx.op5
  have HL := fun (cs : Array Value) (t : TypeId) (n : Nat) => (h1.lk.later (((Ext.refl w).alloc cs t).drewN' n)).look_ok hx.a 52 Try.underlying52
  have HC := fun (cs : Array Value) (t : TypeId) (n : Nat) => ((h1.cl.later (((Ext.refl w).alloc cs t).drewN' n)).look hx.a 52 Try.underlying52).1
  clear h1 h2
  generalize s.lk x.a = l at *
  generalize s.cl x.a = c at *
  by_cases e1 : x.op = 1
  · rw [e1]
    have HE := Lib.hid (HW.out.trans (if_pos e1))
    clear HW HC e1 o1 o5
    go_enter Try.func28, Try.ntmps28
    go_wp2
    go_quiet (fail)
    go_wp2
    go_ret
    exact ⟨by rw [HE.out]; rfl, ((Ext.refl _).alloc _ _).drewN' _⟩
  · have k1 : (x.op == 1) = false := beq_eq_false_iff_ne.2 e1
    by_cases e4 : x.op = 4
    · rw [e4]
      have HE := Lib.hid ((HW.out.trans (if_neg e1)).trans (if_pos e4))
      clear HW HL e1 e4 o1 o5 k1
      go_enter Try.func28, Try.ntmps28
      go_wp2
      go_quiet (fail)
      go_wp2
      go_ret
      exact ⟨by rw [HE.out]; rfl, ((Ext.refl _).alloc _ _).drewN' _⟩
    · have k4 : (x.op == 4) = false := beq_eq_false_iff_ne.2 e4
      have HE := Lib.hid ((HW.out.trans (if_neg e1)).trans (if_neg e4))
      clear HW HL HC e1 e4
      go_enter Try.func28, Try.ntmps28
      go_wp2
      go_ret
      exact ⟨by rw [HE.out]; rfl, (Ext.refl _).alloc _ _⟩

end Go.Proofs.Ytfgfbmmidijgoaa
