/- The contracts of package pack and of its reference: one summary. -/
import Derived.Test.YtbfnadfbanhgcaaRows
import Derived.Test.YtbfnadfbanhgcaaPlain
import Derived.WalkSpells
import Derived.ProofKit
import Derived.OpenShut
import Derived.Handy
namespace Go.Proofs.Ytbfnadfbanhgcaa
open Go.RowKit
set_option linter.unusedVariables false

theorem right_any (s m e p : Int) (w : World) (b : p ≤ 2097152) :
    Calls Try.prog 25 #[.agg #[.int .i64 s, .int .i64 m, .int .i64 e], .int .i64 p] w fun r w' => r = .returned (.bool (rightB s m e p)) ∧ Ext w w' := by
  go_enter Try.func25, Try.ntmps25
  go_wp2
  all_goals (go_ret; refine ⟨?_, by repeat (first | exact Ext.refl _ | apply Ext.alloc)⟩; first | exact rightB_yes (by omega) | exact rightB_no (by omega) | exact rightB_last (by omega) | exact rightB_eq (by omega))

set_option maxHeartbeats 2000000 in
theorem rright_any (s m e p : Int) (w : World) (a : 1 ≤ p) (b : p ≤ 2097152) :
    Calls Try.prog 26 #[.agg #[.int .i64 s, .int .i64 m, .int .i64 e], .int .i64 p] w fun r w' => r = .returned (.bool (rightB s m e p)) ∧ Ext w w' := by
  go_enter Try.func26, Try.ntmps26
  go_wp2
  all_goals (go_ret; refine ⟨?_, by repeat (first | exact Ext.refl _ | apply Ext.alloc)⟩; (try simp only [beq_iff_eq] at *); first | exact rightB_yes (by omega) | exact rightB_no (by omega) | exact rightB_last (by omega) | exact rightB_eq (by omega))

/-- a row of summaries in memory. -/
def SumsAt (w : World) (b off : Nat) (l : List Sm) : Prop := ∀ i (h : i < l.length), w.cell? ⟨b, off + i * 3, none⟩ = some (.int .i64 l[i].s) ∧ w.cell? ⟨b, off + i * 3 + 1, none⟩ = some (.int .i64 l[i].m) ∧ w.cell? ⟨b, off + i * 3 + 2, none⟩ = some (.int .i64 l[i].e)

def rightsB (l : List Sm) (p : Int) : Bool := decide (1 ≤ p ∧ p ≤ 2097152 ∧ l.length ≤ 64) && l.all fun x => rightB x.s x.m x.e p

theorem all_take (l : List Sm) (f : Sm → Bool) (k : Nat) (h : k < l.length) : (l.take (k + 1)).all f = ((l.take k).all f && f l[k]) := by
  rw [List.take_succ_eq_append_getElem h, List.all_append]; simp

theorem rights_yes (b off cap : Nat) (l : List Sm) (p : Int) (w : World) (hb : b < w.heap.size) (hc : Hid (SumsAt w b off l)) (h1 : 1 ≤ p) (h2 : p ≤ 2097152) (h3 : l.length ≤ 64) :
    Calls Try.prog 23 #[.slice (some ⟨b, off, none⟩) l.length cap, .int .i64 p] w fun r w' => r = .returned (.bool (rightsB l p)) ∧ Ext w w' := by
  have HR := Lib.hid (show rightsB l p = l.all fun x => rightB x.s x.m x.e p by unfold rightsB; rw [decide_eq_true ⟨h1, h2, h3⟩]; rfl)
  go_enter Try.func23, Try.ntmps23
  go_wp2
  go_loopw [20] (fun i wr => ∃ k : Nat, k ≤ l.length ∧ i = .int .i64 k ∧ Ext w wr ∧ Hid ((l.take k).all (fun x => rightB x.s x.m x.e p) = true)) (fun i _ => l.length - (intOf i).toNat)
  case atStart => exact ⟨0, Nat.zero_le _, rfl, Ext.refl _, Lib.hid rfl⟩
  case round =>
    obtain ⟨k, hk, rfl, hx, ha⟩ := hrel
    by_cases hlt : k < l.length
    · obtain ⟨c1, c2, c3⟩ := hc.out k hlt
      have d1 := (hx.cell b (off + k * 3) hb).trans c1
      have d2 := (hx.cell b (off + k * 3 + 1) hb).trans c2
      have d3 := (hx.cell b (off + k * 3 + 2) hb).trans c3
      clear c1 c2 c3
      have hz := hx.size
      cases hr : rightB l[k].s l[k].m l[k].e p
      · go_wp2_with (go_at_call 25; refine (right_any _ _ _ _ _ h2).mono ?_; rintro e w1 ⟨rfl, hg1⟩)
        go_ret
        refine ⟨?_, hx.trans ((Ext.refl _).alloc _ _ |>.trans hg1)⟩
        rw [HR.out]
        have : (l.all fun x => rightB x.s x.m x.e p) = false := by
          rw [List.all_eq_false]; exact ⟨l[k], List.getElem_mem hlt, by rw [hr]; decide⟩
        rw [this]; rfl
      · go_wp2_with (go_at_call 25; refine (right_any _ _ _ _ _ h2).mono ?_; rintro e w1 ⟨rfl, hg1⟩)
        go_roundw
        case rel => exact ⟨k + 1, hlt, by go_num, hx.trans ((Ext.refl _).alloc _ _ |>.trans hg1), Lib.hid (by rw [all_take _ _ _ hlt, ha.out, hr]; rfl)⟩
        case measure => simp [intOf]; omega
    · go_wp2
      go_ret
      refine ⟨?_, hx⟩
      rw [HR.out]
      have e : l.take k = l := List.take_of_length_le (by omega)
      have := ha.out
      rw [e] at this; rw [this]; rfl

end Go.Proofs.Ytbfnadfbanhgcaa
