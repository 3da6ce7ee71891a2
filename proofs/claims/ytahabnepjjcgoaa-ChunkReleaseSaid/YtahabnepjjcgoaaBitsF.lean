/- Arrays of eight words, compared with themselves. -/
import Derived.Test.YtahabnepjjcgoaaBitsE
import Derived.ChangeKeysEq
import Derived.Laws.StructEq
namespace Go.Proofs.Ytahabnepjjcgoaa
open Go.RowKit
set_option linter.unusedVariables false

theorem word_info : ∃ i, Try.prog.info? 37 = some i := by
  have h : (Try.prog.info? 37).isSome = true := by kernel_rfl
  exact Option.isSome_iff_exists.1 h

theorem items_same {P : Program} {e : TypeId} {k : IntKind} (he : P.plainKey e = true) (hu : P.underlying e = some (.int k)) (d c : Nat) (xs : Array Value) (w : World) : ∀ is : List Nat, (∀ j ∈ is, ∃ n, xs[j * c]? = some (.int k n)) →
    (Op.eqItems (d + 1) e c xs xs is).run P w = .ok true w
  | [], _ => by simp [Op.eqItems]
  | j :: is, h => by
    obtain ⟨n, hn⟩ := h j List.mem_cons_self
    have h1 := run_part_plain (P := P) w he hn
    have h2 := run_equalIn_int (P := P) w d e k k n n hu
    have ih := items_same he hu d c xs w is fun x hx => h x (List.mem_cons_of_mem _ hx)
    simp only [Op.eqItems, Sem.run_bind, h1, h2, Result.andThen_ok, beq_self_eq_true, Bool.not_true, Bool.false_eq_true, if_false, ih]

theorem same_items (d : Nat) (x0 x1 x2 x3 x4 x5 x6 x7 : Int) (w : World) :
    (Op.eqItems (d + 1) 37 1 #[.int .u64 x0, .int .u64 x1, .int .u64 x2, .int .u64 x3, .int .u64 x4, .int .u64 x5, .int .u64 x6, .int .u64 x7] #[.int .u64 x0, .int .u64 x1, .int .u64 x2, .int .u64 x3, .int .u64 x4, .int .u64 x5, .int .u64 x6, .int .u64 x7] (List.range 8)).run Try.prog w = .ok true w := by
  refine items_same (by kernel_rfl) Try.underlying37 d 1 _ w _ fun j hj => ?_
  have hj8 : j < 8 := List.mem_range.1 hj
  obtain rfl | rfl | rfl | rfl | rfl | rfl | rfl | rfl : j = 0 ∨ j = 1 ∨ j = 2 ∨ j = 3 ∨ j = 4 ∨ j = 5 ∨ j = 6 ∨ j = 7 := by omega
  all_goals exact ⟨_, rfl⟩

theorem words_same (x0 x1 x2 x3 x4 x5 x6 x7 : Int) (w : World) :
    (Op.equalIn 10000 38 (.agg #[.int .u64 x0, .int .u64 x1, .int .u64 x2, .int .u64 x3, .int .u64 x4, .int .u64 x5, .int .u64 x6, .int .u64 x7]) (.agg #[.int .u64 x0, .int .u64 x1, .int .u64 x2, .int .u64 x3, .int .u64 x4, .int .u64 x5, .int .u64 x6, .int .u64 x7])).run Try.prog w = .ok true w := by
  obtain ⟨i, hi⟩ := word_info
  have h1 : Try.prog.cellsOf 37 = 1 := by kernel_rfl
  rw [show (10000 : Nat) = 9998 + 1 + 1 from rfl, run_equalIn_array w (9998 + 1) _ _ Try.underlying38 hi, h1]
  exact same_items 9998 x0 x1 x2 x3 x4 x5 x6 x7 w

theorem row_same (x0 x1 x2 x3 x4 x5 x6 x7 : Int) (w : World) :
    (Op.equalIn 10000 39 (.agg #[.int .u64 x0, .int .u64 x1, .int .u64 x2, .int .u64 x3, .int .u64 x4, .int .u64 x5, .int .u64 x6, .int .u64 x7]) (.agg #[.int .u64 x0, .int .u64 x1, .int .u64 x2, .int .u64 x3, .int .u64 x4, .int .u64 x5, .int .u64 x6, .int .u64 x7])).run Try.prog w = .ok true w := by
  obtain ⟨i, hi⟩ := word_info
  have h1 : Try.prog.cellsOf 37 = 1 := by kernel_rfl
  rw [show (10000 : Nat) = 9998 + 1 + 1 from rfl, run_equalIn_array w (9998 + 1) _ _ Try.underlying39 hi, h1]
  exact same_items 9998 x0 x1 x2 x3 x4 x5 x6 x7 w

end Go.Proofs.Ytahabnepjjcgoaa
