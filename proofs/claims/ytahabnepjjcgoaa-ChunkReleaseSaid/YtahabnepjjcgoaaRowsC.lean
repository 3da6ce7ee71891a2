/- The contract of Rows. -/
import Derived.Test.YtahabnepjjcgoaaCounts
import Derived.BigRegion
namespace Go.Proofs.Ytahabnepjjcgoaa
open Go.RowKit
set_option linter.unusedVariables false

set_option maxRecDepth 100000 in
set_option maxHeartbeats 4000000 in
theorem rows_any (b : Nat) (u g : Nat → Bool) (w : World) (h : ChunkAt w b u g) :
    Calls Try.prog 15 #[.pointer (some ⟨b, 0, none⟩)] w fun r w' => r = .returned (.tuple #[.agg (arr u), .agg (arr g)]) ∧ Ext w w' := by
  have hlt := h.used.lt
  have c0 := h.used.cell 0 (by omega)
  have c1 := h.used.cell 1 (by omega)
  have c2 := h.used.cell 2 (by omega)
  have c3 := h.used.cell 3 (by omega)
  have c4 := h.used.cell 4 (by omega)
  have c5 := h.used.cell 5 (by omega)
  have c6 := h.used.cell 6 (by omega)
  have c7 := h.used.cell 7 (by omega)
  have d0 := h.gone.cell 0 (by omega)
  have d1 := h.gone.cell 1 (by omega)
  have d2 := h.gone.cell 2 (by omega)
  have d3 := h.gone.cell 3 (by omega)
  have d4 := h.gone.cell 4 (by omega)
  have d5 := h.gone.cell 5 (by omega)
  have d6 := h.gone.cell 6 (by omega)
  have d7 := h.gone.cell 7 (by omega)
  simp only [Nat.zero_add, Nat.reduceAdd] at c0 c1 c2 c3 c4 c5 c6 c7 d0 d1 d2 d3 d4 d5 d6 d7
  unfold arr
  clear h
  generalize word u 0 = x0 at *
  generalize word u 1 = x1 at *
  generalize word u 2 = x2 at *
  generalize word u 3 = x3 at *
  generalize word u 4 = x4 at *
  generalize word u 5 = x5 at *
  generalize word u 6 = x6 at *
  generalize word u 7 = x7 at *
  generalize word g 0 = y0 at *
  generalize word g 1 = y1 at *
  generalize word g 2 = y2 at *
  generalize word g 3 = y3 at *
  generalize word g 4 = y4 at *
  generalize word g 5 = y5 at *
  generalize word g 6 = y6 at *
  generalize word g 7 = y7 at *
  go_enter Try.func15, Try.ntmps15
  go_wp2
  go_region
  all_goals (try go_wp2)
  all_goals refine bodyPost_ret (v := .tuple #[.agg #[.int .u64 x0, .int .u64 x1, .int .u64 x2, .int .u64 x3, .int .u64 x4, .int .u64 x5, .int .u64 x6, .int .u64 x7], .agg #[.int .u64 y0, .int .u64 y1, .int .u64 y2, .int .u64 y3, .int .u64 y4, .int .u64 y5, .int .u64 y6, .int .u64 y7]]) (by simp [results, Try.results15, go_sem]) rfl ⟨rfl, ?_⟩
  all_goals first | exact ((Ext.refl w).alloc _ _).alloc _ _ | exact (((Ext.refl w).alloc _ _).alloc _ _).drew | exact (((Ext.refl w).alloc _ _).alloc _ _).drewN' _
end Go.Proofs.Ytahabnepjjcgoaa
