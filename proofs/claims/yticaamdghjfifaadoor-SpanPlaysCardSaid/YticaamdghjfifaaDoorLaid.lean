/- What the table that the row lays gives: the table of TrailingZeros64 in memory. -/
import Derived.Test.YticaamdghjfifaaDoorEndsAll
import Derived.ProofKit
import Derived.LaidMore
import Derived.OpenShut
import Derived.Stop.Joined
namespace Go.Proofs.YticaamdghjfifaaDoor
open Go.ChangeShapes Go.WideShapes Go.ChangeAt Go.WideMaps Go.WideElems Go.RowKit

theorem gTab : Tryd.prog.globalNamed "math/bits.deBruijn64tab" = some 0 := by kernel_rfl
theorem tTab : (Tryd.prog.globals[0]?).map (·.type) = some 85 := by kernel_rfl

abbrev laidS : List (String × DataW Unit) := [("math/bits.deBruijn64tab", Rows.laid_math_bits_deBruijn64tab)]

theorem tab_lits : (Rows.laid_math_bits_deBruijn64tab : DataW Unit) = .agg (Lib.deBruijn64tab.map fun k : Nat => .lit (.int .u8 (k : Int))) := rfl

theorem tz_of_laid {W : World} (h : laidMetH Tryd.prog laidS W) : TzAt W := by
  rw [MakeChecks.laidMetH_plain _ _ _ (by kernel_rfl)] at h
  obtain ⟨ps, ⟨g0, t0, cs0, f0, p0, q0, hg0, ht0, hv0, hd0, -, -⟩, -, -⟩ := h
  obtain rfl := Option.some.inj (gTab.symm.trans hg0)
  obtain rfl := Option.some.inj (tTab.symm.trans ht0)
  obtain ⟨xs, m1, rfl, hx1, hlen, hn, hel⟩ := DataW.trod_array Tryd.underlying85 hd0
  have c5 : Tryd.prog.cellsOf 5 = 1 := by kernel_rfl
  rw [c5] at hel
  simp only [Prod.mk.injEq] at hx1
  have hx := hx1.1
  rw [tab_lits] at hx
  simp only [DataW.agg.injEq] at hx
  have hcell : ∀ j, j < Lib.deBruijn64tab.length → W.cell? ⟨0, j, none⟩ = some (.int .u8 (Lib.deBruijn64tab.getD j 0)) := fun j hj => by
    have hl : Lib.deBruijn64tab.length = 64 := rfl
    have hj' : j < xs.length := by omega
    have he := hel j (by omega)
    rw [List.getElem?_eq_getElem hj'] at he
    obtain ⟨n, e1, e2, -⟩ := DataW.trod_int Tryd.underlying5 he
    have hy : (xs.map (·.1))[j]? = some (.lit (.int .u8 n)) := by
      rw [List.getElem?_map, List.getElem?_eq_getElem hj', e2]; rfl
    rw [← hx, List.getElem?_map, List.getElem?_eq_getElem hj] at hy
    simp only [Option.map_some, Option.some.injEq, DataW.lit.injEq, Lit.int.injEq, true_and] at hy
    rw [World.var?_cell hg0 hv0 j]
    have hc : cs0.toList[j]? = some (.int .u8 n) := by
      have h0 : ((cs0.toList.drop (j * 1)).take 1)[0]? = some (.int .u8 n) := by rw [e1]; rfl
      rw [List.getElem?_take_of_lt (by omega), List.getElem?_drop] at h0
      simpa using h0
    rw [← Array.getElem?_toList, hc, ← hy, List.getD_eq_getElem?_getD, List.getElem?_eq_getElem hj]
    rfl
  refine ⟨?_, hcell⟩
  have := hcell 0 (by decide)
  refine Nat.lt_of_not_le fun hc => ?_
  have e : W.heap[0]? = none := Array.getElem?_eq_none hc
  simp [World.cell?, e] at this

end Go.Proofs.YticaamdghjfifaaDoor
