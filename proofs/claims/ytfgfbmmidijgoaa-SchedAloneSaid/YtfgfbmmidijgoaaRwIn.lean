/- Rows of rows of ints that came in. -/
import Derived.Test.YtfgfbmmidijgoaaZs
import Derived.Test.YtfgfbmmidijgoaaClone
import Derived.Deep.Matrix
namespace Go.Proofs.Ytfgfbmmidijgoaa
open Go.RowKit Go.ChangeShapes Go.WideShapes Go.Deep
set_option linter.unusedVariables false

structure Rw where
  len : Nat
  z : Nat → List Int
def RwIn (W : World) (v : Value) (l : Rw) : Prop := l.len ≤ maxLen ∧ ∃ p cap, v = .slice p l.len cap ∧ ∀ r, r < l.len → ∃ b off A C, p = some ⟨b, off, none⟩ ∧ b < W.heap.size ∧ W.cell? ⟨b, off + r, none⟩ = some (.slice A (l.z r).length C) ∧ (l.z r).length ≤ maxLen ∧ (∀ n ∈ l.z r, (Lit.int .i64 n).wf = true) ∧ ZsAt W .i64 A (l.z r)

theorem open_rw {H : Type} {enc : TypeId × Value → H} {W : World} {base : Nat} {v : Value} {d : DataW H} {p : List MemPlace} (hval : Value.okWide Try.prog W .any base 37 v) (h : DataW.Trod enc Try.prog W 0 (fun _ => true) true 37 v d p) :
    ∃ l : Rw, RwIn W v l := by
  obtain ⟨n, h⟩ := h
  rcases open_int_rows Try.underlying37 Try.underlying31 Try.underlying3 (by kernel_rfl) (by kernel_rfl) h with ⟨hv, -⟩ | ⟨a, len, cap, A, L, C, Z, hv, -, hl, hm, -, hr⟩
  · exact ⟨⟨0, fun _ => []⟩, Nat.zero_le _, none, 0, slice_value Try.underlying37 hval hv, fun r hr => absurd hr (Nat.not_lt_zero _)⟩
  · have hv' : v = .slice (some a) len cap := slice_value Try.underlying37 hval hv
    subst hv'
    obtain ⟨b, off, rfl, hb⟩ := slice_place Try.underlying37 hval
    refine ⟨⟨len, fun r => (Z r).take (L r)⟩, Nat.le_trans hl hm, _, cap, rfl, fun r (hr' : r < len) => ?_⟩
    obtain ⟨hc, hLC, hCm, hZ, hwf, hnil, hin⟩ := hr r (by omega)
    have hlen : ((Z r).take (L r)).length = L r := by rw [List.length_take]; omega
    rw [Addr.add_lit] at hc
    refine ⟨b, off, A r, C r, rfl, hb, by show W.cell? _ = some (Value.slice (A r) ((Z r).take (L r)).length (C r)); rw [hlen]; exact hc, ?_, fun n hn => hwf n (List.mem_of_mem_take hn), ?_⟩
    · show ((Z r).take (L r)).length ≤ maxLen; omega
    · by_cases h0 : L r = 0
      · left; show (Z r).take (L r) = []; rw [h0]; rfl
      · right
        cases hA : A r with
        | none => have := hnil hA; omega
        | some a' =>
          obtain ⟨-, hcell⟩ := hin a' hA
          have h00 := hcell 0 (by omega)
          have e0 : a'.add 0 = a' := rfl
          rw [e0] at h00
          obtain ⟨ea, hlt⟩ := cell_addr h00
          refine ⟨a'.block, a'.off, by rw [← ea], hlt, fun i hi => ?_⟩
          have hi' : i < L r := by
            have : i < ((Z r).take (L r)).length := hi
            omega
          have hci := hcell i (by omega)
          rw [ea, Addr.add_lit] at hci
          rw [hci]
          show some (Value.int .i64 ((Z r).getD i 0)) = some (Value.int .i64 ((Z r).take (L r))[i])
          rw [List.getElem_take]
          simp [List.getD, show i < (Z r).length by omega]

end Go.Proofs.Ytfgfbmmidijgoaa
