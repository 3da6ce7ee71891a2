/- What all tasks add to a cell is in it at the end, whatever the picks; a task that awaits the sum goes on behind all of them. -/
import Derived.Test.YtfgfbmmidijgoaaRows
import Derived.Test.YtfgfbmmidijgoaaFrame
import Derived.Test.YtfgfbmmidijgoaaCellsW
namespace Go.Proofs.Ytfgfbmmidijgoaa.schedCells
open Go.ChangeShapes Go.WideShapes Go.ChangeAt Go.RowKit Go.Joins
set_option linter.unusedVariables false

theorem own : ownKnob Try.prog.godebug = none := by kernel_rfl

theorem plain : (Try.f6.params.toList).all (plainT Try.prog 8) = true := by kernel_rfl

set_option maxRecDepth 100000 in
theorem lifted (os : Os) (started : os.Started) (H : Type) (enc : TypeId × Value → H) :
    ReturnsInHanded {} Try.checked os 6 .any (Rows.schedCellsSpec.pre6 enc Try.prog Try.f6 Rows.schedCellsRow.domain false) (Rows.schedCellsSpec.post enc Try.prog Try.f6 false true false false) := by
  refine returnsInHanded_of_change (C := Try.checked) own started (by kernel_rfl) Try.func6
    (ChangeSpec.witness6 (enc := enc) (C := Try.checked) false ⟨#[], #[.slice none 0 0, .slice none 0 0], []⟩ 8 (by kernel_rfl) (by kernel_rfl) (by kernel_rfl) (by kernel_rfl)) ?_
  intro W base args ds gs before hval0 hW hcnd _
  have hval : ∀ (j : Nat) t v, Try.f6.params[j]? = some t → args[j]? = some v → Value.okWide Try.prog W .any base t v := hval0
  have hW' := hW
  obtain ⟨p, q, hA0, hV, rfl, hfz, hnd⟩ := hW
  have hA : DataW.TrodAll enc Try.prog W 0 (fun _ => true) true Try.f6.params.toList args.toList ds p := hA0
  have hK : DataW.TrodAll enc Try.prog W 0 (fun _ => true) true Try.f6.params.toList args.toList ds p := hA0
  rw [Try.params6] at hA hval
  clear hA0 hval0
  obtain ⟨v0, vs0, d0, ds0, p0, q0, hargs, rfl, hp0, h0, r0⟩ := trodAll_cons hA
  obtain ⟨v1, vs1, d1, ds1, p1, q1, rfl, rfl, hp1, h1, r1⟩ := trodAll_cons r0
  obtain ⟨rfl, rfl, hpe⟩ := trodAll_nil r1
  obtain rfl : args = #[v0, v1] := by cases args; simp_all
  obtain ⟨rfl, rfl⟩ := trodVars_none hV
  obtain ⟨l0, hl0⟩ := _root_.Go.Proofs.Ytfgfbmmidijgoaa.open_rw (hval 0 37 v0 rfl rfl) h0
  obtain ⟨l1, hl1⟩ := _root_.Go.Proofs.Ytfgfbmmidijgoaa.open_is (hval 1 31 v1 rfl rfl) h1
  refine (_root_.Go.Proofs.Ytfgfbmmidijgoaa.walk_SchedCells v0 l0 hl0 v1 l1 hl1 (W := W)).mono fun e W' ⟨he, hg⟩ => ?_
  subst he
  exact ⟨_, rfl, post_of_same (pa := p) (pv := []) hW' (fun _ _ _ => (trodAll_cons_mk (shut_bool Try.underlying4 _) trodAll_mk0)) (fun sp hsp => trodAll_later hg.below plain hK (fun x hx => hsp x (List.mem_append_left _ hx))) (fun _ _ => rfl) rfl
    (hg.below.frame _) hg.frozen (ok_one (by kernel_rfl) rfl (okWide_bool_mk Try.underlying4 _))⟩

theorem over : Rows.schedCellsRow.holds Try.pinned (OpenSpec.ofChange Rows.schedCellsSpec) :=
  OpenClaim.holds_of_wide 6 Try.f6 rfl rfl rfl rfl rfl rfl rfl ⟨rfl, rfl, rfl, rfl, rfl⟩ rfl rfl rfl rfl rfl (by kernel_rfl) Try.func6 (by kernel_rfl)
    (of_decide_eq_true (by kernel_rfl)) (by unfold Func.isWrapper; first | (rw [if_pos (by decide +kernel)]; kernel_rfl) | (rw [if_neg (by decide +kernel)]; exact ⟨rfl, rfl⟩))
    (fun os started H enc _ => lifted os started H enc)

theorem proved : Rows.SchedCellsSaid :=
  over
#print axioms proved
end Go.Proofs.Ytfgfbmmidijgoaa.schedCells
