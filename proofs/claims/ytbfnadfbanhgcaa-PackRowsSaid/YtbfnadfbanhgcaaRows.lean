/-
  No cell of these rows narrows 'for every input' (looked for: loops, veiled, ifaces, maps, wideKeys, modest, calm, conditions, laid).
  DERIVED. THE GIVEN ROWS OF THIS SEAT. 7 by the template 'for every input the law returns true; each argument reads behind the call as it read before'; 0 by the template 'total and deterministic' (their statements: YtbfnadfbanhgcaaTotals.lean).
  GIVEN WITH THE SEED: the statements are not yours to turn. If you find one false, say at which input.
  Laid BY PROGRAM, IN A SANDBOX (cutbox-rows.mjs): the forced cells as the released guide's own fill.sh prints them over the translation 89d3fed915f42e6c… (all of the seat's roots in one cut). By AI agents, Wed Nov 11 2026. No macro, syntax, notation, axiom, sorry.
-/
import Derived.Test.YtbfnadfbanhgcaaChecked
import GoSem.Claim
import GoSem.ClaimJoined
import GoSem.ClaimMapViews
import Derived.JoinedTies
import Derived.KernelRfl
namespace Go.Proofs.Ytbfnadfbanhgcaa
/- THE CELL 'sum', in the pinned program and in every row, IS THE sha256 OF THE DUMP (.gsa) THAT YtbfnadfbanhgcaaProg.lean LOADS. Nothing in Lean hashes anything: it is a label: what it is worth is what the hold of that sum in a sandbox is worth. -/
noncomputable def Try.pinned : Pinned := { name := "ytbfnadfbanhgcaa", sum := "89d3fed915f42e6cf547d79c7f94f4d1266ebd5c433d7e3bbe427a88d4f4cf9a", checked := Try.checked }
namespace Rows
def none {H : Type} : Left H := { results := [], args := [] }

/-- 'mallowlaw7.PackMerges': WHATEVER THE INPUT: true; the input reads as it did. -/
def packMergesSpec : ChangeSpec := { name := "packMerges", fn := fun _ => fun
  | [d1, d2, d3] => { results := [.lit (.bool true)], args := [d1, d2, d3] }
  | _ => none }
def packMergesRow : OpenClaim := { program := "ytbfnadfbanhgcaa", sum := "89d3fed915f42e6cf547d79c7f94f4d1266ebd5c433d7e3bbe427a88d4f4cf9a", func := "mallow/mallowlaw7.PackMerges", spec := "packMerges", apart := false }
def PackMergesSaid : Prop := packMergesRow.holds Try.pinned (OpenSpec.ofChange packMergesSpec)

/-- ITS FALSE NEIGHBOUR: 'it returns false'. Refute it at one input. -/
def packMergesWrong : ChangeSpec := { name := "packMerges", fn := fun _ => fun
  | [d1, d2, d3] => { results := [.lit (.bool false)], args := [d1, d2, d3] }
  | _ => none }
def PackMergesWrongFalsely : Prop := packMergesRow.holds Try.pinned (OpenSpec.ofChange packMergesWrong)

/-- 'mallowlaw7.PackThree': WHATEVER THE INPUT: true; the input reads as it did. -/
def packThreeSpec : ChangeSpec := { name := "packThree", fn := fun _ => fun
  | [d1, d2, d3] => { results := [.lit (.bool true)], args := [d1, d2, d3] }
  | _ => none }
def packThreeRow : OpenClaim := { program := "ytbfnadfbanhgcaa", sum := "89d3fed915f42e6cf547d79c7f94f4d1266ebd5c433d7e3bbe427a88d4f4cf9a", func := "mallow/mallowlaw7.PackThree", spec := "packThree", apart := false }
def PackThreeSaid : Prop := packThreeRow.holds Try.pinned (OpenSpec.ofChange packThreeSpec)

/-- ITS FALSE NEIGHBOUR: 'it returns false'. Refute it at one input. -/
def packThreeWrong : ChangeSpec := { name := "packThree", fn := fun _ => fun
  | [d1, d2, d3] => { results := [.lit (.bool false)], args := [d1, d2, d3] }
  | _ => none }
def PackThreeWrongFalsely : Prop := packThreeRow.holds Try.pinned (OpenSpec.ofChange packThreeWrong)

/-- 'mallowlaw7.PackWhole': WHATEVER THE INPUT: true; the input reads as it did. -/
def packWholeSpec : ChangeSpec := { name := "packWhole", fn := fun _ => fun
  | [d1, d2, d3] => { results := [.lit (.bool true)], args := [d1, d2, d3] }
  | _ => none }
def packWholeRow : OpenClaim := { program := "ytbfnadfbanhgcaa", sum := "89d3fed915f42e6cf547d79c7f94f4d1266ebd5c433d7e3bbe427a88d4f4cf9a", func := "mallow/mallowlaw7.PackWhole", spec := "packWhole", apart := false }
def PackWholeSaid : Prop := packWholeRow.holds Try.pinned (OpenSpec.ofChange packWholeSpec)

/-- ITS FALSE NEIGHBOUR: 'it returns false'. Refute it at one input. -/
def packWholeWrong : ChangeSpec := { name := "packWhole", fn := fun _ => fun
  | [d1, d2, d3] => { results := [.lit (.bool false)], args := [d1, d2, d3] }
  | _ => none }
def PackWholeWrongFalsely : Prop := packWholeRow.holds Try.pinned (OpenSpec.ofChange packWholeWrong)

/-- 'mallowlaw7.PackFewer': WHATEVER THE INPUT: true; the input reads as it did. -/
def packFewerSpec : ChangeSpec := { name := "packFewer", fn := fun _ => fun
  | [d1, d2, d3, d4] => { results := [.lit (.bool true)], args := [d1, d2, d3, d4] }
  | _ => none }
def packFewerRow : OpenClaim := { program := "ytbfnadfbanhgcaa", sum := "89d3fed915f42e6cf547d79c7f94f4d1266ebd5c433d7e3bbe427a88d4f4cf9a", func := "mallow/mallowlaw7.PackFewer", spec := "packFewer", apart := false }
def PackFewerSaid : Prop := packFewerRow.holds Try.pinned (OpenSpec.ofChange packFewerSpec)

/-- ITS FALSE NEIGHBOUR: 'it returns false'. Refute it at one input. -/
def packFewerWrong : ChangeSpec := { name := "packFewer", fn := fun _ => fun
  | [d1, d2, d3, d4] => { results := [.lit (.bool false)], args := [d1, d2, d3, d4] }
  | _ => none }
def PackFewerWrongFalsely : Prop := packFewerRow.holds Try.pinned (OpenSpec.ofChange packFewerWrong)

/-- 'mallowlaw7.PackWords': WHATEVER THE INPUT: true; the input reads as it did. -/
def packWordsSpec : ChangeSpec := { name := "packWords", fn := fun _ => fun
  | [d1, d2] => { results := [.lit (.bool true)], args := [d1, d2] }
  | _ => none }
def packWordsRow : OpenClaim := { program := "ytbfnadfbanhgcaa", sum := "89d3fed915f42e6cf547d79c7f94f4d1266ebd5c433d7e3bbe427a88d4f4cf9a", func := "mallow/mallowlaw7.PackWords", spec := "packWords", apart := false }
def PackWordsSaid : Prop := packWordsRow.holds Try.pinned (OpenSpec.ofChange packWordsSpec)

/-- ITS FALSE NEIGHBOUR: 'it returns false'. Refute it at one input. -/
def packWordsWrong : ChangeSpec := { name := "packWords", fn := fun _ => fun
  | [d1, d2] => { results := [.lit (.bool false)], args := [d1, d2] }
  | _ => none }
def PackWordsWrongFalsely : Prop := packWordsRow.holds Try.pinned (OpenSpec.ofChange packWordsWrong)

/-- 'mallowlaw7.PackBack': WHATEVER THE INPUT: true; the input reads as it did. -/
def packBackSpec : ChangeSpec := { name := "packBack", fn := fun _ => fun
  | [d1, d2] => { results := [.lit (.bool true)], args := [d1, d2] }
  | _ => none }
def packBackRow : OpenClaim := { program := "ytbfnadfbanhgcaa", sum := "89d3fed915f42e6cf547d79c7f94f4d1266ebd5c433d7e3bbe427a88d4f4cf9a", func := "mallow/mallowlaw7.PackBack", spec := "packBack", apart := false }
def PackBackSaid : Prop := packBackRow.holds Try.pinned (OpenSpec.ofChange packBackSpec)

/-- ITS FALSE NEIGHBOUR: 'it returns false'. Refute it at one input. -/
def packBackWrong : ChangeSpec := { name := "packBack", fn := fun _ => fun
  | [d1, d2] => { results := [.lit (.bool false)], args := [d1, d2] }
  | _ => none }
def PackBackWrongFalsely : Prop := packBackRow.holds Try.pinned (OpenSpec.ofChange packBackWrong)

/-- 'mallowlaw7.PackRows': WHATEVER THE INPUT: true; the input reads as it did. -/
def packRowsSpec : ChangeSpec := { name := "packRows", fn := fun _ => fun
  | [d1, d2, d3, d4] => { results := [.lit (.bool true)], args := [d1, d2, d3, d4] }
  | _ => none }
def packRowsRow : OpenClaim := { program := "ytbfnadfbanhgcaa", sum := "89d3fed915f42e6cf547d79c7f94f4d1266ebd5c433d7e3bbe427a88d4f4cf9a", func := "mallow/mallowlaw7.PackRows", spec := "packRows", apart := false }
def PackRowsSaid : Prop := packRowsRow.holds Try.pinned (OpenSpec.ofChange packRowsSpec)

/-- ITS FALSE NEIGHBOUR: 'it returns false'. Refute it at one input. -/
def packRowsWrong : ChangeSpec := { name := "packRows", fn := fun _ => fun
  | [d1, d2, d3, d4] => { results := [.lit (.bool false)], args := [d1, d2, d3, d4] }
  | _ => none }
def PackRowsWrongFalsely : Prop := packRowsRow.holds Try.pinned (OpenSpec.ofChange packRowsWrong)

/- THE SECOND FORM. 'bulk': how many values and letters a reading holds, each counted each time it is reached (what is shared counts as often as it is met; a slice's spare places count too). A statement '..UptoSaid' is the law's where the arguments, and the package variables that the reading takes, are together of bulk at most 1048576: NARROWER than '..Said'. Prove '..Said' where nothing that the law and all that it calls make is longer than what came in: it says more and counts as full. Else prove '..UptoSaid'. A law counts once. -/
mutual
def uptoBulk {H : Type} : DataW H → Nat
  | .lit (.string bytes) => bytes.length + 1
  | .lit _ => 1
  | .nil => 1
  | .ptr d => uptoBulk d + 1
  | .slice elems spare => uptoBulkAll elems + uptoBulkAll spare + 1
  | .agg parts => uptoBulkAll parts + 1
  | .iface _ d => uptoBulk d + 1
  | .map entries => uptoBulkEntries entries + 1
  | .held _ => 1
def uptoBulkAll {H : Type} : List (DataW H) → Nat
  | [] => 0
  | d :: r => uptoBulk d + uptoBulkAll r
def uptoBulkEntries {H : Type} : List (Lit × DataW H) → Nat
  | [] => 0
  | x :: r => uptoBulkEntry x + uptoBulkEntries r
def uptoBulkEntry {H : Type} : Lit × DataW H → Nat
  | (.string bytes, d) => bytes.length + uptoBulk d + 1
  | (_, d) => uptoBulk d + 1
 end
def uptoSmall : (H : Type) → List (DataW H) → Bool := fun _ ds => decide (uptoBulkAll ds ≤ 1048576)
def OpenSpec.upto (s : _root_.Go.ChangeSpec) : _root_.Go.OpenSpec := { _root_.Go.OpenSpec.ofChange s with cond := some uptoSmall }

/-- 'mallowlaw7.PackMerges', WHERE WHAT IT READS IS OF BULK AT MOST 1048576: true; the input reads as it did. -/
def packMergesUptoRow : OpenClaim := { program := "ytbfnadfbanhgcaa", sum := "89d3fed915f42e6cf547d79c7f94f4d1266ebd5c433d7e3bbe427a88d4f4cf9a", func := "mallow/mallowlaw7.PackMerges", spec := "packMerges", apart := false, narrowed := true }
def PackMergesUptoSaid : Prop := packMergesUptoRow.holds Try.pinned (OpenSpec.upto packMergesSpec)

/-- 'mallowlaw7.PackThree', WHERE WHAT IT READS IS OF BULK AT MOST 1048576: true; the input reads as it did. -/
def packThreeUptoRow : OpenClaim := { program := "ytbfnadfbanhgcaa", sum := "89d3fed915f42e6cf547d79c7f94f4d1266ebd5c433d7e3bbe427a88d4f4cf9a", func := "mallow/mallowlaw7.PackThree", spec := "packThree", apart := false, narrowed := true }
def PackThreeUptoSaid : Prop := packThreeUptoRow.holds Try.pinned (OpenSpec.upto packThreeSpec)

/-- 'mallowlaw7.PackWhole', WHERE WHAT IT READS IS OF BULK AT MOST 1048576: true; the input reads as it did. -/
def packWholeUptoRow : OpenClaim := { program := "ytbfnadfbanhgcaa", sum := "89d3fed915f42e6cf547d79c7f94f4d1266ebd5c433d7e3bbe427a88d4f4cf9a", func := "mallow/mallowlaw7.PackWhole", spec := "packWhole", apart := false, narrowed := true }
def PackWholeUptoSaid : Prop := packWholeUptoRow.holds Try.pinned (OpenSpec.upto packWholeSpec)

/-- 'mallowlaw7.PackFewer', WHERE WHAT IT READS IS OF BULK AT MOST 1048576: true; the input reads as it did. -/
def packFewerUptoRow : OpenClaim := { program := "ytbfnadfbanhgcaa", sum := "89d3fed915f42e6cf547d79c7f94f4d1266ebd5c433d7e3bbe427a88d4f4cf9a", func := "mallow/mallowlaw7.PackFewer", spec := "packFewer", apart := false, narrowed := true }
def PackFewerUptoSaid : Prop := packFewerUptoRow.holds Try.pinned (OpenSpec.upto packFewerSpec)

/-- 'mallowlaw7.PackWords', WHERE WHAT IT READS IS OF BULK AT MOST 1048576: true; the input reads as it did. -/
def packWordsUptoRow : OpenClaim := { program := "ytbfnadfbanhgcaa", sum := "89d3fed915f42e6cf547d79c7f94f4d1266ebd5c433d7e3bbe427a88d4f4cf9a", func := "mallow/mallowlaw7.PackWords", spec := "packWords", apart := false, narrowed := true }
def PackWordsUptoSaid : Prop := packWordsUptoRow.holds Try.pinned (OpenSpec.upto packWordsSpec)

/-- 'mallowlaw7.PackBack', WHERE WHAT IT READS IS OF BULK AT MOST 1048576: true; the input reads as it did. -/
def packBackUptoRow : OpenClaim := { program := "ytbfnadfbanhgcaa", sum := "89d3fed915f42e6cf547d79c7f94f4d1266ebd5c433d7e3bbe427a88d4f4cf9a", func := "mallow/mallowlaw7.PackBack", spec := "packBack", apart := false, narrowed := true }
def PackBackUptoSaid : Prop := packBackUptoRow.holds Try.pinned (OpenSpec.upto packBackSpec)

/-- 'mallowlaw7.PackRows', WHERE WHAT IT READS IS OF BULK AT MOST 1048576: true; the input reads as it did. -/
def packRowsUptoRow : OpenClaim := { program := "ytbfnadfbanhgcaa", sum := "89d3fed915f42e6cf547d79c7f94f4d1266ebd5c433d7e3bbe427a88d4f4cf9a", func := "mallow/mallowlaw7.PackRows", spec := "packRows", apart := false, narrowed := true }
def PackRowsUptoSaid : Prop := packRowsUptoRow.holds Try.pinned (OpenSpec.upto packRowsSpec)

end Rows
end Go.Proofs.Ytbfnadfbanhgcaa
