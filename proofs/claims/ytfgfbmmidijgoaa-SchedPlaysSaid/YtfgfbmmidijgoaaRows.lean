/-
  No cell of these rows narrows 'for every input' (looked for: loops, veiled, ifaces, maps, wideKeys, modest, calm, conditions, laid).
  DERIVED. THE GIVEN ROWS OF THIS SEAT. 8 by the template 'for every input the law returns true; each argument reads behind the call as it read before'; 0 by the template 'total and deterministic' (their statements: YtfgfbmmidijgoaaTotals.lean).
  GIVEN WITH THE SEED: the statements are not yours to turn. If you find one false, say at which input.
  Laid BY PROGRAM, IN A SANDBOX (cutbox-rows.mjs): the forced cells as the released guide's own fill.sh prints them over the translation f5c03bcfbb1ae6b8… (all of the seat's roots in one cut). By AI agents, Wed Nov 11 2026. No macro, syntax, notation, axiom, sorry.
-/
import Derived.Test.YtfgfbmmidijgoaaChecked
import GoSem.Claim
import GoSem.ClaimJoined
import GoSem.ClaimMapViews
import Derived.JoinedTies
import Derived.KernelRfl
namespace Go.Proofs.Ytfgfbmmidijgoaa
/- THE CELL 'sum', in the pinned program and in every row, IS THE sha256 OF THE DUMP (.gsa) THAT YtfgfbmmidijgoaaProg.lean LOADS. Nothing in Lean hashes anything: it is a label: what it is worth is what the hold of that sum in a sandbox is worth. -/
noncomputable def Try.pinned : Pinned := { name := "ytfgfbmmidijgoaa", sum := "f5c03bcfbb1ae6b8cefd1bc4da2f081c2dc196c62edc19488cef5bc9178aa26f", checked := Try.checked }
namespace Rows
def none {H : Type} : Left H := { results := [], args := [] }

/-- 'mallowlaw4.SchedLong': WHATEVER THE INPUT: true; the input reads as it did. -/
def schedLongSpec : ChangeSpec := { name := "schedLong", fn := fun _ => fun
  | [d1, d2] => { results := [.lit (.bool true)], args := [d1, d2] }
  | _ => none }
def schedLongRow : OpenClaim := { program := "ytfgfbmmidijgoaa", sum := "f5c03bcfbb1ae6b8cefd1bc4da2f081c2dc196c62edc19488cef5bc9178aa26f", func := "mallow/mallowlaw4.SchedLong", spec := "schedLong", unfollowed := true, recurses := true, apart := false }
def SchedLongSaid : Prop := schedLongRow.holds Try.pinned (OpenSpec.ofChange schedLongSpec)

/-- ITS FALSE NEIGHBOUR: 'it returns false'. Refute it at one input. -/
def schedLongWrong : ChangeSpec := { name := "schedLong", fn := fun _ => fun
  | [d1, d2] => { results := [.lit (.bool false)], args := [d1, d2] }
  | _ => none }
def SchedLongWrongFalsely : Prop := schedLongRow.holds Try.pinned (OpenSpec.ofChange schedLongWrong)

/-- 'mallowlaw4.SchedFair': WHATEVER THE INPUT: true; the input reads as it did. -/
def schedFairSpec : ChangeSpec := { name := "schedFair", fn := fun _ => fun
  | [d] => { results := [.lit (.bool true)], args := [d] }
  | _ => none }
def schedFairRow : OpenClaim := { program := "ytfgfbmmidijgoaa", sum := "f5c03bcfbb1ae6b8cefd1bc4da2f081c2dc196c62edc19488cef5bc9178aa26f", func := "mallow/mallowlaw4.SchedFair", spec := "schedFair", unfollowed := true, recurses := true, apart := false }
def SchedFairSaid : Prop := schedFairRow.holds Try.pinned (OpenSpec.ofChange schedFairSpec)

/-- ITS FALSE NEIGHBOUR: 'it returns false'. Refute it at one input. -/
def schedFairWrong : ChangeSpec := { name := "schedFair", fn := fun _ => fun
  | [d] => { results := [.lit (.bool false)], args := [d] }
  | _ => none }
def SchedFairWrongFalsely : Prop := schedFairRow.holds Try.pinned (OpenSpec.ofChange schedFairWrong)

/-- 'mallowlaw4.SchedAlone': WHATEVER THE INPUT: true; the input reads as it did. -/
def schedAloneSpec : ChangeSpec := { name := "schedAlone", fn := fun _ => fun
  | [d1, d2] => { results := [.lit (.bool true)], args := [d1, d2] }
  | _ => none }
def schedAloneRow : OpenClaim := { program := "ytfgfbmmidijgoaa", sum := "f5c03bcfbb1ae6b8cefd1bc4da2f081c2dc196c62edc19488cef5bc9178aa26f", func := "mallow/mallowlaw4.SchedAlone", spec := "schedAlone", unfollowed := true, recurses := true, apart := false }
def SchedAloneSaid : Prop := schedAloneRow.holds Try.pinned (OpenSpec.ofChange schedAloneSpec)

/-- ITS FALSE NEIGHBOUR: 'it returns false'. Refute it at one input. -/
def schedAloneWrong : ChangeSpec := { name := "schedAlone", fn := fun _ => fun
  | [d1, d2] => { results := [.lit (.bool false)], args := [d1, d2] }
  | _ => none }
def SchedAloneWrongFalsely : Prop := schedAloneRow.holds Try.pinned (OpenSpec.ofChange schedAloneWrong)

/-- 'mallowlaw4.SchedCells': WHATEVER THE INPUT: true; the input reads as it did. -/
def schedCellsSpec : ChangeSpec := { name := "schedCells", fn := fun _ => fun
  | [d1, d2] => { results := [.lit (.bool true)], args := [d1, d2] }
  | _ => none }
def schedCellsRow : OpenClaim := { program := "ytfgfbmmidijgoaa", sum := "f5c03bcfbb1ae6b8cefd1bc4da2f081c2dc196c62edc19488cef5bc9178aa26f", func := "mallow/mallowlaw4.SchedCells", spec := "schedCells", unfollowed := true, recurses := true, apart := false }
def SchedCellsSaid : Prop := schedCellsRow.holds Try.pinned (OpenSpec.ofChange schedCellsSpec)

/-- ITS FALSE NEIGHBOUR: 'it returns false'. Refute it at one input. -/
def schedCellsWrong : ChangeSpec := { name := "schedCells", fn := fun _ => fun
  | [d1, d2] => { results := [.lit (.bool false)], args := [d1, d2] }
  | _ => none }
def SchedCellsWrongFalsely : Prop := schedCellsRow.holds Try.pinned (OpenSpec.ofChange schedCellsWrong)

/-- 'mallowlaw4.SchedStuck': WHATEVER THE INPUT: true; the input reads as it did. -/
def schedStuckSpec : ChangeSpec := { name := "schedStuck", fn := fun _ => fun
  | [d] => { results := [.lit (.bool true)], args := [d] }
  | _ => none }
def schedStuckRow : OpenClaim := { program := "ytfgfbmmidijgoaa", sum := "f5c03bcfbb1ae6b8cefd1bc4da2f081c2dc196c62edc19488cef5bc9178aa26f", func := "mallow/mallowlaw4.SchedStuck", spec := "schedStuck", unfollowed := true, recurses := true, apart := false }
def SchedStuckSaid : Prop := schedStuckRow.holds Try.pinned (OpenSpec.ofChange schedStuckSpec)

/-- ITS FALSE NEIGHBOUR: 'it returns false'. Refute it at one input. -/
def schedStuckWrong : ChangeSpec := { name := "schedStuck", fn := fun _ => fun
  | [d] => { results := [.lit (.bool false)], args := [d] }
  | _ => none }
def SchedStuckWrongFalsely : Prop := schedStuckRow.holds Try.pinned (OpenSpec.ofChange schedStuckWrong)

/-- 'mallowlaw4.SchedGoes': WHATEVER THE INPUT: true; the input reads as it did. -/
def schedGoesSpec : ChangeSpec := { name := "schedGoes", fn := fun _ => fun
  | [d1, d2, d3] => { results := [.lit (.bool true)], args := [d1, d2, d3] }
  | _ => none }
def schedGoesRow : OpenClaim := { program := "ytfgfbmmidijgoaa", sum := "f5c03bcfbb1ae6b8cefd1bc4da2f081c2dc196c62edc19488cef5bc9178aa26f", func := "mallow/mallowlaw4.SchedGoes", spec := "schedGoes", unfollowed := true, recurses := true, apart := false }
def SchedGoesSaid : Prop := schedGoesRow.holds Try.pinned (OpenSpec.ofChange schedGoesSpec)

/-- ITS FALSE NEIGHBOUR: 'it returns false'. Refute it at one input. -/
def schedGoesWrong : ChangeSpec := { name := "schedGoes", fn := fun _ => fun
  | [d1, d2, d3] => { results := [.lit (.bool false)], args := [d1, d2, d3] }
  | _ => none }
def SchedGoesWrongFalsely : Prop := schedGoesRow.holds Try.pinned (OpenSpec.ofChange schedGoesWrong)

/-- 'mallowlaw4.SchedEnds': WHATEVER THE INPUT: true; the input reads as it did. -/
def schedEndsSpec : ChangeSpec := { name := "schedEnds", fn := fun _ => fun
  | [d1, d2] => { results := [.lit (.bool true)], args := [d1, d2] }
  | _ => none }
def schedEndsRow : OpenClaim := { program := "ytfgfbmmidijgoaa", sum := "f5c03bcfbb1ae6b8cefd1bc4da2f081c2dc196c62edc19488cef5bc9178aa26f", func := "mallow/mallowlaw4.SchedEnds", spec := "schedEnds", unfollowed := true, recurses := true, apart := false }
def SchedEndsSaid : Prop := schedEndsRow.holds Try.pinned (OpenSpec.ofChange schedEndsSpec)

/-- ITS FALSE NEIGHBOUR: 'it returns false'. Refute it at one input. -/
def schedEndsWrong : ChangeSpec := { name := "schedEnds", fn := fun _ => fun
  | [d1, d2] => { results := [.lit (.bool false)], args := [d1, d2] }
  | _ => none }
def SchedEndsWrongFalsely : Prop := schedEndsRow.holds Try.pinned (OpenSpec.ofChange schedEndsWrong)

/-- 'mallowlaw4.SchedPlays': WHATEVER THE INPUT: true; the input reads as it did. -/
def schedPlaysSpec : ChangeSpec := { name := "schedPlays", fn := fun _ => fun
  | [d1, d2, d3, d4] => { results := [.lit (.bool true)], args := [d1, d2, d3, d4] }
  | _ => none }
def schedPlaysRow : OpenClaim := { program := "ytfgfbmmidijgoaa", sum := "f5c03bcfbb1ae6b8cefd1bc4da2f081c2dc196c62edc19488cef5bc9178aa26f", func := "mallow/mallowlaw4.SchedPlays", spec := "schedPlays", unfollowed := true, recurses := true, apart := false }
def SchedPlaysSaid : Prop := schedPlaysRow.holds Try.pinned (OpenSpec.ofChange schedPlaysSpec)

/-- ITS FALSE NEIGHBOUR: 'it returns false'. Refute it at one input. -/
def schedPlaysWrong : ChangeSpec := { name := "schedPlays", fn := fun _ => fun
  | [d1, d2, d3, d4] => { results := [.lit (.bool false)], args := [d1, d2, d3, d4] }
  | _ => none }
def SchedPlaysWrongFalsely : Prop := schedPlaysRow.holds Try.pinned (OpenSpec.ofChange schedPlaysWrong)

/- THE SECOND FORM. 'bulk': how many values and letters a reading holds, each counted each time it is reached (what is shared counts as often as it is met; a slice's spare places count too). A statement '..UptoSaid' is the law's where the arguments, and the package variables that the reading takes, are together of bulk at most 1048576: NARROWER than '..Said'. Prove '..Said' where nothing that the law and all that it calls make is longer than what came in: it says more and counts as full. Else prove '..UptoSaid'. A law counts once. -/
mutual
def uptoBulk {H : Type} : DataW H → Nat
  | .lit (.string bytes) => bytes.length + 1
  | .lit _ => 1
  | .nil => 1
  | .ptr d => uptoBulk d + 1
  | .slice elems spare => uptoBulkAll elems + uptoBulkAll spare + 1
  | .agg parts => uptoBulkAll parts + 1
  | .iface _ d => uptoBulk d + 1
  | .map entries => uptoBulkEntries entries + 1
  | .held _ => 1
def uptoBulkAll {H : Type} : List (DataW H) → Nat
  | [] => 0
  | d :: r => uptoBulk d + uptoBulkAll r
def uptoBulkEntries {H : Type} : List (Lit × DataW H) → Nat
  | [] => 0
  | x :: r => uptoBulkEntry x + uptoBulkEntries r
def uptoBulkEntry {H : Type} : Lit × DataW H → Nat
  | (.string bytes, d) => bytes.length + uptoBulk d + 1
  | (_, d) => uptoBulk d + 1
 end
def uptoSmall : (H : Type) → List (DataW H) → Bool := fun _ ds => decide (uptoBulkAll ds ≤ 1048576)
def OpenSpec.upto (s : _root_.Go.ChangeSpec) : _root_.Go.OpenSpec := { _root_.Go.OpenSpec.ofChange s with cond := some uptoSmall }

/-- 'mallowlaw4.SchedLong', WHERE WHAT IT READS IS OF BULK AT MOST 1048576: true; the input reads as it did. -/
def schedLongUptoRow : OpenClaim := { program := "ytfgfbmmidijgoaa", sum := "f5c03bcfbb1ae6b8cefd1bc4da2f081c2dc196c62edc19488cef5bc9178aa26f", func := "mallow/mallowlaw4.SchedLong", spec := "schedLong", unfollowed := true, recurses := true, apart := false, narrowed := true }
def SchedLongUptoSaid : Prop := schedLongUptoRow.holds Try.pinned (OpenSpec.upto schedLongSpec)

/-- 'mallowlaw4.SchedFair', WHERE WHAT IT READS IS OF BULK AT MOST 1048576: true; the input reads as it did. -/
def schedFairUptoRow : OpenClaim := { program := "ytfgfbmmidijgoaa", sum := "f5c03bcfbb1ae6b8cefd1bc4da2f081c2dc196c62edc19488cef5bc9178aa26f", func := "mallow/mallowlaw4.SchedFair", spec := "schedFair", unfollowed := true, recurses := true, apart := false, narrowed := true }
def SchedFairUptoSaid : Prop := schedFairUptoRow.holds Try.pinned (OpenSpec.upto schedFairSpec)

/-- 'mallowlaw4.SchedAlone', WHERE WHAT IT READS IS OF BULK AT MOST 1048576: true; the input reads as it did. -/
def schedAloneUptoRow : OpenClaim := { program := "ytfgfbmmidijgoaa", sum := "f5c03bcfbb1ae6b8cefd1bc4da2f081c2dc196c62edc19488cef5bc9178aa26f", func := "mallow/mallowlaw4.SchedAlone", spec := "schedAlone", unfollowed := true, recurses := true, apart := false, narrowed := true }
def SchedAloneUptoSaid : Prop := schedAloneUptoRow.holds Try.pinned (OpenSpec.upto schedAloneSpec)

/-- 'mallowlaw4.SchedCells', WHERE WHAT IT READS IS OF BULK AT MOST 1048576: true; the input reads as it did. -/
def schedCellsUptoRow : OpenClaim := { program := "ytfgfbmmidijgoaa", sum := "f5c03bcfbb1ae6b8cefd1bc4da2f081c2dc196c62edc19488cef5bc9178aa26f", func := "mallow/mallowlaw4.SchedCells", spec := "schedCells", unfollowed := true, recurses := true, apart := false, narrowed := true }
def SchedCellsUptoSaid : Prop := schedCellsUptoRow.holds Try.pinned (OpenSpec.upto schedCellsSpec)

/-- 'mallowlaw4.SchedStuck', WHERE WHAT IT READS IS OF BULK AT MOST 1048576: true; the input reads as it did. -/
def schedStuckUptoRow : OpenClaim := { program := "ytfgfbmmidijgoaa", sum := "f5c03bcfbb1ae6b8cefd1bc4da2f081c2dc196c62edc19488cef5bc9178aa26f", func := "mallow/mallowlaw4.SchedStuck", spec := "schedStuck", unfollowed := true, recurses := true, apart := false, narrowed := true }
def SchedStuckUptoSaid : Prop := schedStuckUptoRow.holds Try.pinned (OpenSpec.upto schedStuckSpec)

/-- 'mallowlaw4.SchedGoes', WHERE WHAT IT READS IS OF BULK AT MOST 1048576: true; the input reads as it did. -/
def schedGoesUptoRow : OpenClaim := { program := "ytfgfbmmidijgoaa", sum := "f5c03bcfbb1ae6b8cefd1bc4da2f081c2dc196c62edc19488cef5bc9178aa26f", func := "mallow/mallowlaw4.SchedGoes", spec := "schedGoes", unfollowed := true, recurses := true, apart := false, narrowed := true }
def SchedGoesUptoSaid : Prop := schedGoesUptoRow.holds Try.pinned (OpenSpec.upto schedGoesSpec)

/-- 'mallowlaw4.SchedEnds', WHERE WHAT IT READS IS OF BULK AT MOST 1048576: true; the input reads as it did. -/
def schedEndsUptoRow : OpenClaim := { program := "ytfgfbmmidijgoaa", sum := "f5c03bcfbb1ae6b8cefd1bc4da2f081c2dc196c62edc19488cef5bc9178aa26f", func := "mallow/mallowlaw4.SchedEnds", spec := "schedEnds", unfollowed := true, recurses := true, apart := false, narrowed := true }
def SchedEndsUptoSaid : Prop := schedEndsUptoRow.holds Try.pinned (OpenSpec.upto schedEndsSpec)

/-- 'mallowlaw4.SchedPlays', WHERE WHAT IT READS IS OF BULK AT MOST 1048576: true; the input reads as it did. -/
def schedPlaysUptoRow : OpenClaim := { program := "ytfgfbmmidijgoaa", sum := "f5c03bcfbb1ae6b8cefd1bc4da2f081c2dc196c62edc19488cef5bc9178aa26f", func := "mallow/mallowlaw4.SchedPlays", spec := "schedPlays", unfollowed := true, recurses := true, apart := false, narrowed := true }
def SchedPlaysUptoSaid : Prop := schedPlaysUptoRow.holds Try.pinned (OpenSpec.upto schedPlaysSpec)

end Rows
end Go.Proofs.Ytfgfbmmidijgoaa
