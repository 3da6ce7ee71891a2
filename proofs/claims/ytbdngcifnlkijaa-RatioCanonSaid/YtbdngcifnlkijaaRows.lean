/-
  No cell of these rows narrows 'for every input' (looked for: loops, veiled, ifaces, maps, wideKeys, modest, calm, conditions, laid).
  DERIVED. THE GIVEN ROWS OF THIS SEAT. 11 by the template 'for every input the law returns true; each argument reads behind the call as it read before'; 0 by the template 'total and deterministic' (their statements: YtbdngcifnlkijaaTotals.lean).
  GIVEN WITH THE SEED: the statements are not yours to turn. If you find one false, say at which input.
  Laid BY PROGRAM, IN A SANDBOX (cutbox-rows.mjs): the forced cells as the released guide's own fill.sh prints them over the translation 501001736e16856e… (all of the seat's roots in one cut). By AI agents, Wed Nov 11 2026. No macro, syntax, notation, axiom, sorry.
-/
import Derived.Test.YtbdngcifnlkijaaChecked
import GoSem.Claim
import GoSem.ClaimJoined
import GoSem.ClaimMapViews
import Derived.JoinedTies
import Derived.KernelRfl
namespace Go.Proofs.Ytbdngcifnlkijaa
/- THE CELL 'sum', in the pinned program and in every row, IS THE sha256 OF THE DUMP (.gsa) THAT YtbdngcifnlkijaaProg.lean LOADS. Nothing in Lean hashes anything: it is a label: what it is worth is what the hold of that sum in a sandbox is worth. -/
noncomputable def Try.pinned : Pinned := { name := "ytbdngcifnlkijaa", sum := "501001736e16856ef71232abea85a02661c31df1c4bd66ae61c458045e9f660b", checked := Try.checked }
namespace Rows
def none {H : Type} : Left H := { results := [], args := [] }

/-- 'mallowlaw2.RatioOf': WHATEVER THE INPUT: true; the input reads as it did. -/
def ratioOfSpec : ChangeSpec := { name := "ratioOf", fn := fun _ => fun
  | [d1, d2, d3] => { results := [.lit (.bool true)], args := [d1, d2, d3] }
  | _ => none }
def ratioOfRow : OpenClaim := { program := "ytbdngcifnlkijaa", sum := "501001736e16856ef71232abea85a02661c31df1c4bd66ae61c458045e9f660b", func := "mallow/mallowlaw2.RatioOf", spec := "ratioOf", inPlace := ["math.Float64bits", "math.Float64frombits"], apart := false }
def RatioOfSaid : Prop := ratioOfRow.holds Try.pinned (OpenSpec.ofChange ratioOfSpec)

/-- ITS FALSE NEIGHBOUR: 'it returns false'. Refute it at one input. -/
def ratioOfWrong : ChangeSpec := { name := "ratioOf", fn := fun _ => fun
  | [d1, d2, d3] => { results := [.lit (.bool false)], args := [d1, d2, d3] }
  | _ => none }
def RatioOfWrongFalsely : Prop := ratioOfRow.holds Try.pinned (OpenSpec.ofChange ratioOfWrong)

/-- 'mallowlaw2.RatioEdges': WHATEVER THE INPUT: true; the input reads as it did. -/
def ratioEdgesSpec : ChangeSpec := { name := "ratioEdges", fn := fun _ => fun
  | [d1, d2] => { results := [.lit (.bool true)], args := [d1, d2] }
  | _ => none }
def ratioEdgesRow : OpenClaim := { program := "ytbdngcifnlkijaa", sum := "501001736e16856ef71232abea85a02661c31df1c4bd66ae61c458045e9f660b", func := "mallow/mallowlaw2.RatioEdges", spec := "ratioEdges", inPlace := ["math.Float64frombits", "math.Float64bits"], apart := false }
def RatioEdgesSaid : Prop := ratioEdgesRow.holds Try.pinned (OpenSpec.ofChange ratioEdgesSpec)

/-- ITS FALSE NEIGHBOUR: 'it returns false'. Refute it at one input. -/
def ratioEdgesWrong : ChangeSpec := { name := "ratioEdges", fn := fun _ => fun
  | [d1, d2] => { results := [.lit (.bool false)], args := [d1, d2] }
  | _ => none }
def RatioEdgesWrongFalsely : Prop := ratioEdgesRow.holds Try.pinned (OpenSpec.ofChange ratioEdgesWrong)

/-- 'mallowlaw2.RatioBack': WHATEVER THE INPUT: true; the input reads as it did. -/
def ratioBackSpec : ChangeSpec := { name := "ratioBack", fn := fun _ => fun
  | [d1, d2] => { results := [.lit (.bool true)], args := [d1, d2] }
  | _ => none }
def ratioBackRow : OpenClaim := { program := "ytbdngcifnlkijaa", sum := "501001736e16856ef71232abea85a02661c31df1c4bd66ae61c458045e9f660b", func := "mallow/mallowlaw2.RatioBack", spec := "ratioBack", inPlace := ["math.Float64bits", "math.Float64frombits"], apart := false }
def RatioBackSaid : Prop := ratioBackRow.holds Try.pinned (OpenSpec.ofChange ratioBackSpec)

/-- ITS FALSE NEIGHBOUR: 'it returns false'. Refute it at one input. -/
def ratioBackWrong : ChangeSpec := { name := "ratioBack", fn := fun _ => fun
  | [d1, d2] => { results := [.lit (.bool false)], args := [d1, d2] }
  | _ => none }
def RatioBackWrongFalsely : Prop := ratioBackRow.holds Try.pinned (OpenSpec.ofChange ratioBackWrong)

/-- 'mallowlaw2.RatioMixes': WHATEVER THE INPUT: true; the input reads as it did. -/
def ratioMixesSpec : ChangeSpec := { name := "ratioMixes", fn := fun _ => fun
  | [d1, d2, d3] => { results := [.lit (.bool true)], args := [d1, d2, d3] }
  | _ => none }
def ratioMixesRow : OpenClaim := { program := "ytbdngcifnlkijaa", sum := "501001736e16856ef71232abea85a02661c31df1c4bd66ae61c458045e9f660b", func := "mallow/mallowlaw2.RatioMixes", spec := "ratioMixes", inPlace := ["math.Float64frombits", "math.Float64bits"], apart := false }
def RatioMixesSaid : Prop := ratioMixesRow.holds Try.pinned (OpenSpec.ofChange ratioMixesSpec)

/-- ITS FALSE NEIGHBOUR: 'it returns false'. Refute it at one input. -/
def ratioMixesWrong : ChangeSpec := { name := "ratioMixes", fn := fun _ => fun
  | [d1, d2, d3] => { results := [.lit (.bool false)], args := [d1, d2, d3] }
  | _ => none }
def RatioMixesWrongFalsely : Prop := ratioMixesRow.holds Try.pinned (OpenSpec.ofChange ratioMixesWrong)

/-- 'mallowlaw2.RatioCanon': WHATEVER THE INPUT: true; the input reads as it did. -/
def ratioCanonSpec : ChangeSpec := { name := "ratioCanon", fn := fun _ => fun
  | [d1, d2, d3] => { results := [.lit (.bool true)], args := [d1, d2, d3] }
  | _ => none }
def ratioCanonRow : OpenClaim := { program := "ytbdngcifnlkijaa", sum := "501001736e16856ef71232abea85a02661c31df1c4bd66ae61c458045e9f660b", func := "mallow/mallowlaw2.RatioCanon", spec := "ratioCanon", inPlace := ["math.Float64bits", "math.Float64frombits"], apart := false }
def RatioCanonSaid : Prop := ratioCanonRow.holds Try.pinned (OpenSpec.ofChange ratioCanonSpec)

/-- ITS FALSE NEIGHBOUR: 'it returns false'. Refute it at one input. -/
def ratioCanonWrong : ChangeSpec := { name := "ratioCanon", fn := fun _ => fun
  | [d1, d2, d3] => { results := [.lit (.bool false)], args := [d1, d2, d3] }
  | _ => none }
def RatioCanonWrongFalsely : Prop := ratioCanonRow.holds Try.pinned (OpenSpec.ofChange ratioCanonWrong)

/-- 'mallowlaw2.RatioGrows': WHATEVER THE INPUT: true; the input reads as it did. -/
def ratioGrowsSpec : ChangeSpec := { name := "ratioGrows", fn := fun _ => fun
  | [d1, d2, d3, d4] => { results := [.lit (.bool true)], args := [d1, d2, d3, d4] }
  | _ => none }
def ratioGrowsRow : OpenClaim := { program := "ytbdngcifnlkijaa", sum := "501001736e16856ef71232abea85a02661c31df1c4bd66ae61c458045e9f660b", func := "mallow/mallowlaw2.RatioGrows", spec := "ratioGrows", inPlace := ["math.Float64frombits", "math.Float64bits", "math/bits.Add64"], apart := false }
def RatioGrowsSaid : Prop := ratioGrowsRow.holds Try.pinned (OpenSpec.ofChange ratioGrowsSpec)

/-- ITS FALSE NEIGHBOUR: 'it returns false'. Refute it at one input. -/
def ratioGrowsWrong : ChangeSpec := { name := "ratioGrows", fn := fun _ => fun
  | [d1, d2, d3, d4] => { results := [.lit (.bool false)], args := [d1, d2, d3, d4] }
  | _ => none }
def RatioGrowsWrongFalsely : Prop := ratioGrowsRow.holds Try.pinned (OpenSpec.ofChange ratioGrowsWrong)

/-- 'mallowlaw2.RatioGoals': WHATEVER THE INPUT: true; the input reads as it did. -/
def ratioGoalsSpec : ChangeSpec := { name := "ratioGoals", fn := fun _ => fun
  | [d1, d2, d3, d4] => { results := [.lit (.bool true)], args := [d1, d2, d3, d4] }
  | _ => none }
def ratioGoalsRow : OpenClaim := { program := "ytbdngcifnlkijaa", sum := "501001736e16856ef71232abea85a02661c31df1c4bd66ae61c458045e9f660b", func := "mallow/mallowlaw2.RatioGoals", spec := "ratioGoals", inPlace := ["math.Float64bits", "math.Float64frombits", "math/bits.Add64"], apart := false }
def RatioGoalsSaid : Prop := ratioGoalsRow.holds Try.pinned (OpenSpec.ofChange ratioGoalsSpec)

/-- ITS FALSE NEIGHBOUR: 'it returns false'. Refute it at one input. -/
def ratioGoalsWrong : ChangeSpec := { name := "ratioGoals", fn := fun _ => fun
  | [d1, d2, d3, d4] => { results := [.lit (.bool false)], args := [d1, d2, d3, d4] }
  | _ => none }
def RatioGoalsWrongFalsely : Prop := ratioGoalsRow.holds Try.pinned (OpenSpec.ofChange ratioGoalsWrong)

/-- 'mallowlaw2.RatioOrders': WHATEVER THE INPUT: true; the input reads as it did. -/
def ratioOrdersSpec : ChangeSpec := { name := "ratioOrders", fn := fun _ => fun
  | [d1, d2] => { results := [.lit (.bool true)], args := [d1, d2] }
  | _ => none }
def ratioOrdersRow : OpenClaim := { program := "ytbdngcifnlkijaa", sum := "501001736e16856ef71232abea85a02661c31df1c4bd66ae61c458045e9f660b", func := "mallow/mallowlaw2.RatioOrders", spec := "ratioOrders", inPlace := ["math.Float64frombits", "math.Float64bits"], apart := false }
def RatioOrdersSaid : Prop := ratioOrdersRow.holds Try.pinned (OpenSpec.ofChange ratioOrdersSpec)

/-- ITS FALSE NEIGHBOUR: 'it returns false'. Refute it at one input. -/
def ratioOrdersWrong : ChangeSpec := { name := "ratioOrders", fn := fun _ => fun
  | [d1, d2] => { results := [.lit (.bool false)], args := [d1, d2] }
  | _ => none }
def RatioOrdersWrongFalsely : Prop := ratioOrdersRow.holds Try.pinned (OpenSpec.ofChange ratioOrdersWrong)

/-- 'mallowlaw2.RatioThree': WHATEVER THE INPUT: true; the input reads as it did. -/
def ratioThreeSpec : ChangeSpec := { name := "ratioThree", fn := fun _ => fun
  | [d1, d2, d3] => { results := [.lit (.bool true)], args := [d1, d2, d3] }
  | _ => none }
def ratioThreeRow : OpenClaim := { program := "ytbdngcifnlkijaa", sum := "501001736e16856ef71232abea85a02661c31df1c4bd66ae61c458045e9f660b", func := "mallow/mallowlaw2.RatioThree", spec := "ratioThree", inPlace := ["math.Float64frombits", "math.Float64bits"], apart := false }
def RatioThreeSaid : Prop := ratioThreeRow.holds Try.pinned (OpenSpec.ofChange ratioThreeSpec)

/-- ITS FALSE NEIGHBOUR: 'it returns false'. Refute it at one input. -/
def ratioThreeWrong : ChangeSpec := { name := "ratioThree", fn := fun _ => fun
  | [d1, d2, d3] => { results := [.lit (.bool false)], args := [d1, d2, d3] }
  | _ => none }
def RatioThreeWrongFalsely : Prop := ratioThreeRow.holds Try.pinned (OpenSpec.ofChange ratioThreeWrong)

/-- 'mallowlaw2.RatioEven': WHATEVER THE INPUT: true; the input reads as it did. -/
def ratioEvenSpec : ChangeSpec := { name := "ratioEven", fn := fun _ => fun
  | [d1, d2] => { results := [.lit (.bool true)], args := [d1, d2] }
  | _ => none }
def ratioEvenRow : OpenClaim := { program := "ytbdngcifnlkijaa", sum := "501001736e16856ef71232abea85a02661c31df1c4bd66ae61c458045e9f660b", func := "mallow/mallowlaw2.RatioEven", spec := "ratioEven", inPlace := ["math.Float64frombits", "math.Float64bits"], apart := false }
def RatioEvenSaid : Prop := ratioEvenRow.holds Try.pinned (OpenSpec.ofChange ratioEvenSpec)

/-- ITS FALSE NEIGHBOUR: 'it returns false'. Refute it at one input. -/
def ratioEvenWrong : ChangeSpec := { name := "ratioEven", fn := fun _ => fun
  | [d1, d2] => { results := [.lit (.bool false)], args := [d1, d2] }
  | _ => none }
def RatioEvenWrongFalsely : Prop := ratioEvenRow.holds Try.pinned (OpenSpec.ofChange ratioEvenWrong)

/-- 'mallowlaw2.RatioDistance': WHATEVER THE INPUT: true; the input reads as it did. -/
def ratioDistanceSpec : ChangeSpec := { name := "ratioDistance", fn := fun _ => fun
  | [d1, d2, d3] => { results := [.lit (.bool true)], args := [d1, d2, d3] }
  | _ => none }
def ratioDistanceRow : OpenClaim := { program := "ytbdngcifnlkijaa", sum := "501001736e16856ef71232abea85a02661c31df1c4bd66ae61c458045e9f660b", func := "mallow/mallowlaw2.RatioDistance", spec := "ratioDistance", inPlace := ["math.Float64bits", "math.Float64frombits"], apart := false }
def RatioDistanceSaid : Prop := ratioDistanceRow.holds Try.pinned (OpenSpec.ofChange ratioDistanceSpec)

/-- ITS FALSE NEIGHBOUR: 'it returns false'. Refute it at one input. -/
def ratioDistanceWrong : ChangeSpec := { name := "ratioDistance", fn := fun _ => fun
  | [d1, d2, d3] => { results := [.lit (.bool false)], args := [d1, d2, d3] }
  | _ => none }
def RatioDistanceWrongFalsely : Prop := ratioDistanceRow.holds Try.pinned (OpenSpec.ofChange ratioDistanceWrong)

/- THE SECOND FORM. 'bulk': how many values and letters a reading holds, each counted each time it is reached (what is shared counts as often as it is met; a slice's spare places count too). A statement '..UptoSaid' is the law's where the arguments, and the package variables that the reading takes, are together of bulk at most 1048576: NARROWER than '..Said'. Prove '..Said' where nothing that the law and all that it calls make is longer than what came in: it says more and counts as full. Else prove '..UptoSaid'. A law counts once. -/
mutual
def uptoBulk {H : Type} : DataW H → Nat
  | .lit (.string bytes) => bytes.length + 1
  | .lit _ => 1
  | .nil => 1
  | .ptr d => uptoBulk d + 1
  | .slice elems spare => uptoBulkAll elems + uptoBulkAll spare + 1
  | .agg parts => uptoBulkAll parts + 1
  | .iface _ d => uptoBulk d + 1
  | .map entries => uptoBulkEntries entries + 1
  | .held _ => 1
def uptoBulkAll {H : Type} : List (DataW H) → Nat
  | [] => 0
  | d :: r => uptoBulk d + uptoBulkAll r
def uptoBulkEntries {H : Type} : List (Lit × DataW H) → Nat
  | [] => 0
  | x :: r => uptoBulkEntry x + uptoBulkEntries r
def uptoBulkEntry {H : Type} : Lit × DataW H → Nat
  | (.string bytes, d) => bytes.length + uptoBulk d + 1
  | (_, d) => uptoBulk d + 1
 end
def uptoSmall : (H : Type) → List (DataW H) → Bool := fun _ ds => decide (uptoBulkAll ds ≤ 1048576)
def OpenSpec.upto (s : _root_.Go.ChangeSpec) : _root_.Go.OpenSpec := { _root_.Go.OpenSpec.ofChange s with cond := some uptoSmall }

/-- 'mallowlaw2.RatioOf', WHERE WHAT IT READS IS OF BULK AT MOST 1048576: true; the input reads as it did. -/
def ratioOfUptoRow : OpenClaim := { program := "ytbdngcifnlkijaa", sum := "501001736e16856ef71232abea85a02661c31df1c4bd66ae61c458045e9f660b", func := "mallow/mallowlaw2.RatioOf", spec := "ratioOf", inPlace := ["math.Float64bits", "math.Float64frombits"], apart := false, narrowed := true }
def RatioOfUptoSaid : Prop := ratioOfUptoRow.holds Try.pinned (OpenSpec.upto ratioOfSpec)

/-- 'mallowlaw2.RatioEdges', WHERE WHAT IT READS IS OF BULK AT MOST 1048576: true; the input reads as it did. -/
def ratioEdgesUptoRow : OpenClaim := { program := "ytbdngcifnlkijaa", sum := "501001736e16856ef71232abea85a02661c31df1c4bd66ae61c458045e9f660b", func := "mallow/mallowlaw2.RatioEdges", spec := "ratioEdges", inPlace := ["math.Float64frombits", "math.Float64bits"], apart := false, narrowed := true }
def RatioEdgesUptoSaid : Prop := ratioEdgesUptoRow.holds Try.pinned (OpenSpec.upto ratioEdgesSpec)

/-- 'mallowlaw2.RatioBack', WHERE WHAT IT READS IS OF BULK AT MOST 1048576: true; the input reads as it did. -/
def ratioBackUptoRow : OpenClaim := { program := "ytbdngcifnlkijaa", sum := "501001736e16856ef71232abea85a02661c31df1c4bd66ae61c458045e9f660b", func := "mallow/mallowlaw2.RatioBack", spec := "ratioBack", inPlace := ["math.Float64bits", "math.Float64frombits"], apart := false, narrowed := true }
def RatioBackUptoSaid : Prop := ratioBackUptoRow.holds Try.pinned (OpenSpec.upto ratioBackSpec)

/-- 'mallowlaw2.RatioMixes', WHERE WHAT IT READS IS OF BULK AT MOST 1048576: true; the input reads as it did. -/
def ratioMixesUptoRow : OpenClaim := { program := "ytbdngcifnlkijaa", sum := "501001736e16856ef71232abea85a02661c31df1c4bd66ae61c458045e9f660b", func := "mallow/mallowlaw2.RatioMixes", spec := "ratioMixes", inPlace := ["math.Float64frombits", "math.Float64bits"], apart := false, narrowed := true }
def RatioMixesUptoSaid : Prop := ratioMixesUptoRow.holds Try.pinned (OpenSpec.upto ratioMixesSpec)

/-- 'mallowlaw2.RatioCanon', WHERE WHAT IT READS IS OF BULK AT MOST 1048576: true; the input reads as it did. -/
def ratioCanonUptoRow : OpenClaim := { program := "ytbdngcifnlkijaa", sum := "501001736e16856ef71232abea85a02661c31df1c4bd66ae61c458045e9f660b", func := "mallow/mallowlaw2.RatioCanon", spec := "ratioCanon", inPlace := ["math.Float64bits", "math.Float64frombits"], apart := false, narrowed := true }
def RatioCanonUptoSaid : Prop := ratioCanonUptoRow.holds Try.pinned (OpenSpec.upto ratioCanonSpec)

/-- 'mallowlaw2.RatioGrows', WHERE WHAT IT READS IS OF BULK AT MOST 1048576: true; the input reads as it did. -/
def ratioGrowsUptoRow : OpenClaim := { program := "ytbdngcifnlkijaa", sum := "501001736e16856ef71232abea85a02661c31df1c4bd66ae61c458045e9f660b", func := "mallow/mallowlaw2.RatioGrows", spec := "ratioGrows", inPlace := ["math.Float64frombits", "math.Float64bits", "math/bits.Add64"], apart := false, narrowed := true }
def RatioGrowsUptoSaid : Prop := ratioGrowsUptoRow.holds Try.pinned (OpenSpec.upto ratioGrowsSpec)

/-- 'mallowlaw2.RatioGoals', WHERE WHAT IT READS IS OF BULK AT MOST 1048576: true; the input reads as it did. -/
def ratioGoalsUptoRow : OpenClaim := { program := "ytbdngcifnlkijaa", sum := "501001736e16856ef71232abea85a02661c31df1c4bd66ae61c458045e9f660b", func := "mallow/mallowlaw2.RatioGoals", spec := "ratioGoals", inPlace := ["math.Float64bits", "math.Float64frombits", "math/bits.Add64"], apart := false, narrowed := true }
def RatioGoalsUptoSaid : Prop := ratioGoalsUptoRow.holds Try.pinned (OpenSpec.upto ratioGoalsSpec)

/-- 'mallowlaw2.RatioOrders', WHERE WHAT IT READS IS OF BULK AT MOST 1048576: true; the input reads as it did. -/
def ratioOrdersUptoRow : OpenClaim := { program := "ytbdngcifnlkijaa", sum := "501001736e16856ef71232abea85a02661c31df1c4bd66ae61c458045e9f660b", func := "mallow/mallowlaw2.RatioOrders", spec := "ratioOrders", inPlace := ["math.Float64frombits", "math.Float64bits"], apart := false, narrowed := true }
def RatioOrdersUptoSaid : Prop := ratioOrdersUptoRow.holds Try.pinned (OpenSpec.upto ratioOrdersSpec)

/-- 'mallowlaw2.RatioThree', WHERE WHAT IT READS IS OF BULK AT MOST 1048576: true; the input reads as it did. -/
def ratioThreeUptoRow : OpenClaim := { program := "ytbdngcifnlkijaa", sum := "501001736e16856ef71232abea85a02661c31df1c4bd66ae61c458045e9f660b", func := "mallow/mallowlaw2.RatioThree", spec := "ratioThree", inPlace := ["math.Float64frombits", "math.Float64bits"], apart := false, narrowed := true }
def RatioThreeUptoSaid : Prop := ratioThreeUptoRow.holds Try.pinned (OpenSpec.upto ratioThreeSpec)

/-- 'mallowlaw2.RatioEven', WHERE WHAT IT READS IS OF BULK AT MOST 1048576: true; the input reads as it did. -/
def ratioEvenUptoRow : OpenClaim := { program := "ytbdngcifnlkijaa", sum := "501001736e16856ef71232abea85a02661c31df1c4bd66ae61c458045e9f660b", func := "mallow/mallowlaw2.RatioEven", spec := "ratioEven", inPlace := ["math.Float64frombits", "math.Float64bits"], apart := false, narrowed := true }
def RatioEvenUptoSaid : Prop := ratioEvenUptoRow.holds Try.pinned (OpenSpec.upto ratioEvenSpec)

/-- 'mallowlaw2.RatioDistance', WHERE WHAT IT READS IS OF BULK AT MOST 1048576: true; the input reads as it did. -/
def ratioDistanceUptoRow : OpenClaim := { program := "ytbdngcifnlkijaa", sum := "501001736e16856ef71232abea85a02661c31df1c4bd66ae61c458045e9f660b", func := "mallow/mallowlaw2.RatioDistance", spec := "ratioDistance", inPlace := ["math.Float64bits", "math.Float64frombits"], apart := false, narrowed := true }
def RatioDistanceUptoSaid : Prop := ratioDistanceUptoRow.holds Try.pinned (OpenSpec.upto ratioDistanceSpec)

end Rows
end Go.Proofs.Ytbdngcifnlkijaa
