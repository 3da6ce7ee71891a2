/-
  No cell of these rows narrows 'for every input' (looked for: loops, veiled, ifaces, maps, wideKeys, modest, calm, conditions, laid).
  DERIVED. THE GIVEN ROWS OF THIS SEAT. 8 by the template 'for every input the law returns true; each argument reads behind the call as it read before'; 0 by the template 'total and deterministic' (their statements: YtkicfdoeojiolaaTotals.lean).
  GIVEN WITH THE SEED: the statements are not yours to turn. If you find one false, say at which input.
  Laid BY PROGRAM, IN A SANDBOX (cutbox-rows.mjs): the forced cells as the released guide's own fill.sh prints them over the translation eae002566bb154c9… (all of the seat's roots in one cut). By AI agents, Wed Nov 11 2026. No macro, syntax, notation, axiom, sorry.
-/
import Derived.Test.YtkicfdoeojiolaaChecked
import GoSem.Claim
import GoSem.ClaimJoined
import GoSem.ClaimMapViews
import Derived.JoinedTies
import Derived.KernelRfl
namespace Go.Proofs.Ytkicfdoeojiolaa
/- THE CELL 'sum', in the pinned program and in every row, IS THE sha256 OF THE DUMP (.gsa) THAT YtkicfdoeojiolaaProg.lean LOADS. Nothing in Lean hashes anything: it is a label: what it is worth is what the hold of that sum in a sandbox is worth. -/
noncomputable def Try.pinned : Pinned := { name := "ytkicfdoeojiolaa", sum := "eae002566bb154c9d9ea0202823f65179c64a26887ed69af45a2c87396bba1ea", checked := Try.checked }
namespace Rows
def none {H : Type} : Left H := { results := [], args := [] }

/-- 'mallowlaw1.NumMagic': WHATEVER THE INPUT: true; the input reads as it did. -/
def numMagicSpec : ChangeSpec := { name := "numMagic", fn := fun _ => fun
  | [d1, d2, d3] => { results := [.lit (.bool true)], args := [d1, d2, d3] }
  | _ => none }
def numMagicRow : OpenClaim := { program := "ytkicfdoeojiolaa", sum := "eae002566bb154c9d9ea0202823f65179c64a26887ed69af45a2c87396bba1ea", func := "mallow/mallowlaw1.NumMagic", spec := "numMagic", inPlace := ["math/bits.Add64"], apart := false }
def NumMagicSaid : Prop := numMagicRow.holds Try.pinned (OpenSpec.ofChange numMagicSpec)

/-- ITS FALSE NEIGHBOUR: 'it returns false'. Refute it at one input. -/
def numMagicWrong : ChangeSpec := { name := "numMagic", fn := fun _ => fun
  | [d1, d2, d3] => { results := [.lit (.bool false)], args := [d1, d2, d3] }
  | _ => none }
def NumMagicWrongFalsely : Prop := numMagicRow.holds Try.pinned (OpenSpec.ofChange numMagicWrong)

/-- 'mallowlaw1.NumExact': WHATEVER THE INPUT: true; the input reads as it did. -/
def numExactSpec : ChangeSpec := { name := "numExact", fn := fun _ => fun
  | [d1, d2] => { results := [.lit (.bool true)], args := [d1, d2] }
  | _ => none }
def numExactRow : OpenClaim := { program := "ytkicfdoeojiolaa", sum := "eae002566bb154c9d9ea0202823f65179c64a26887ed69af45a2c87396bba1ea", func := "mallow/mallowlaw1.NumExact", spec := "numExact", inPlace := ["math/bits.Add64"], apart := false }
def NumExactSaid : Prop := numExactRow.holds Try.pinned (OpenSpec.ofChange numExactSpec)

/-- ITS FALSE NEIGHBOUR: 'it returns false'. Refute it at one input. -/
def numExactWrong : ChangeSpec := { name := "numExact", fn := fun _ => fun
  | [d1, d2] => { results := [.lit (.bool false)], args := [d1, d2] }
  | _ => none }
def NumExactWrongFalsely : Prop := numExactRow.holds Try.pinned (OpenSpec.ofChange numExactWrong)

/-- 'mallowlaw1.NumSteps': WHATEVER THE INPUT: true; the input reads as it did. -/
def numStepsSpec : ChangeSpec := { name := "numSteps", fn := fun _ => fun
  | [d1, d2, d3] => { results := [.lit (.bool true)], args := [d1, d2, d3] }
  | _ => none }
def numStepsRow : OpenClaim := { program := "ytkicfdoeojiolaa", sum := "eae002566bb154c9d9ea0202823f65179c64a26887ed69af45a2c87396bba1ea", func := "mallow/mallowlaw1.NumSteps", spec := "numSteps", inPlace := ["math/bits.Add64"], apart := false }
def NumStepsSaid : Prop := numStepsRow.holds Try.pinned (OpenSpec.ofChange numStepsSpec)

/-- ITS FALSE NEIGHBOUR: 'it returns false'. Refute it at one input. -/
def numStepsWrong : ChangeSpec := { name := "numSteps", fn := fun _ => fun
  | [d1, d2, d3] => { results := [.lit (.bool false)], args := [d1, d2, d3] }
  | _ => none }
def NumStepsWrongFalsely : Prop := numStepsRow.holds Try.pinned (OpenSpec.ofChange numStepsWrong)

/-- 'mallowlaw1.NumPowers': WHATEVER THE INPUT: true; the input reads as it did. -/
def numPowersSpec : ChangeSpec := { name := "numPowers", fn := fun _ => fun
  | [d] => { results := [.lit (.bool true)], args := [d] }
  | _ => none }
def numPowersRow : OpenClaim := { program := "ytkicfdoeojiolaa", sum := "eae002566bb154c9d9ea0202823f65179c64a26887ed69af45a2c87396bba1ea", func := "mallow/mallowlaw1.NumPowers", spec := "numPowers", inPlace := ["math/bits.Add64"], apart := false }
def NumPowersSaid : Prop := numPowersRow.holds Try.pinned (OpenSpec.ofChange numPowersSpec)

/-- ITS FALSE NEIGHBOUR: 'it returns false'. Refute it at one input. -/
def numPowersWrong : ChangeSpec := { name := "numPowers", fn := fun _ => fun
  | [d] => { results := [.lit (.bool false)], args := [d] }
  | _ => none }
def NumPowersWrongFalsely : Prop := numPowersRow.holds Try.pinned (OpenSpec.ofChange numPowersWrong)

/-- 'mallowlaw1.NumHalves': WHATEVER THE INPUT: true; the input reads as it did. -/
def numHalvesSpec : ChangeSpec := { name := "numHalves", fn := fun _ => fun
  | [d] => { results := [.lit (.bool true)], args := [d] }
  | _ => none }
def numHalvesRow : OpenClaim := { program := "ytkicfdoeojiolaa", sum := "eae002566bb154c9d9ea0202823f65179c64a26887ed69af45a2c87396bba1ea", func := "mallow/mallowlaw1.NumHalves", spec := "numHalves", inPlace := ["math/bits.Add64"], apart := false }
def NumHalvesSaid : Prop := numHalvesRow.holds Try.pinned (OpenSpec.ofChange numHalvesSpec)

/-- ITS FALSE NEIGHBOUR: 'it returns false'. Refute it at one input. -/
def numHalvesWrong : ChangeSpec := { name := "numHalves", fn := fun _ => fun
  | [d] => { results := [.lit (.bool false)], args := [d] }
  | _ => none }
def NumHalvesWrongFalsely : Prop := numHalvesRow.holds Try.pinned (OpenSpec.ofChange numHalvesWrong)

/-- 'mallowlaw1.NumRounds': WHATEVER THE INPUT: true; the input reads as it did. -/
def numRoundsSpec : ChangeSpec := { name := "numRounds", fn := fun _ => fun
  | [d1, d2] => { results := [.lit (.bool true)], args := [d1, d2] }
  | _ => none }
def numRoundsRow : OpenClaim := { program := "ytkicfdoeojiolaa", sum := "eae002566bb154c9d9ea0202823f65179c64a26887ed69af45a2c87396bba1ea", func := "mallow/mallowlaw1.NumRounds", spec := "numRounds", inPlace := ["math/bits.Add64"], apart := false }
def NumRoundsSaid : Prop := numRoundsRow.holds Try.pinned (OpenSpec.ofChange numRoundsSpec)

/-- ITS FALSE NEIGHBOUR: 'it returns false'. Refute it at one input. -/
def numRoundsWrong : ChangeSpec := { name := "numRounds", fn := fun _ => fun
  | [d1, d2] => { results := [.lit (.bool false)], args := [d1, d2] }
  | _ => none }
def NumRoundsWrongFalsely : Prop := numRoundsRow.holds Try.pinned (OpenSpec.ofChange numRoundsWrong)

/-- 'mallowlaw1.NumNear': WHATEVER THE INPUT: true; the input reads as it did. -/
def numNearSpec : ChangeSpec := { name := "numNear", fn := fun _ => fun
  | [d1, d2] => { results := [.lit (.bool true)], args := [d1, d2] }
  | _ => none }
def numNearRow : OpenClaim := { program := "ytkicfdoeojiolaa", sum := "eae002566bb154c9d9ea0202823f65179c64a26887ed69af45a2c87396bba1ea", func := "mallow/mallowlaw1.NumNear", spec := "numNear", inPlace := ["math/bits.Add64"], apart := false }
def NumNearSaid : Prop := numNearRow.holds Try.pinned (OpenSpec.ofChange numNearSpec)

/-- ITS FALSE NEIGHBOUR: 'it returns false'. Refute it at one input. -/
def numNearWrong : ChangeSpec := { name := "numNear", fn := fun _ => fun
  | [d1, d2] => { results := [.lit (.bool false)], args := [d1, d2] }
  | _ => none }
def NumNearWrongFalsely : Prop := numNearRow.holds Try.pinned (OpenSpec.ofChange numNearWrong)

/-- 'mallowlaw1.NumParts': WHATEVER THE INPUT: true; the input reads as it did. -/
def numPartsSpec : ChangeSpec := { name := "numParts", fn := fun _ => fun
  | [d1, d2] => { results := [.lit (.bool true)], args := [d1, d2] }
  | _ => none }
def numPartsRow : OpenClaim := { program := "ytkicfdoeojiolaa", sum := "eae002566bb154c9d9ea0202823f65179c64a26887ed69af45a2c87396bba1ea", func := "mallow/mallowlaw1.NumParts", spec := "numParts", inPlace := ["math/bits.Add64"], apart := false }
def NumPartsSaid : Prop := numPartsRow.holds Try.pinned (OpenSpec.ofChange numPartsSpec)

/-- ITS FALSE NEIGHBOUR: 'it returns false'. Refute it at one input. -/
def numPartsWrong : ChangeSpec := { name := "numParts", fn := fun _ => fun
  | [d1, d2] => { results := [.lit (.bool false)], args := [d1, d2] }
  | _ => none }
def NumPartsWrongFalsely : Prop := numPartsRow.holds Try.pinned (OpenSpec.ofChange numPartsWrong)

/- THE SECOND FORM. 'bulk': how many values and letters a reading holds, each counted each time it is reached (what is shared counts as often as it is met; a slice's spare places count too). A statement '..UptoSaid' is the law's where the arguments, and the package variables that the reading takes, are together of bulk at most 1048576: NARROWER than '..Said'. Prove '..Said' where nothing that the law and all that it calls make is longer than what came in: it says more and counts as full. Else prove '..UptoSaid'. A law counts once. -/
mutual
def uptoBulk {H : Type} : DataW H → Nat
  | .lit (.string bytes) => bytes.length + 1
  | .lit _ => 1
  | .nil => 1
  | .ptr d => uptoBulk d + 1
  | .slice elems spare => uptoBulkAll elems + uptoBulkAll spare + 1
  | .agg parts => uptoBulkAll parts + 1
  | .iface _ d => uptoBulk d + 1
  | .map entries => uptoBulkEntries entries + 1
  | .held _ => 1
def uptoBulkAll {H : Type} : List (DataW H) → Nat
  | [] => 0
  | d :: r => uptoBulk d + uptoBulkAll r
def uptoBulkEntries {H : Type} : List (Lit × DataW H) → Nat
  | [] => 0
  | x :: r => uptoBulkEntry x + uptoBulkEntries r
def uptoBulkEntry {H : Type} : Lit × DataW H → Nat
  | (.string bytes, d) => bytes.length + uptoBulk d + 1
  | (_, d) => uptoBulk d + 1
 end
def uptoSmall : (H : Type) → List (DataW H) → Bool := fun _ ds => decide (uptoBulkAll ds ≤ 1048576)
def OpenSpec.upto (s : _root_.Go.ChangeSpec) : _root_.Go.OpenSpec := { _root_.Go.OpenSpec.ofChange s with cond := some uptoSmall }

/-- 'mallowlaw1.NumMagic', WHERE WHAT IT READS IS OF BULK AT MOST 1048576: true; the input reads as it did. -/
def numMagicUptoRow : OpenClaim := { program := "ytkicfdoeojiolaa", sum := "eae002566bb154c9d9ea0202823f65179c64a26887ed69af45a2c87396bba1ea", func := "mallow/mallowlaw1.NumMagic", spec := "numMagic", inPlace := ["math/bits.Add64"], apart := false, narrowed := true }
def NumMagicUptoSaid : Prop := numMagicUptoRow.holds Try.pinned (OpenSpec.upto numMagicSpec)

/-- 'mallowlaw1.NumExact', WHERE WHAT IT READS IS OF BULK AT MOST 1048576: true; the input reads as it did. -/
def numExactUptoRow : OpenClaim := { program := "ytkicfdoeojiolaa", sum := "eae002566bb154c9d9ea0202823f65179c64a26887ed69af45a2c87396bba1ea", func := "mallow/mallowlaw1.NumExact", spec := "numExact", inPlace := ["math/bits.Add64"], apart := false, narrowed := true }
def NumExactUptoSaid : Prop := numExactUptoRow.holds Try.pinned (OpenSpec.upto numExactSpec)

/-- 'mallowlaw1.NumSteps', WHERE WHAT IT READS IS OF BULK AT MOST 1048576: true; the input reads as it did. -/
def numStepsUptoRow : OpenClaim := { program := "ytkicfdoeojiolaa", sum := "eae002566bb154c9d9ea0202823f65179c64a26887ed69af45a2c87396bba1ea", func := "mallow/mallowlaw1.NumSteps", spec := "numSteps", inPlace := ["math/bits.Add64"], apart := false, narrowed := true }
def NumStepsUptoSaid : Prop := numStepsUptoRow.holds Try.pinned (OpenSpec.upto numStepsSpec)

/-- 'mallowlaw1.NumPowers', WHERE WHAT IT READS IS OF BULK AT MOST 1048576: true; the input reads as it did. -/
def numPowersUptoRow : OpenClaim := { program := "ytkicfdoeojiolaa", sum := "eae002566bb154c9d9ea0202823f65179c64a26887ed69af45a2c87396bba1ea", func := "mallow/mallowlaw1.NumPowers", spec := "numPowers", inPlace := ["math/bits.Add64"], apart := false, narrowed := true }
def NumPowersUptoSaid : Prop := numPowersUptoRow.holds Try.pinned (OpenSpec.upto numPowersSpec)

/-- 'mallowlaw1.NumHalves', WHERE WHAT IT READS IS OF BULK AT MOST 1048576: true; the input reads as it did. -/
def numHalvesUptoRow : OpenClaim := { program := "ytkicfdoeojiolaa", sum := "eae002566bb154c9d9ea0202823f65179c64a26887ed69af45a2c87396bba1ea", func := "mallow/mallowlaw1.NumHalves", spec := "numHalves", inPlace := ["math/bits.Add64"], apart := false, narrowed := true }
def NumHalvesUptoSaid : Prop := numHalvesUptoRow.holds Try.pinned (OpenSpec.upto numHalvesSpec)

/-- 'mallowlaw1.NumRounds', WHERE WHAT IT READS IS OF BULK AT MOST 1048576: true; the input reads as it did. -/
def numRoundsUptoRow : OpenClaim := { program := "ytkicfdoeojiolaa", sum := "eae002566bb154c9d9ea0202823f65179c64a26887ed69af45a2c87396bba1ea", func := "mallow/mallowlaw1.NumRounds", spec := "numRounds", inPlace := ["math/bits.Add64"], apart := false, narrowed := true }
def NumRoundsUptoSaid : Prop := numRoundsUptoRow.holds Try.pinned (OpenSpec.upto numRoundsSpec)

/-- 'mallowlaw1.NumNear', WHERE WHAT IT READS IS OF BULK AT MOST 1048576: true; the input reads as it did. -/
def numNearUptoRow : OpenClaim := { program := "ytkicfdoeojiolaa", sum := "eae002566bb154c9d9ea0202823f65179c64a26887ed69af45a2c87396bba1ea", func := "mallow/mallowlaw1.NumNear", spec := "numNear", inPlace := ["math/bits.Add64"], apart := false, narrowed := true }
def NumNearUptoSaid : Prop := numNearUptoRow.holds Try.pinned (OpenSpec.upto numNearSpec)

/-- 'mallowlaw1.NumParts', WHERE WHAT IT READS IS OF BULK AT MOST 1048576: true; the input reads as it did. -/
def numPartsUptoRow : OpenClaim := { program := "ytkicfdoeojiolaa", sum := "eae002566bb154c9d9ea0202823f65179c64a26887ed69af45a2c87396bba1ea", func := "mallow/mallowlaw1.NumParts", spec := "numParts", inPlace := ["math/bits.Add64"], apart := false, narrowed := true }
def NumPartsUptoSaid : Prop := numPartsUptoRow.holds Try.pinned (OpenSpec.upto numPartsSpec)

end Rows
end Go.Proofs.Ytkicfdoeojiolaa
