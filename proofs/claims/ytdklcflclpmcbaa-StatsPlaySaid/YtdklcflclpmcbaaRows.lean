/-
  No cell of these rows narrows 'for every input' (looked for: loops, veiled, ifaces, maps, wideKeys, modest, calm, conditions, laid).
  DERIVED. THE GIVEN ROWS OF THIS SEAT. 4 by the template 'for every input the law returns true; each argument reads behind the call as it read before'; 0 by the template 'total and deterministic' (their statements: YtdklcflclpmcbaaTotals.lean).
  GIVEN WITH THE SEED: the statements are not yours to turn. If you find one false, say at which input.
  Laid BY PROGRAM, IN A SANDBOX (cutbox-rows.mjs): the forced cells as the released guide's own fill.sh prints them over the translation 5c899d82edfa5b88… (all of the seat's roots in one cut). By AI agents, Wed Nov 11 2026. No macro, syntax, notation, axiom, sorry.
-/
import Derived.Test.YtdklcflclpmcbaaChecked
import GoSem.Claim
import GoSem.ClaimJoined
import GoSem.ClaimMapViews
import Derived.JoinedTies
import Derived.KernelRfl
namespace Go.Proofs.Ytdklcflclpmcbaa
/- THE CELL 'sum', in the pinned program and in every row, IS THE sha256 OF THE DUMP (.gsa) THAT YtdklcflclpmcbaaProg.lean LOADS. Nothing in Lean hashes anything: it is a label: what it is worth is what the hold of that sum in a sandbox is worth. -/
noncomputable def Try.pinned : Pinned := { name := "ytdklcflclpmcbaa", sum := "5c899d82edfa5b88c8425167aac6a5b3014b10200ae951b1bf41d19bde19e935", checked := Try.checked }
namespace Rows
def none {H : Type} : Left H := { results := [], args := [] }

/-- 'mallowlaw24.StatsWhole': WHATEVER THE INPUT: true; the input reads as it did. -/
def statsWholeSpec : ChangeSpec := { name := "statsWhole", fn := fun _ => fun
  | [d1, d2, d3, d4, d5, d6, d7] => { results := [.lit (.bool true)], args := [d1, d2, d3, d4, d5, d6, d7] }
  | _ => none }
def statsWholeRow : OpenClaim := { program := "ytdklcflclpmcbaa", sum := "5c899d82edfa5b88c8425167aac6a5b3014b10200ae951b1bf41d19bde19e935", func := "mallow/mallowlaw24.StatsWhole", spec := "statsWhole", apart := false }
def StatsWholeSaid : Prop := statsWholeRow.holds Try.pinned (OpenSpec.ofChange statsWholeSpec)

/-- ITS FALSE NEIGHBOUR: 'it returns false'. Refute it at one input. -/
def statsWholeWrong : ChangeSpec := { name := "statsWhole", fn := fun _ => fun
  | [d1, d2, d3, d4, d5, d6, d7] => { results := [.lit (.bool false)], args := [d1, d2, d3, d4, d5, d6, d7] }
  | _ => none }
def StatsWholeWrongFalsely : Prop := statsWholeRow.holds Try.pinned (OpenSpec.ofChange statsWholeWrong)

/-- 'mallowlaw24.StatsSum': WHATEVER THE INPUT: true; the input reads as it did. -/
def statsSumSpec : ChangeSpec := { name := "statsSum", fn := fun _ => fun
  | [d] => { results := [.lit (.bool true)], args := [d] }
  | _ => none }
def statsSumRow : OpenClaim := { program := "ytdklcflclpmcbaa", sum := "5c899d82edfa5b88c8425167aac6a5b3014b10200ae951b1bf41d19bde19e935", func := "mallow/mallowlaw24.StatsSum", spec := "statsSum", apart := false }
def StatsSumSaid : Prop := statsSumRow.holds Try.pinned (OpenSpec.ofChange statsSumSpec)

/-- ITS FALSE NEIGHBOUR: 'it returns false'. Refute it at one input. -/
def statsSumWrong : ChangeSpec := { name := "statsSum", fn := fun _ => fun
  | [d] => { results := [.lit (.bool false)], args := [d] }
  | _ => none }
def StatsSumWrongFalsely : Prop := statsSumRow.holds Try.pinned (OpenSpec.ofChange statsSumWrong)

/-- 'mallowlaw24.StatsPlay': WHATEVER THE INPUT: true; the input reads as it did. -/
def statsPlaySpec : ChangeSpec := { name := "statsPlay", fn := fun _ => fun
  | [d1, d2] => { results := [.lit (.bool true)], args := [d1, d2] }
  | _ => none }
def statsPlayRow : OpenClaim := { program := "ytdklcflclpmcbaa", sum := "5c899d82edfa5b88c8425167aac6a5b3014b10200ae951b1bf41d19bde19e935", func := "mallow/mallowlaw24.StatsPlay", spec := "statsPlay", apart := false }
def StatsPlaySaid : Prop := statsPlayRow.holds Try.pinned (OpenSpec.ofChange statsPlaySpec)

/-- ITS FALSE NEIGHBOUR: 'it returns false'. Refute it at one input. -/
def statsPlayWrong : ChangeSpec := { name := "statsPlay", fn := fun _ => fun
  | [d1, d2] => { results := [.lit (.bool false)], args := [d1, d2] }
  | _ => none }
def StatsPlayWrongFalsely : Prop := statsPlayRow.holds Try.pinned (OpenSpec.ofChange statsPlayWrong)

/-- 'mallowlaw24.StatsMove': WHATEVER THE INPUT: true; the input reads as it did. -/
def statsMoveSpec : ChangeSpec := { name := "statsMove", fn := fun _ => fun
  | [d1, d2, d3, d4] => { results := [.lit (.bool true)], args := [d1, d2, d3, d4] }
  | _ => none }
def statsMoveRow : OpenClaim := { program := "ytdklcflclpmcbaa", sum := "5c899d82edfa5b88c8425167aac6a5b3014b10200ae951b1bf41d19bde19e935", func := "mallow/mallowlaw24.StatsMove", spec := "statsMove", apart := false }
def StatsMoveSaid : Prop := statsMoveRow.holds Try.pinned (OpenSpec.ofChange statsMoveSpec)

/-- ITS FALSE NEIGHBOUR: 'it returns false'. Refute it at one input. -/
def statsMoveWrong : ChangeSpec := { name := "statsMove", fn := fun _ => fun
  | [d1, d2, d3, d4] => { results := [.lit (.bool false)], args := [d1, d2, d3, d4] }
  | _ => none }
def StatsMoveWrongFalsely : Prop := statsMoveRow.holds Try.pinned (OpenSpec.ofChange statsMoveWrong)

/- THE SECOND FORM. 'bulk': how many values and letters a reading holds, each counted each time it is reached (what is shared counts as often as it is met; a slice's spare places count too). A statement '..UptoSaid' is the law's where the arguments, and the package variables that the reading takes, are together of bulk at most 1048576: NARROWER than '..Said'. Prove '..Said' where nothing that the law and all that it calls make is longer than what came in: it says more and counts as full. Else prove '..UptoSaid'. A law counts once. -/
mutual
def uptoBulk {H : Type} : DataW H → Nat
  | .lit (.string bytes) => bytes.length + 1
  | .lit _ => 1
  | .nil => 1
  | .ptr d => uptoBulk d + 1
  | .slice elems spare => uptoBulkAll elems + uptoBulkAll spare + 1
  | .agg parts => uptoBulkAll parts + 1
  | .iface _ d => uptoBulk d + 1
  | .map entries => uptoBulkEntries entries + 1
  | .held _ => 1
def uptoBulkAll {H : Type} : List (DataW H) → Nat
  | [] => 0
  | d :: r => uptoBulk d + uptoBulkAll r
def uptoBulkEntries {H : Type} : List (Lit × DataW H) → Nat
  | [] => 0
  | x :: r => uptoBulkEntry x + uptoBulkEntries r
def uptoBulkEntry {H : Type} : Lit × DataW H → Nat
  | (.string bytes, d) => bytes.length + uptoBulk d + 1
  | (_, d) => uptoBulk d + 1
 end
def uptoSmall : (H : Type) → List (DataW H) → Bool := fun _ ds => decide (uptoBulkAll ds ≤ 1048576)
def OpenSpec.upto (s : _root_.Go.ChangeSpec) : _root_.Go.OpenSpec := { _root_.Go.OpenSpec.ofChange s with cond := some uptoSmall }

/-- 'mallowlaw24.StatsWhole', WHERE WHAT IT READS IS OF BULK AT MOST 1048576: true; the input reads as it did. -/
def statsWholeUptoRow : OpenClaim := { program := "ytdklcflclpmcbaa", sum := "5c899d82edfa5b88c8425167aac6a5b3014b10200ae951b1bf41d19bde19e935", func := "mallow/mallowlaw24.StatsWhole", spec := "statsWhole", apart := false, narrowed := true }
def StatsWholeUptoSaid : Prop := statsWholeUptoRow.holds Try.pinned (OpenSpec.upto statsWholeSpec)

/-- 'mallowlaw24.StatsSum', WHERE WHAT IT READS IS OF BULK AT MOST 1048576: true; the input reads as it did. -/
def statsSumUptoRow : OpenClaim := { program := "ytdklcflclpmcbaa", sum := "5c899d82edfa5b88c8425167aac6a5b3014b10200ae951b1bf41d19bde19e935", func := "mallow/mallowlaw24.StatsSum", spec := "statsSum", apart := false, narrowed := true }
def StatsSumUptoSaid : Prop := statsSumUptoRow.holds Try.pinned (OpenSpec.upto statsSumSpec)

/-- 'mallowlaw24.StatsPlay', WHERE WHAT IT READS IS OF BULK AT MOST 1048576: true; the input reads as it did. -/
def statsPlayUptoRow : OpenClaim := { program := "ytdklcflclpmcbaa", sum := "5c899d82edfa5b88c8425167aac6a5b3014b10200ae951b1bf41d19bde19e935", func := "mallow/mallowlaw24.StatsPlay", spec := "statsPlay", apart := false, narrowed := true }
def StatsPlayUptoSaid : Prop := statsPlayUptoRow.holds Try.pinned (OpenSpec.upto statsPlaySpec)

/-- 'mallowlaw24.StatsMove', WHERE WHAT IT READS IS OF BULK AT MOST 1048576: true; the input reads as it did. -/
def statsMoveUptoRow : OpenClaim := { program := "ytdklcflclpmcbaa", sum := "5c899d82edfa5b88c8425167aac6a5b3014b10200ae951b1bf41d19bde19e935", func := "mallow/mallowlaw24.StatsMove", spec := "statsMove", apart := false, narrowed := true }
def StatsMoveUptoSaid : Prop := statsMoveUptoRow.holds Try.pinned (OpenSpec.upto statsMoveSpec)

end Rows
end Go.Proofs.Ytdklcflclpmcbaa
