/-
  No cell of these rows narrows 'for every input' (looked for: loops, veiled, ifaces, maps, wideKeys, modest, calm, conditions, laid).
  DERIVED. THE GIVEN ROWS OF THIS SEAT. 4 by the template 'for every input the law returns true; each argument reads behind the call as it read before'; 0 by the template 'total and deterministic' (their statements: YtoofokbdohdmjaaTotals.lean).
  GIVEN WITH THE SEED: the statements are not yours to turn. If you find one false, say at which input.
  Laid BY PROGRAM, IN A SANDBOX (cutbox-rows.mjs): the forced cells as the released guide's own fill.sh prints them over the translation b0f62aad7088fdf2… (all of the seat's roots in one cut). By AI agents, Wed Nov 11 2026. No macro, syntax, notation, axiom, sorry.
-/
import Derived.Test.YtoofokbdohdmjaaChecked
import GoSem.Claim
import GoSem.ClaimJoined
import GoSem.ClaimMapViews
import Derived.JoinedTies
import Derived.KernelRfl
namespace Go.Proofs.Ytoofokbdohdmjaa
/- THE CELL 'sum', in the pinned program and in every row, IS THE sha256 OF THE DUMP (.gsa) THAT YtoofokbdohdmjaaProg.lean LOADS. Nothing in Lean hashes anything: it is a label: what it is worth is what the hold of that sum in a sandbox is worth. -/
noncomputable def Try.pinned : Pinned := { name := "ytoofokbdohdmjaa", sum := "b0f62aad7088fdf2cfb118371e72512de3ad7d6725207635a3bf8ce965d5ffb0", checked := Try.checked }
namespace Rows
def none {H : Type} : Left H := { results := [], args := [] }

/-- 'mallowlaw12.FixUnlike': WHATEVER THE INPUT: true; the input reads as it did. -/
def fixUnlikeSpec : ChangeSpec := { name := "fixUnlike", fn := fun _ => fun
  | [d] => { results := [.lit (.bool true)], args := [d] }
  | _ => none }
def fixUnlikeRow : OpenClaim := { program := "ytoofokbdohdmjaa", sum := "b0f62aad7088fdf2cfb118371e72512de3ad7d6725207635a3bf8ce965d5ffb0", func := "mallow/mallowlaw12.FixUnlike", spec := "fixUnlike", inPlace := ["math/bits.Add64"], apart := false }
def FixUnlikeSaid : Prop := fixUnlikeRow.holds Try.pinned (OpenSpec.ofChange fixUnlikeSpec)

/-- ITS FALSE NEIGHBOUR: 'it returns false'. Refute it at one input. -/
def fixUnlikeWrong : ChangeSpec := { name := "fixUnlike", fn := fun _ => fun
  | [d] => { results := [.lit (.bool false)], args := [d] }
  | _ => none }
def FixUnlikeWrongFalsely : Prop := fixUnlikeRow.holds Try.pinned (OpenSpec.ofChange fixUnlikeWrong)

/-- 'mallowlaw12.FixLast': WHATEVER THE INPUT: true; the input reads as it did. -/
def fixLastSpec : ChangeSpec := { name := "fixLast", fn := fun _ => fun
  | [d1, d2] => { results := [.lit (.bool true)], args := [d1, d2] }
  | _ => none }
def fixLastRow : OpenClaim := { program := "ytoofokbdohdmjaa", sum := "b0f62aad7088fdf2cfb118371e72512de3ad7d6725207635a3bf8ce965d5ffb0", func := "mallow/mallowlaw12.FixLast", spec := "fixLast", inPlace := ["math/bits.Add64"], apart := false }
def FixLastSaid : Prop := fixLastRow.holds Try.pinned (OpenSpec.ofChange fixLastSpec)

/-- ITS FALSE NEIGHBOUR: 'it returns false'. Refute it at one input. -/
def fixLastWrong : ChangeSpec := { name := "fixLast", fn := fun _ => fun
  | [d1, d2] => { results := [.lit (.bool false)], args := [d1, d2] }
  | _ => none }
def FixLastWrongFalsely : Prop := fixLastRow.holds Try.pinned (OpenSpec.ofChange fixLastWrong)

/-- 'mallowlaw12.FixPlays': WHATEVER THE INPUT: true; the input reads as it did. -/
def fixPlaysSpec : ChangeSpec := { name := "fixPlays", fn := fun _ => fun
  | [d1, d2, d3] => { results := [.lit (.bool true)], args := [d1, d2, d3] }
  | _ => none }
def fixPlaysRow : OpenClaim := { program := "ytoofokbdohdmjaa", sum := "b0f62aad7088fdf2cfb118371e72512de3ad7d6725207635a3bf8ce965d5ffb0", func := "mallow/mallowlaw12.FixPlays", spec := "fixPlays", inPlace := ["math/bits.Add64"], apart := false }
def FixPlaysSaid : Prop := fixPlaysRow.holds Try.pinned (OpenSpec.ofChange fixPlaysSpec)

/-- ITS FALSE NEIGHBOUR: 'it returns false'. Refute it at one input. -/
def fixPlaysWrong : ChangeSpec := { name := "fixPlays", fn := fun _ => fun
  | [d1, d2, d3] => { results := [.lit (.bool false)], args := [d1, d2, d3] }
  | _ => none }
def FixPlaysWrongFalsely : Prop := fixPlaysRow.holds Try.pinned (OpenSpec.ofChange fixPlaysWrong)

/-- 'mallowlaw12.BumpApart': WHATEVER THE INPUT: true; the input reads as it did. -/
def bumpApartSpec : ChangeSpec := { name := "bumpApart", fn := fun _ => fun
  | [d1, d2, d3] => { results := [.lit (.bool true)], args := [d1, d2, d3] }
  | _ => none }
def bumpApartRow : OpenClaim := { program := "ytoofokbdohdmjaa", sum := "b0f62aad7088fdf2cfb118371e72512de3ad7d6725207635a3bf8ce965d5ffb0", func := "mallow/mallowlaw12.BumpApart", spec := "bumpApart", inPlace := ["math/bits.Add64"], apart := false }
def BumpApartSaid : Prop := bumpApartRow.holds Try.pinned (OpenSpec.ofChange bumpApartSpec)

/-- ITS FALSE NEIGHBOUR: 'it returns false'. Refute it at one input. -/
def bumpApartWrong : ChangeSpec := { name := "bumpApart", fn := fun _ => fun
  | [d1, d2, d3] => { results := [.lit (.bool false)], args := [d1, d2, d3] }
  | _ => none }
def BumpApartWrongFalsely : Prop := bumpApartRow.holds Try.pinned (OpenSpec.ofChange bumpApartWrong)

/- THE SECOND FORM. 'bulk': how many values and letters a reading holds, each counted each time it is reached (what is shared counts as often as it is met; a slice's spare places count too). A statement '..UptoSaid' is the law's where the arguments, and the package variables that the reading takes, are together of bulk at most 1048576: NARROWER than '..Said'. Prove '..Said' where nothing that the law and all that it calls make is longer than what came in: it says more and counts as full. Else prove '..UptoSaid'. A law counts once. -/
mutual
def uptoBulk {H : Type} : DataW H → Nat
  | .lit (.string bytes) => bytes.length + 1
  | .lit _ => 1
  | .nil => 1
  | .ptr d => uptoBulk d + 1
  | .slice elems spare => uptoBulkAll elems + uptoBulkAll spare + 1
  | .agg parts => uptoBulkAll parts + 1
  | .iface _ d => uptoBulk d + 1
  | .map entries => uptoBulkEntries entries + 1
  | .held _ => 1
def uptoBulkAll {H : Type} : List (DataW H) → Nat
  | [] => 0
  | d :: r => uptoBulk d + uptoBulkAll r
def uptoBulkEntries {H : Type} : List (Lit × DataW H) → Nat
  | [] => 0
  | x :: r => uptoBulkEntry x + uptoBulkEntries r
def uptoBulkEntry {H : Type} : Lit × DataW H → Nat
  | (.string bytes, d) => bytes.length + uptoBulk d + 1
  | (_, d) => uptoBulk d + 1
 end
def uptoSmall : (H : Type) → List (DataW H) → Bool := fun _ ds => decide (uptoBulkAll ds ≤ 1048576)
def OpenSpec.upto (s : _root_.Go.ChangeSpec) : _root_.Go.OpenSpec := { _root_.Go.OpenSpec.ofChange s with cond := some uptoSmall }

/-- 'mallowlaw12.FixUnlike', WHERE WHAT IT READS IS OF BULK AT MOST 1048576: true; the input reads as it did. -/
def fixUnlikeUptoRow : OpenClaim := { program := "ytoofokbdohdmjaa", sum := "b0f62aad7088fdf2cfb118371e72512de3ad7d6725207635a3bf8ce965d5ffb0", func := "mallow/mallowlaw12.FixUnlike", spec := "fixUnlike", inPlace := ["math/bits.Add64"], apart := false, narrowed := true }
def FixUnlikeUptoSaid : Prop := fixUnlikeUptoRow.holds Try.pinned (OpenSpec.upto fixUnlikeSpec)

/-- 'mallowlaw12.FixLast', WHERE WHAT IT READS IS OF BULK AT MOST 1048576: true; the input reads as it did. -/
def fixLastUptoRow : OpenClaim := { program := "ytoofokbdohdmjaa", sum := "b0f62aad7088fdf2cfb118371e72512de3ad7d6725207635a3bf8ce965d5ffb0", func := "mallow/mallowlaw12.FixLast", spec := "fixLast", inPlace := ["math/bits.Add64"], apart := false, narrowed := true }
def FixLastUptoSaid : Prop := fixLastUptoRow.holds Try.pinned (OpenSpec.upto fixLastSpec)

/-- 'mallowlaw12.FixPlays', WHERE WHAT IT READS IS OF BULK AT MOST 1048576: true; the input reads as it did. -/
def fixPlaysUptoRow : OpenClaim := { program := "ytoofokbdohdmjaa", sum := "b0f62aad7088fdf2cfb118371e72512de3ad7d6725207635a3bf8ce965d5ffb0", func := "mallow/mallowlaw12.FixPlays", spec := "fixPlays", inPlace := ["math/bits.Add64"], apart := false, narrowed := true }
def FixPlaysUptoSaid : Prop := fixPlaysUptoRow.holds Try.pinned (OpenSpec.upto fixPlaysSpec)

/-- 'mallowlaw12.BumpApart', WHERE WHAT IT READS IS OF BULK AT MOST 1048576: true; the input reads as it did. -/
def bumpApartUptoRow : OpenClaim := { program := "ytoofokbdohdmjaa", sum := "b0f62aad7088fdf2cfb118371e72512de3ad7d6725207635a3bf8ce965d5ffb0", func := "mallow/mallowlaw12.BumpApart", spec := "bumpApart", inPlace := ["math/bits.Add64"], apart := false, narrowed := true }
def BumpApartUptoSaid : Prop := bumpApartUptoRow.holds Try.pinned (OpenSpec.upto bumpApartSpec)

end Rows
end Go.Proofs.Ytoofokbdohdmjaa
