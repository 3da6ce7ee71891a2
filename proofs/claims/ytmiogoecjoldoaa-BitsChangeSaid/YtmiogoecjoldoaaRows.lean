/-
  No cell of these rows narrows 'for every input' (looked for: loops, veiled, ifaces, maps, wideKeys, modest, calm, conditions, laid).
  DERIVED. THE GIVEN ROWS OF THIS SEAT. 7 by the template 'for every input the law returns true; each argument reads behind the call as it read before'; 0 by the template 'total and deterministic' (their statements: YtmiogoecjoldoaaTotals.lean).
  GIVEN WITH THE SEED: the statements are not yours to turn. If you find one false, say at which input.
  Laid BY PROGRAM, IN A SANDBOX (cutbox-rows.mjs): the forced cells as the released guide's own fill.sh prints them over the translation f7329faa795a8320… (all of the seat's roots in one cut). By AI agents, Wed Nov 11 2026. No macro, syntax, notation, axiom, sorry.
-/
import Derived.Test.YtmiogoecjoldoaaChecked
import GoSem.Claim
import GoSem.ClaimJoined
import GoSem.ClaimMapViews
import Derived.JoinedTies
import Derived.KernelRfl
namespace Go.Proofs.Ytmiogoecjoldoaa
/- THE CELL 'sum', in the pinned program and in every row, IS THE sha256 OF THE DUMP (.gsa) THAT YtmiogoecjoldoaaProg.lean LOADS. Nothing in Lean hashes anything: it is a label: what it is worth is what the hold of that sum in a sandbox is worth. -/
noncomputable def Try.pinned : Pinned := { name := "ytmiogoecjoldoaa", sum := "f7329faa795a8320f78661c35dcd1e3fef60b9efad45a6aef9d1e14a9fbb11d5", checked := Try.checked }
namespace Rows
def none {H : Type} : Left H := { results := [], args := [] }

/-- 'mallowlaw6.BitsFind': WHATEVER THE INPUT: true; the input reads as it did. -/
def bitsFindSpec : ChangeSpec := { name := "bitsFind", fn := fun _ => fun
  | [d1, d2, d3, d4, d5] => { results := [.lit (.bool true)], args := [d1, d2, d3, d4, d5] }
  | _ => none }
def bitsFindRow : OpenClaim := { program := "ytmiogoecjoldoaa", sum := "f7329faa795a8320f78661c35dcd1e3fef60b9efad45a6aef9d1e14a9fbb11d5", func := "mallow/mallowlaw6.BitsFind", spec := "bitsFind", unfollowed := true, recurses := true, apart := false }
def BitsFindSaid : Prop := bitsFindRow.holds Try.pinned (OpenSpec.ofChange bitsFindSpec)

/-- ITS FALSE NEIGHBOUR: 'it returns false'. Refute it at one input. -/
def bitsFindWrong : ChangeSpec := { name := "bitsFind", fn := fun _ => fun
  | [d1, d2, d3, d4, d5] => { results := [.lit (.bool false)], args := [d1, d2, d3, d4, d5] }
  | _ => none }
def BitsFindWrongFalsely : Prop := bitsFindRow.holds Try.pinned (OpenSpec.ofChange bitsFindWrong)

/-- 'mallowlaw6.BitsFirst': WHATEVER THE INPUT: true; the input reads as it did. -/
def bitsFirstSpec : ChangeSpec := { name := "bitsFirst", fn := fun _ => fun
  | [d1, d2, d3] => { results := [.lit (.bool true)], args := [d1, d2, d3] }
  | _ => none }
def bitsFirstRow : OpenClaim := { program := "ytmiogoecjoldoaa", sum := "f7329faa795a8320f78661c35dcd1e3fef60b9efad45a6aef9d1e14a9fbb11d5", func := "mallow/mallowlaw6.BitsFirst", spec := "bitsFirst", unfollowed := true, recurses := true, apart := false }
def BitsFirstSaid : Prop := bitsFirstRow.holds Try.pinned (OpenSpec.ofChange bitsFirstSpec)

/-- ITS FALSE NEIGHBOUR: 'it returns false'. Refute it at one input. -/
def bitsFirstWrong : ChangeSpec := { name := "bitsFirst", fn := fun _ => fun
  | [d1, d2, d3] => { results := [.lit (.bool false)], args := [d1, d2, d3] }
  | _ => none }
def BitsFirstWrongFalsely : Prop := bitsFirstRow.holds Try.pinned (OpenSpec.ofChange bitsFirstWrong)

/-- 'mallowlaw6.BitsSums': WHATEVER THE INPUT: true; the input reads as it did. -/
def bitsSumsSpec : ChangeSpec := { name := "bitsSums", fn := fun _ => fun
  | [d] => { results := [.lit (.bool true)], args := [d] }
  | _ => none }
def bitsSumsRow : OpenClaim := { program := "ytmiogoecjoldoaa", sum := "f7329faa795a8320f78661c35dcd1e3fef60b9efad45a6aef9d1e14a9fbb11d5", func := "mallow/mallowlaw6.BitsSums", spec := "bitsSums", unfollowed := true, recurses := true, apart := false }
def BitsSumsSaid : Prop := bitsSumsRow.holds Try.pinned (OpenSpec.ofChange bitsSumsSpec)

/-- ITS FALSE NEIGHBOUR: 'it returns false'. Refute it at one input. -/
def bitsSumsWrong : ChangeSpec := { name := "bitsSums", fn := fun _ => fun
  | [d] => { results := [.lit (.bool false)], args := [d] }
  | _ => none }
def BitsSumsWrongFalsely : Prop := bitsSumsRow.holds Try.pinned (OpenSpec.ofChange bitsSumsWrong)

/-- 'mallowlaw6.BitsLast': WHATEVER THE INPUT: true; the input reads as it did. -/
def bitsLastSpec : ChangeSpec := { name := "bitsLast", fn := fun _ => fun
  | [d1, d2, d3] => { results := [.lit (.bool true)], args := [d1, d2, d3] }
  | _ => none }
def bitsLastRow : OpenClaim := { program := "ytmiogoecjoldoaa", sum := "f7329faa795a8320f78661c35dcd1e3fef60b9efad45a6aef9d1e14a9fbb11d5", func := "mallow/mallowlaw6.BitsLast", spec := "bitsLast", unfollowed := true, recurses := true, apart := false }
def BitsLastSaid : Prop := bitsLastRow.holds Try.pinned (OpenSpec.ofChange bitsLastSpec)

/-- ITS FALSE NEIGHBOUR: 'it returns false'. Refute it at one input. -/
def bitsLastWrong : ChangeSpec := { name := "bitsLast", fn := fun _ => fun
  | [d1, d2, d3] => { results := [.lit (.bool false)], args := [d1, d2, d3] }
  | _ => none }
def BitsLastWrongFalsely : Prop := bitsLastRow.holds Try.pinned (OpenSpec.ofChange bitsLastWrong)

/-- 'mallowlaw6.BitsChange': WHATEVER THE INPUT: true; the input reads as it did. -/
def bitsChangeSpec : ChangeSpec := { name := "bitsChange", fn := fun _ => fun
  | [d1, d2] => { results := [.lit (.bool true)], args := [d1, d2] }
  | _ => none }
def bitsChangeRow : OpenClaim := { program := "ytmiogoecjoldoaa", sum := "f7329faa795a8320f78661c35dcd1e3fef60b9efad45a6aef9d1e14a9fbb11d5", func := "mallow/mallowlaw6.BitsChange", spec := "bitsChange", unfollowed := true, recurses := true, apart := false }
def BitsChangeSaid : Prop := bitsChangeRow.holds Try.pinned (OpenSpec.ofChange bitsChangeSpec)

/-- ITS FALSE NEIGHBOUR: 'it returns false'. Refute it at one input. -/
def bitsChangeWrong : ChangeSpec := { name := "bitsChange", fn := fun _ => fun
  | [d1, d2] => { results := [.lit (.bool false)], args := [d1, d2] }
  | _ => none }
def BitsChangeWrongFalsely : Prop := bitsChangeRow.holds Try.pinned (OpenSpec.ofChange bitsChangeWrong)

/-- 'mallowlaw6.BitsTwice': WHATEVER THE INPUT: true; the input reads as it did. -/
def bitsTwiceSpec : ChangeSpec := { name := "bitsTwice", fn := fun _ => fun
  | [d1, d2, d3] => { results := [.lit (.bool true)], args := [d1, d2, d3] }
  | _ => none }
def bitsTwiceRow : OpenClaim := { program := "ytmiogoecjoldoaa", sum := "f7329faa795a8320f78661c35dcd1e3fef60b9efad45a6aef9d1e14a9fbb11d5", func := "mallow/mallowlaw6.BitsTwice", spec := "bitsTwice", unfollowed := true, recurses := true, apart := false }
def BitsTwiceSaid : Prop := bitsTwiceRow.holds Try.pinned (OpenSpec.ofChange bitsTwiceSpec)

/-- ITS FALSE NEIGHBOUR: 'it returns false'. Refute it at one input. -/
def bitsTwiceWrong : ChangeSpec := { name := "bitsTwice", fn := fun _ => fun
  | [d1, d2, d3] => { results := [.lit (.bool false)], args := [d1, d2, d3] }
  | _ => none }
def BitsTwiceWrongFalsely : Prop := bitsTwiceRow.holds Try.pinned (OpenSpec.ofChange bitsTwiceWrong)

/-- 'mallowlaw6.BitsWhole': WHATEVER THE INPUT: true; the input reads as it did. -/
def bitsWholeSpec : ChangeSpec := { name := "bitsWhole", fn := fun _ => fun
  | [d1, d2] => { results := [.lit (.bool true)], args := [d1, d2] }
  | _ => none }
def bitsWholeRow : OpenClaim := { program := "ytmiogoecjoldoaa", sum := "f7329faa795a8320f78661c35dcd1e3fef60b9efad45a6aef9d1e14a9fbb11d5", func := "mallow/mallowlaw6.BitsWhole", spec := "bitsWhole", unfollowed := true, recurses := true, apart := false }
def BitsWholeSaid : Prop := bitsWholeRow.holds Try.pinned (OpenSpec.ofChange bitsWholeSpec)

/-- ITS FALSE NEIGHBOUR: 'it returns false'. Refute it at one input. -/
def bitsWholeWrong : ChangeSpec := { name := "bitsWhole", fn := fun _ => fun
  | [d1, d2] => { results := [.lit (.bool false)], args := [d1, d2] }
  | _ => none }
def BitsWholeWrongFalsely : Prop := bitsWholeRow.holds Try.pinned (OpenSpec.ofChange bitsWholeWrong)

/- THE SECOND FORM. 'bulk': how many values and letters a reading holds, each counted each time it is reached (what is shared counts as often as it is met; a slice's spare places count too). A statement '..UptoSaid' is the law's where the arguments, and the package variables that the reading takes, are together of bulk at most 1048576: NARROWER than '..Said'. Prove '..Said' where nothing that the law and all that it calls make is longer than what came in: it says more and counts as full. Else prove '..UptoSaid'. A law counts once. -/
mutual
def uptoBulk {H : Type} : DataW H → Nat
  | .lit (.string bytes) => bytes.length + 1
  | .lit _ => 1
  | .nil => 1
  | .ptr d => uptoBulk d + 1
  | .slice elems spare => uptoBulkAll elems + uptoBulkAll spare + 1
  | .agg parts => uptoBulkAll parts + 1
  | .iface _ d => uptoBulk d + 1
  | .map entries => uptoBulkEntries entries + 1
  | .held _ => 1
def uptoBulkAll {H : Type} : List (DataW H) → Nat
  | [] => 0
  | d :: r => uptoBulk d + uptoBulkAll r
def uptoBulkEntries {H : Type} : List (Lit × DataW H) → Nat
  | [] => 0
  | x :: r => uptoBulkEntry x + uptoBulkEntries r
def uptoBulkEntry {H : Type} : Lit × DataW H → Nat
  | (.string bytes, d) => bytes.length + uptoBulk d + 1
  | (_, d) => uptoBulk d + 1
 end
def uptoSmall : (H : Type) → List (DataW H) → Bool := fun _ ds => decide (uptoBulkAll ds ≤ 1048576)
def OpenSpec.upto (s : _root_.Go.ChangeSpec) : _root_.Go.OpenSpec := { _root_.Go.OpenSpec.ofChange s with cond := some uptoSmall }

/-- 'mallowlaw6.BitsFind', WHERE WHAT IT READS IS OF BULK AT MOST 1048576: true; the input reads as it did. -/
def bitsFindUptoRow : OpenClaim := { program := "ytmiogoecjoldoaa", sum := "f7329faa795a8320f78661c35dcd1e3fef60b9efad45a6aef9d1e14a9fbb11d5", func := "mallow/mallowlaw6.BitsFind", spec := "bitsFind", unfollowed := true, recurses := true, apart := false, narrowed := true }
def BitsFindUptoSaid : Prop := bitsFindUptoRow.holds Try.pinned (OpenSpec.upto bitsFindSpec)

/-- 'mallowlaw6.BitsFirst', WHERE WHAT IT READS IS OF BULK AT MOST 1048576: true; the input reads as it did. -/
def bitsFirstUptoRow : OpenClaim := { program := "ytmiogoecjoldoaa", sum := "f7329faa795a8320f78661c35dcd1e3fef60b9efad45a6aef9d1e14a9fbb11d5", func := "mallow/mallowlaw6.BitsFirst", spec := "bitsFirst", unfollowed := true, recurses := true, apart := false, narrowed := true }
def BitsFirstUptoSaid : Prop := bitsFirstUptoRow.holds Try.pinned (OpenSpec.upto bitsFirstSpec)

/-- 'mallowlaw6.BitsSums', WHERE WHAT IT READS IS OF BULK AT MOST 1048576: true; the input reads as it did. -/
def bitsSumsUptoRow : OpenClaim := { program := "ytmiogoecjoldoaa", sum := "f7329faa795a8320f78661c35dcd1e3fef60b9efad45a6aef9d1e14a9fbb11d5", func := "mallow/mallowlaw6.BitsSums", spec := "bitsSums", unfollowed := true, recurses := true, apart := false, narrowed := true }
def BitsSumsUptoSaid : Prop := bitsSumsUptoRow.holds Try.pinned (OpenSpec.upto bitsSumsSpec)

/-- 'mallowlaw6.BitsLast', WHERE WHAT IT READS IS OF BULK AT MOST 1048576: true; the input reads as it did. -/
def bitsLastUptoRow : OpenClaim := { program := "ytmiogoecjoldoaa", sum := "f7329faa795a8320f78661c35dcd1e3fef60b9efad45a6aef9d1e14a9fbb11d5", func := "mallow/mallowlaw6.BitsLast", spec := "bitsLast", unfollowed := true, recurses := true, apart := false, narrowed := true }
def BitsLastUptoSaid : Prop := bitsLastUptoRow.holds Try.pinned (OpenSpec.upto bitsLastSpec)

/-- 'mallowlaw6.BitsChange', WHERE WHAT IT READS IS OF BULK AT MOST 1048576: true; the input reads as it did. -/
def bitsChangeUptoRow : OpenClaim := { program := "ytmiogoecjoldoaa", sum := "f7329faa795a8320f78661c35dcd1e3fef60b9efad45a6aef9d1e14a9fbb11d5", func := "mallow/mallowlaw6.BitsChange", spec := "bitsChange", unfollowed := true, recurses := true, apart := false, narrowed := true }
def BitsChangeUptoSaid : Prop := bitsChangeUptoRow.holds Try.pinned (OpenSpec.upto bitsChangeSpec)

/-- 'mallowlaw6.BitsTwice', WHERE WHAT IT READS IS OF BULK AT MOST 1048576: true; the input reads as it did. -/
def bitsTwiceUptoRow : OpenClaim := { program := "ytmiogoecjoldoaa", sum := "f7329faa795a8320f78661c35dcd1e3fef60b9efad45a6aef9d1e14a9fbb11d5", func := "mallow/mallowlaw6.BitsTwice", spec := "bitsTwice", unfollowed := true, recurses := true, apart := false, narrowed := true }
def BitsTwiceUptoSaid : Prop := bitsTwiceUptoRow.holds Try.pinned (OpenSpec.upto bitsTwiceSpec)

/-- 'mallowlaw6.BitsWhole', WHERE WHAT IT READS IS OF BULK AT MOST 1048576: true; the input reads as it did. -/
def bitsWholeUptoRow : OpenClaim := { program := "ytmiogoecjoldoaa", sum := "f7329faa795a8320f78661c35dcd1e3fef60b9efad45a6aef9d1e14a9fbb11d5", func := "mallow/mallowlaw6.BitsWhole", spec := "bitsWhole", unfollowed := true, recurses := true, apart := false, narrowed := true }
def BitsWholeUptoSaid : Prop := bitsWholeUptoRow.holds Try.pinned (OpenSpec.upto bitsWholeSpec)

end Rows
end Go.Proofs.Ytmiogoecjoldoaa
