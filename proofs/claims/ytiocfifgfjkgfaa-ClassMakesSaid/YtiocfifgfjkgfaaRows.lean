/-
  No cell of these rows narrows 'for every input' (looked for: loops, veiled, ifaces, maps, wideKeys, modest, calm, conditions, laid).
  DERIVED. THE GIVEN ROWS OF THIS SEAT. 6 by the template 'for every input the law returns true; each argument reads behind the call as it read before'; 0 by the template 'total and deterministic' (their statements: YtiocfifgfjkgfaaTotals.lean).
  GIVEN WITH THE SEED: the statements are not yours to turn. If you find one false, say at which input.
  Laid BY PROGRAM, IN A SANDBOX (cutbox-rows.mjs): the forced cells as the released guide's own fill.sh prints them over the translation f2006604be435d11… (all of the seat's roots in one cut). By AI agents, Wed Nov 11 2026. No macro, syntax, notation, axiom, sorry.
-/
import Derived.Test.YtiocfifgfjkgfaaChecked
import GoSem.Claim
import GoSem.ClaimJoined
import GoSem.ClaimMapViews
import Derived.JoinedTies
import Derived.KernelRfl
namespace Go.Proofs.Ytiocfifgfjkgfaa
/- THE CELL 'sum', in the pinned program and in every row, IS THE sha256 OF THE DUMP (.gsa) THAT YtiocfifgfjkgfaaProg.lean LOADS. Nothing in Lean hashes anything: it is a label: what it is worth is what the hold of that sum in a sandbox is worth. -/
noncomputable def Try.pinned : Pinned := { name := "ytiocfifgfjkgfaa", sum := "f2006604be435d11db71bdc8f682d6075e9e27b5be2238cf311280d38c28972a", checked := Try.checked }
namespace Rows
def none {H : Type} : Left H := { results := [], args := [] }

/-- 'mallowlaw5.ClassMakes': WHATEVER THE INPUT: true; the input reads as it did. -/
def classMakesSpec : ChangeSpec := { name := "classMakes", fn := fun _ => fun
  | [d1, d2] => { results := [.lit (.bool true)], args := [d1, d2] }
  | _ => none }
def classMakesRow : OpenClaim := { program := "ytiocfifgfjkgfaa", sum := "f2006604be435d11db71bdc8f682d6075e9e27b5be2238cf311280d38c28972a", func := "mallow/mallowlaw5.ClassMakes", spec := "classMakes", inPlace := ["math/bits.Add64"], unfollowed := true, recurses := true, apart := false }
def ClassMakesSaid : Prop := classMakesRow.holds Try.pinned (OpenSpec.ofChange classMakesSpec)

/-- ITS FALSE NEIGHBOUR: 'it returns false'. Refute it at one input. -/
def classMakesWrong : ChangeSpec := { name := "classMakes", fn := fun _ => fun
  | [d1, d2] => { results := [.lit (.bool false)], args := [d1, d2] }
  | _ => none }
def ClassMakesWrongFalsely : Prop := classMakesRow.holds Try.pinned (OpenSpec.ofChange classMakesWrong)

/-- 'mallowlaw5.ClassOf': WHATEVER THE INPUT: true; the input reads as it did. -/
def classOfSpec : ChangeSpec := { name := "classOf", fn := fun _ => fun
  | [d1, d2] => { results := [.lit (.bool true)], args := [d1, d2] }
  | _ => none }
def classOfRow : OpenClaim := { program := "ytiocfifgfjkgfaa", sum := "f2006604be435d11db71bdc8f682d6075e9e27b5be2238cf311280d38c28972a", func := "mallow/mallowlaw5.ClassOf", spec := "classOf", inPlace := ["math/bits.Add64"], unfollowed := true, recurses := true, apart := false }
def ClassOfSaid : Prop := classOfRow.holds Try.pinned (OpenSpec.ofChange classOfSpec)

/-- ITS FALSE NEIGHBOUR: 'it returns false'. Refute it at one input. -/
def classOfWrong : ChangeSpec := { name := "classOf", fn := fun _ => fun
  | [d1, d2] => { results := [.lit (.bool false)], args := [d1, d2] }
  | _ => none }
def ClassOfWrongFalsely : Prop := classOfRow.holds Try.pinned (OpenSpec.ofChange classOfWrong)

/-- 'mallowlaw5.ClassWaste': WHATEVER THE INPUT: true; the input reads as it did. -/
def classWasteSpec : ChangeSpec := { name := "classWaste", fn := fun _ => fun
  | [d1, d2] => { results := [.lit (.bool true)], args := [d1, d2] }
  | _ => none }
def classWasteRow : OpenClaim := { program := "ytiocfifgfjkgfaa", sum := "f2006604be435d11db71bdc8f682d6075e9e27b5be2238cf311280d38c28972a", func := "mallow/mallowlaw5.ClassWaste", spec := "classWaste", inPlace := ["math/bits.Add64"], unfollowed := true, recurses := true, apart := false }
def ClassWasteSaid : Prop := classWasteRow.holds Try.pinned (OpenSpec.ofChange classWasteSpec)

/-- ITS FALSE NEIGHBOUR: 'it returns false'. Refute it at one input. -/
def classWasteWrong : ChangeSpec := { name := "classWaste", fn := fun _ => fun
  | [d1, d2] => { results := [.lit (.bool false)], args := [d1, d2] }
  | _ => none }
def ClassWasteWrongFalsely : Prop := classWasteRow.holds Try.pinned (OpenSpec.ofChange classWasteWrong)

/-- 'mallowlaw5.ClassFits': WHATEVER THE INPUT: true; the input reads as it did. -/
def classFitsSpec : ChangeSpec := { name := "classFits", fn := fun _ => fun
  | [d] => { results := [.lit (.bool true)], args := [d] }
  | _ => none }
def classFitsRow : OpenClaim := { program := "ytiocfifgfjkgfaa", sum := "f2006604be435d11db71bdc8f682d6075e9e27b5be2238cf311280d38c28972a", func := "mallow/mallowlaw5.ClassFits", spec := "classFits", inPlace := ["math/bits.Add64"], unfollowed := true, recurses := true, apart := false }
def ClassFitsSaid : Prop := classFitsRow.holds Try.pinned (OpenSpec.ofChange classFitsSpec)

/-- ITS FALSE NEIGHBOUR: 'it returns false'. Refute it at one input. -/
def classFitsWrong : ChangeSpec := { name := "classFits", fn := fun _ => fun
  | [d] => { results := [.lit (.bool false)], args := [d] }
  | _ => none }
def ClassFitsWrongFalsely : Prop := classFitsRow.holds Try.pinned (OpenSpec.ofChange classFitsWrong)

/-- 'mallowlaw5.ClassSlots': WHATEVER THE INPUT: true; the input reads as it did. -/
def classSlotsSpec : ChangeSpec := { name := "classSlots", fn := fun _ => fun
  | [d1, d2] => { results := [.lit (.bool true)], args := [d1, d2] }
  | _ => none }
def classSlotsRow : OpenClaim := { program := "ytiocfifgfjkgfaa", sum := "f2006604be435d11db71bdc8f682d6075e9e27b5be2238cf311280d38c28972a", func := "mallow/mallowlaw5.ClassSlots", spec := "classSlots", inPlace := ["math/bits.Add64"], unfollowed := true, recurses := true, apart := false }
def ClassSlotsSaid : Prop := classSlotsRow.holds Try.pinned (OpenSpec.ofChange classSlotsSpec)

/-- ITS FALSE NEIGHBOUR: 'it returns false'. Refute it at one input. -/
def classSlotsWrong : ChangeSpec := { name := "classSlots", fn := fun _ => fun
  | [d1, d2] => { results := [.lit (.bool false)], args := [d1, d2] }
  | _ => none }
def ClassSlotsWrongFalsely : Prop := classSlotsRow.holds Try.pinned (OpenSpec.ofChange classSlotsWrong)

/-- 'mallowlaw5.ClassPowers': WHATEVER THE INPUT: true; the input reads as it did. -/
def classPowersSpec : ChangeSpec := { name := "classPowers", fn := fun _ => fun
  | [d1, d2, d3] => { results := [.lit (.bool true)], args := [d1, d2, d3] }
  | _ => none }
def classPowersRow : OpenClaim := { program := "ytiocfifgfjkgfaa", sum := "f2006604be435d11db71bdc8f682d6075e9e27b5be2238cf311280d38c28972a", func := "mallow/mallowlaw5.ClassPowers", spec := "classPowers", inPlace := ["math/bits.Add64"], unfollowed := true, recurses := true, apart := false }
def ClassPowersSaid : Prop := classPowersRow.holds Try.pinned (OpenSpec.ofChange classPowersSpec)

/-- ITS FALSE NEIGHBOUR: 'it returns false'. Refute it at one input. -/
def classPowersWrong : ChangeSpec := { name := "classPowers", fn := fun _ => fun
  | [d1, d2, d3] => { results := [.lit (.bool false)], args := [d1, d2, d3] }
  | _ => none }
def ClassPowersWrongFalsely : Prop := classPowersRow.holds Try.pinned (OpenSpec.ofChange classPowersWrong)

/- THE SECOND FORM. 'bulk': how many values and letters a reading holds, each counted each time it is reached (what is shared counts as often as it is met; a slice's spare places count too). A statement '..UptoSaid' is the law's where the arguments, and the package variables that the reading takes, are together of bulk at most 1048576: NARROWER than '..Said'. Prove '..Said' where nothing that the law and all that it calls make is longer than what came in: it says more and counts as full. Else prove '..UptoSaid'. A law counts once. -/
mutual
def uptoBulk {H : Type} : DataW H → Nat
  | .lit (.string bytes) => bytes.length + 1
  | .lit _ => 1
  | .nil => 1
  | .ptr d => uptoBulk d + 1
  | .slice elems spare => uptoBulkAll elems + uptoBulkAll spare + 1
  | .agg parts => uptoBulkAll parts + 1
  | .iface _ d => uptoBulk d + 1
  | .map entries => uptoBulkEntries entries + 1
  | .held _ => 1
def uptoBulkAll {H : Type} : List (DataW H) → Nat
  | [] => 0
  | d :: r => uptoBulk d + uptoBulkAll r
def uptoBulkEntries {H : Type} : List (Lit × DataW H) → Nat
  | [] => 0
  | x :: r => uptoBulkEntry x + uptoBulkEntries r
def uptoBulkEntry {H : Type} : Lit × DataW H → Nat
  | (.string bytes, d) => bytes.length + uptoBulk d + 1
  | (_, d) => uptoBulk d + 1
 end
def uptoSmall : (H : Type) → List (DataW H) → Bool := fun _ ds => decide (uptoBulkAll ds ≤ 1048576)
def OpenSpec.upto (s : _root_.Go.ChangeSpec) : _root_.Go.OpenSpec := { _root_.Go.OpenSpec.ofChange s with cond := some uptoSmall }

/-- 'mallowlaw5.ClassMakes', WHERE WHAT IT READS IS OF BULK AT MOST 1048576: true; the input reads as it did. -/
def classMakesUptoRow : OpenClaim := { program := "ytiocfifgfjkgfaa", sum := "f2006604be435d11db71bdc8f682d6075e9e27b5be2238cf311280d38c28972a", func := "mallow/mallowlaw5.ClassMakes", spec := "classMakes", inPlace := ["math/bits.Add64"], unfollowed := true, recurses := true, apart := false, narrowed := true }
def ClassMakesUptoSaid : Prop := classMakesUptoRow.holds Try.pinned (OpenSpec.upto classMakesSpec)

/-- 'mallowlaw5.ClassOf', WHERE WHAT IT READS IS OF BULK AT MOST 1048576: true; the input reads as it did. -/
def classOfUptoRow : OpenClaim := { program := "ytiocfifgfjkgfaa", sum := "f2006604be435d11db71bdc8f682d6075e9e27b5be2238cf311280d38c28972a", func := "mallow/mallowlaw5.ClassOf", spec := "classOf", inPlace := ["math/bits.Add64"], unfollowed := true, recurses := true, apart := false, narrowed := true }
def ClassOfUptoSaid : Prop := classOfUptoRow.holds Try.pinned (OpenSpec.upto classOfSpec)

/-- 'mallowlaw5.ClassWaste', WHERE WHAT IT READS IS OF BULK AT MOST 1048576: true; the input reads as it did. -/
def classWasteUptoRow : OpenClaim := { program := "ytiocfifgfjkgfaa", sum := "f2006604be435d11db71bdc8f682d6075e9e27b5be2238cf311280d38c28972a", func := "mallow/mallowlaw5.ClassWaste", spec := "classWaste", inPlace := ["math/bits.Add64"], unfollowed := true, recurses := true, apart := false, narrowed := true }
def ClassWasteUptoSaid : Prop := classWasteUptoRow.holds Try.pinned (OpenSpec.upto classWasteSpec)

/-- 'mallowlaw5.ClassFits', WHERE WHAT IT READS IS OF BULK AT MOST 1048576: true; the input reads as it did. -/
def classFitsUptoRow : OpenClaim := { program := "ytiocfifgfjkgfaa", sum := "f2006604be435d11db71bdc8f682d6075e9e27b5be2238cf311280d38c28972a", func := "mallow/mallowlaw5.ClassFits", spec := "classFits", inPlace := ["math/bits.Add64"], unfollowed := true, recurses := true, apart := false, narrowed := true }
def ClassFitsUptoSaid : Prop := classFitsUptoRow.holds Try.pinned (OpenSpec.upto classFitsSpec)

/-- 'mallowlaw5.ClassSlots', WHERE WHAT IT READS IS OF BULK AT MOST 1048576: true; the input reads as it did. -/
def classSlotsUptoRow : OpenClaim := { program := "ytiocfifgfjkgfaa", sum := "f2006604be435d11db71bdc8f682d6075e9e27b5be2238cf311280d38c28972a", func := "mallow/mallowlaw5.ClassSlots", spec := "classSlots", inPlace := ["math/bits.Add64"], unfollowed := true, recurses := true, apart := false, narrowed := true }
def ClassSlotsUptoSaid : Prop := classSlotsUptoRow.holds Try.pinned (OpenSpec.upto classSlotsSpec)

/-- 'mallowlaw5.ClassPowers', WHERE WHAT IT READS IS OF BULK AT MOST 1048576: true; the input reads as it did. -/
def classPowersUptoRow : OpenClaim := { program := "ytiocfifgfjkgfaa", sum := "f2006604be435d11db71bdc8f682d6075e9e27b5be2238cf311280d38c28972a", func := "mallow/mallowlaw5.ClassPowers", spec := "classPowers", inPlace := ["math/bits.Add64"], unfollowed := true, recurses := true, apart := false, narrowed := true }
def ClassPowersUptoSaid : Prop := classPowersUptoRow.holds Try.pinned (OpenSpec.upto classPowersSpec)

end Rows
end Go.Proofs.Ytiocfifgfjkgfaa
