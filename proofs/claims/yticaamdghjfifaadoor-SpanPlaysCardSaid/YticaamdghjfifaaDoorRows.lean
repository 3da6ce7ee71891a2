/-
  NARROWER THAN 'FOR EVERY INPUT', by the rows' own cells (each row's printed sentence says how): SpanCycle: laid · SpanZombies: laid · SpanSlots: laid · SpanManual: laid · SpanEnds: laid · SpanPlays: laid.
  DERIVED. THE GIVEN ROWS OF THIS SEAT. 6 by the template 'for every input the law returns true; each argument reads behind the call as it read before'; 0 by the template 'total and deterministic' (their statements: YticaamdghjfifaaDoorTotals.lean).
  GIVEN WITH THE SEED: the statements are not yours to turn. If you find one false, say at which input.
  Laid BY PROGRAM, IN A SANDBOX (cutbox-rows.mjs): the forced cells as the released guide's own fill.sh prints them over the translation b7b5af63aebf56ef… (all of the seat's roots in one cut). By AI agents, Wed Nov 11 2026. No macro, syntax, notation, axiom, sorry.
-/
import Derived.Test.YticaamdghjfifaaDoorChecked
import GoSem.Claim
import GoSem.ClaimJoined
import GoSem.ClaimMapViews
import Derived.JoinedTies
import Derived.KernelRfl
namespace Go.Proofs.YticaamdghjfifaaDoor
/- THE CELL 'sum', in the pinned program and in every row, IS THE sha256 OF THE DUMP (.gsa) THAT YticaamdghjfifaaDoorProg.lean LOADS. Nothing in Lean hashes anything: it is a label: what it is worth is what the hold of that sum in a sandbox is worth. -/
noncomputable def Tryd.pinned : Pinned := { name := "yticaamdghjfifaadoor", sum := "b7b5af63aebf56efbe6f9a3db09dd2115590b204796377bdc108dde333cd6209", checked := Tryd.checked }
namespace Rows
def none {H : Type} : Left H := { results := [], args := [] }

/- WHAT THE LISTED PACKAGE-LEVEL VARIABLES READ AS WHEN THE CALL BEGINS. Each datum BY PROGRAM (the guide's laid-datum.mjs) off the statement by which the dump's own 'gosem.cut.vars' lays the variable. In a bare row this is a premise. The card (YticaamdghjfifaaDoorCards.lean) ties it to the program's text. -/
def laid_math_bits_deBruijn64tab {H : Type} : DataW H := .agg [.lit (.int .u8 0), .lit (.int .u8 1), .lit (.int .u8 56), .lit (.int .u8 2), .lit (.int .u8 57), .lit (.int .u8 49), .lit (.int .u8 28), .lit (.int .u8 3), .lit (.int .u8 61), .lit (.int .u8 58), .lit (.int .u8 42), .lit (.int .u8 50), .lit (.int .u8 38), .lit (.int .u8 29), .lit (.int .u8 17), .lit (.int .u8 4), .lit (.int .u8 62), .lit (.int .u8 47), .lit (.int .u8 59), .lit (.int .u8 36), .lit (.int .u8 45), .lit (.int .u8 43), .lit (.int .u8 51), .lit (.int .u8 22), .lit (.int .u8 53), .lit (.int .u8 39), .lit (.int .u8 33), .lit (.int .u8 30), .lit (.int .u8 24), .lit (.int .u8 18), .lit (.int .u8 12), .lit (.int .u8 5), .lit (.int .u8 63), .lit (.int .u8 55), .lit (.int .u8 48), .lit (.int .u8 27), .lit (.int .u8 60), .lit (.int .u8 41), .lit (.int .u8 37), .lit (.int .u8 16), .lit (.int .u8 46), .lit (.int .u8 35), .lit (.int .u8 44), .lit (.int .u8 21), .lit (.int .u8 52), .lit (.int .u8 32), .lit (.int .u8 23), .lit (.int .u8 11), .lit (.int .u8 54), .lit (.int .u8 26), .lit (.int .u8 40), .lit (.int .u8 15), .lit (.int .u8 34), .lit (.int .u8 20), .lit (.int .u8 31), .lit (.int .u8 10), .lit (.int .u8 25), .lit (.int .u8 14), .lit (.int .u8 19), .lit (.int .u8 9), .lit (.int .u8 13), .lit (.int .u8 8), .lit (.int .u8 7), .lit (.int .u8 6)]

/-- 'mallowlaw13.SpanCycle': WHATEVER THE INPUT: true; the input reads as it did. -/
def spanCycleSpec : ChangeSpec := { name := "spanCycle", fn := fun _ => fun
  | [d1, d2] => { results := [.lit (.bool true)], args := [d1, d2] }
  | _ => none }
def spanCycleRow : OpenClaim := { program := "yticaamdghjfifaadoor", sum := "b7b5af63aebf56efbe6f9a3db09dd2115590b204796377bdc108dde333cd6209", func := "mallow/mallowlaw13.SpanCycle", spec := "spanCycle", named := ["math/bits.deBruijn64tab"], apart := false, laid := [("math/bits.deBruijn64tab", laid_math_bits_deBruijn64tab)] }
def SpanCycleSaid : Prop := spanCycleRow.holds Tryd.pinned (OpenSpec.ofChange spanCycleSpec)

/-- ITS FALSE NEIGHBOUR: 'it returns false'. Refute it at one input. -/
def spanCycleWrong : ChangeSpec := { name := "spanCycle", fn := fun _ => fun
  | [d1, d2] => { results := [.lit (.bool false)], args := [d1, d2] }
  | _ => none }
def SpanCycleWrongFalsely : Prop := spanCycleRow.holds Tryd.pinned (OpenSpec.ofChange spanCycleWrong)

/-- 'mallowlaw13.SpanZombies': WHATEVER THE INPUT: true; the input reads as it did. -/
def spanZombiesSpec : ChangeSpec := { name := "spanZombies", fn := fun _ => fun
  | [d1, d2, d3] => { results := [.lit (.bool true)], args := [d1, d2, d3] }
  | _ => none }
def spanZombiesRow : OpenClaim := { program := "yticaamdghjfifaadoor", sum := "b7b5af63aebf56efbe6f9a3db09dd2115590b204796377bdc108dde333cd6209", func := "mallow/mallowlaw13.SpanZombies", spec := "spanZombies", named := ["math/bits.deBruijn64tab"], apart := false, laid := [("math/bits.deBruijn64tab", laid_math_bits_deBruijn64tab)] }
def SpanZombiesSaid : Prop := spanZombiesRow.holds Tryd.pinned (OpenSpec.ofChange spanZombiesSpec)

/-- ITS FALSE NEIGHBOUR: 'it returns false'. Refute it at one input. -/
def spanZombiesWrong : ChangeSpec := { name := "spanZombies", fn := fun _ => fun
  | [d1, d2, d3] => { results := [.lit (.bool false)], args := [d1, d2, d3] }
  | _ => none }
def SpanZombiesWrongFalsely : Prop := spanZombiesRow.holds Tryd.pinned (OpenSpec.ofChange spanZombiesWrong)

/-- 'mallowlaw13.SpanSlots': WHATEVER THE INPUT: true; the input reads as it did. -/
def spanSlotsSpec : ChangeSpec := { name := "spanSlots", fn := fun _ => fun
  | [d1, d2, d3] => { results := [.lit (.bool true)], args := [d1, d2, d3] }
  | _ => none }
def spanSlotsRow : OpenClaim := { program := "yticaamdghjfifaadoor", sum := "b7b5af63aebf56efbe6f9a3db09dd2115590b204796377bdc108dde333cd6209", func := "mallow/mallowlaw13.SpanSlots", spec := "spanSlots", named := ["math/bits.deBruijn64tab"], apart := false, laid := [("math/bits.deBruijn64tab", laid_math_bits_deBruijn64tab)] }
def SpanSlotsSaid : Prop := spanSlotsRow.holds Tryd.pinned (OpenSpec.ofChange spanSlotsSpec)

/-- ITS FALSE NEIGHBOUR: 'it returns false'. Refute it at one input. -/
def spanSlotsWrong : ChangeSpec := { name := "spanSlots", fn := fun _ => fun
  | [d1, d2, d3] => { results := [.lit (.bool false)], args := [d1, d2, d3] }
  | _ => none }
def SpanSlotsWrongFalsely : Prop := spanSlotsRow.holds Tryd.pinned (OpenSpec.ofChange spanSlotsWrong)

/-- 'mallowlaw13.SpanManual': WHATEVER THE INPUT: true; the input reads as it did. -/
def spanManualSpec : ChangeSpec := { name := "spanManual", fn := fun _ => fun
  | [d1, d2] => { results := [.lit (.bool true)], args := [d1, d2] }
  | _ => none }
def spanManualRow : OpenClaim := { program := "yticaamdghjfifaadoor", sum := "b7b5af63aebf56efbe6f9a3db09dd2115590b204796377bdc108dde333cd6209", func := "mallow/mallowlaw13.SpanManual", spec := "spanManual", named := ["math/bits.deBruijn64tab"], apart := false, laid := [("math/bits.deBruijn64tab", laid_math_bits_deBruijn64tab)] }
def SpanManualSaid : Prop := spanManualRow.holds Tryd.pinned (OpenSpec.ofChange spanManualSpec)

/-- ITS FALSE NEIGHBOUR: 'it returns false'. Refute it at one input. -/
def spanManualWrong : ChangeSpec := { name := "spanManual", fn := fun _ => fun
  | [d1, d2] => { results := [.lit (.bool false)], args := [d1, d2] }
  | _ => none }
def SpanManualWrongFalsely : Prop := spanManualRow.holds Tryd.pinned (OpenSpec.ofChange spanManualWrong)

/-- 'mallowlaw13.SpanEnds': WHATEVER THE INPUT: true; the input reads as it did. -/
def spanEndsSpec : ChangeSpec := { name := "spanEnds", fn := fun _ => fun
  | [d1, d2] => { results := [.lit (.bool true)], args := [d1, d2] }
  | _ => none }
def spanEndsRow : OpenClaim := { program := "yticaamdghjfifaadoor", sum := "b7b5af63aebf56efbe6f9a3db09dd2115590b204796377bdc108dde333cd6209", func := "mallow/mallowlaw13.SpanEnds", spec := "spanEnds", named := ["math/bits.deBruijn64tab"], apart := false, laid := [("math/bits.deBruijn64tab", laid_math_bits_deBruijn64tab)] }
def SpanEndsSaid : Prop := spanEndsRow.holds Tryd.pinned (OpenSpec.ofChange spanEndsSpec)

/-- ITS FALSE NEIGHBOUR: 'it returns false'. Refute it at one input. -/
def spanEndsWrong : ChangeSpec := { name := "spanEnds", fn := fun _ => fun
  | [d1, d2] => { results := [.lit (.bool false)], args := [d1, d2] }
  | _ => none }
def SpanEndsWrongFalsely : Prop := spanEndsRow.holds Tryd.pinned (OpenSpec.ofChange spanEndsWrong)

/-- 'mallowlaw13.SpanPlays': WHATEVER THE INPUT: true; the input reads as it did. -/
def spanPlaysSpec : ChangeSpec := { name := "spanPlays", fn := fun _ => fun
  | [d1, d2, d3, d4, d5, d6, d7] => { results := [.lit (.bool true)], args := [d1, d2, d3, d4, d5, d6, d7] }
  | _ => none }
def spanPlaysRow : OpenClaim := { program := "yticaamdghjfifaadoor", sum := "b7b5af63aebf56efbe6f9a3db09dd2115590b204796377bdc108dde333cd6209", func := "mallow/mallowlaw13.SpanPlays", spec := "spanPlays", named := ["math/bits.deBruijn64tab"], apart := false, laid := [("math/bits.deBruijn64tab", laid_math_bits_deBruijn64tab)] }
def SpanPlaysSaid : Prop := spanPlaysRow.holds Tryd.pinned (OpenSpec.ofChange spanPlaysSpec)

/-- ITS FALSE NEIGHBOUR: 'it returns false'. Refute it at one input. -/
def spanPlaysWrong : ChangeSpec := { name := "spanPlays", fn := fun _ => fun
  | [d1, d2, d3, d4, d5, d6, d7] => { results := [.lit (.bool false)], args := [d1, d2, d3, d4, d5, d6, d7] }
  | _ => none }
def SpanPlaysWrongFalsely : Prop := spanPlaysRow.holds Tryd.pinned (OpenSpec.ofChange spanPlaysWrong)

/- THE SECOND FORM. 'bulk': how many values and letters a reading holds, each counted each time it is reached (what is shared counts as often as it is met; a slice's spare places count too). A statement '..UptoSaid' is the law's where the arguments, and the package variables that the reading takes, are together of bulk at most 1048576: NARROWER than '..Said'. Prove '..Said' where nothing that the law and all that it calls make is longer than what came in: it says more and counts as full. Else prove '..UptoSaid'. A law counts once. -/
mutual
def uptoBulk {H : Type} : DataW H → Nat
  | .lit (.string bytes) => bytes.length + 1
  | .lit _ => 1
  | .nil => 1
  | .ptr d => uptoBulk d + 1
  | .slice elems spare => uptoBulkAll elems + uptoBulkAll spare + 1
  | .agg parts => uptoBulkAll parts + 1
  | .iface _ d => uptoBulk d + 1
  | .map entries => uptoBulkEntries entries + 1
  | .held _ => 1
def uptoBulkAll {H : Type} : List (DataW H) → Nat
  | [] => 0
  | d :: r => uptoBulk d + uptoBulkAll r
def uptoBulkEntries {H : Type} : List (Lit × DataW H) → Nat
  | [] => 0
  | x :: r => uptoBulkEntry x + uptoBulkEntries r
def uptoBulkEntry {H : Type} : Lit × DataW H → Nat
  | (.string bytes, d) => bytes.length + uptoBulk d + 1
  | (_, d) => uptoBulk d + 1
 end
def uptoSmall : (H : Type) → List (DataW H) → Bool := fun _ ds => decide (uptoBulkAll ds ≤ 1048576)
def OpenSpec.upto (s : _root_.Go.ChangeSpec) : _root_.Go.OpenSpec := { _root_.Go.OpenSpec.ofChange s with cond := some uptoSmall }

/-- 'mallowlaw13.SpanCycle', WHERE WHAT IT READS IS OF BULK AT MOST 1048576: true; the input reads as it did. -/
def spanCycleUptoRow : OpenClaim := { program := "yticaamdghjfifaadoor", sum := "b7b5af63aebf56efbe6f9a3db09dd2115590b204796377bdc108dde333cd6209", func := "mallow/mallowlaw13.SpanCycle", spec := "spanCycle", named := ["math/bits.deBruijn64tab"], apart := false, laid := [("math/bits.deBruijn64tab", laid_math_bits_deBruijn64tab)], narrowed := true }
def SpanCycleUptoSaid : Prop := spanCycleUptoRow.holds Tryd.pinned (OpenSpec.upto spanCycleSpec)

/-- 'mallowlaw13.SpanZombies', WHERE WHAT IT READS IS OF BULK AT MOST 1048576: true; the input reads as it did. -/
def spanZombiesUptoRow : OpenClaim := { program := "yticaamdghjfifaadoor", sum := "b7b5af63aebf56efbe6f9a3db09dd2115590b204796377bdc108dde333cd6209", func := "mallow/mallowlaw13.SpanZombies", spec := "spanZombies", named := ["math/bits.deBruijn64tab"], apart := false, laid := [("math/bits.deBruijn64tab", laid_math_bits_deBruijn64tab)], narrowed := true }
def SpanZombiesUptoSaid : Prop := spanZombiesUptoRow.holds Tryd.pinned (OpenSpec.upto spanZombiesSpec)

/-- 'mallowlaw13.SpanSlots', WHERE WHAT IT READS IS OF BULK AT MOST 1048576: true; the input reads as it did. -/
def spanSlotsUptoRow : OpenClaim := { program := "yticaamdghjfifaadoor", sum := "b7b5af63aebf56efbe6f9a3db09dd2115590b204796377bdc108dde333cd6209", func := "mallow/mallowlaw13.SpanSlots", spec := "spanSlots", named := ["math/bits.deBruijn64tab"], apart := false, laid := [("math/bits.deBruijn64tab", laid_math_bits_deBruijn64tab)], narrowed := true }
def SpanSlotsUptoSaid : Prop := spanSlotsUptoRow.holds Tryd.pinned (OpenSpec.upto spanSlotsSpec)

/-- 'mallowlaw13.SpanManual', WHERE WHAT IT READS IS OF BULK AT MOST 1048576: true; the input reads as it did. -/
def spanManualUptoRow : OpenClaim := { program := "yticaamdghjfifaadoor", sum := "b7b5af63aebf56efbe6f9a3db09dd2115590b204796377bdc108dde333cd6209", func := "mallow/mallowlaw13.SpanManual", spec := "spanManual", named := ["math/bits.deBruijn64tab"], apart := false, laid := [("math/bits.deBruijn64tab", laid_math_bits_deBruijn64tab)], narrowed := true }
def SpanManualUptoSaid : Prop := spanManualUptoRow.holds Tryd.pinned (OpenSpec.upto spanManualSpec)

/-- 'mallowlaw13.SpanEnds', WHERE WHAT IT READS IS OF BULK AT MOST 1048576: true; the input reads as it did. -/
def spanEndsUptoRow : OpenClaim := { program := "yticaamdghjfifaadoor", sum := "b7b5af63aebf56efbe6f9a3db09dd2115590b204796377bdc108dde333cd6209", func := "mallow/mallowlaw13.SpanEnds", spec := "spanEnds", named := ["math/bits.deBruijn64tab"], apart := false, laid := [("math/bits.deBruijn64tab", laid_math_bits_deBruijn64tab)], narrowed := true }
def SpanEndsUptoSaid : Prop := spanEndsUptoRow.holds Tryd.pinned (OpenSpec.upto spanEndsSpec)

/-- 'mallowlaw13.SpanPlays', WHERE WHAT IT READS IS OF BULK AT MOST 1048576: true; the input reads as it did. -/
def spanPlaysUptoRow : OpenClaim := { program := "yticaamdghjfifaadoor", sum := "b7b5af63aebf56efbe6f9a3db09dd2115590b204796377bdc108dde333cd6209", func := "mallow/mallowlaw13.SpanPlays", spec := "spanPlays", named := ["math/bits.deBruijn64tab"], apart := false, laid := [("math/bits.deBruijn64tab", laid_math_bits_deBruijn64tab)], narrowed := true }
def SpanPlaysUptoSaid : Prop := spanPlaysUptoRow.holds Tryd.pinned (OpenSpec.upto spanPlaysSpec)

end Rows
end Go.Proofs.YticaamdghjfifaaDoor
