/-
  No cell of these rows narrows 'for every input' (looked for: loops, veiled, ifaces, maps, wideKeys, modest, calm, conditions, laid).
  DERIVED. THE GIVEN ROWS OF THIS SEAT. 5 by the template 'for every input the law returns true; each argument reads behind the call as it read before'; 0 by the template 'total and deterministic' (their statements: YtahabnepjjcgoaaTotals.lean).
  GIVEN WITH THE SEED: the statements are not yours to turn. If you find one false, say at which input.
  Laid BY PROGRAM, IN A SANDBOX (cutbox-rows.mjs): the forced cells as the released guide's own fill.sh prints them over the translation a3fd7c055b001c22… (all of the seat's roots in one cut). By AI agents, Wed Nov 11 2026. No macro, syntax, notation, axiom, sorry.
-/
import Derived.Test.YtahabnepjjcgoaaChecked
import GoSem.Claim
import GoSem.ClaimJoined
import GoSem.ClaimMapViews
import Derived.JoinedTies
import Derived.KernelRfl
namespace Go.Proofs.Ytahabnepjjcgoaa
/- THE CELL 'sum', in the pinned program and in every row, IS THE sha256 OF THE DUMP (.gsa) THAT YtahabnepjjcgoaaProg.lean LOADS. Nothing in Lean hashes anything: it is a label: what it is worth is what the hold of that sum in a sandbox is worth. -/
noncomputable def Try.pinned : Pinned := { name := "ytahabnepjjcgoaa", sum := "a3fd7c055b001c22715f800a7081e0f1914d7e63a6b7c33568ba5de5eab85c08", checked := Try.checked }
namespace Rows
def none {H : Type} : Left H := { results := [], args := [] }

/-- 'mallowlaw8.ChunkFirst': WHATEVER THE INPUT: true; the input reads as it did. -/
def chunkFirstSpec : ChangeSpec := { name := "chunkFirst", fn := fun _ => fun
  | [d] => { results := [.lit (.bool true)], args := [d] }
  | _ => none }
def chunkFirstRow : OpenClaim := { program := "ytahabnepjjcgoaa", sum := "a3fd7c055b001c22715f800a7081e0f1914d7e63a6b7c33568ba5de5eab85c08", func := "mallow/mallowlaw8.ChunkFirst", spec := "chunkFirst", unfollowed := true, recurses := true, apart := false }
def ChunkFirstSaid : Prop := chunkFirstRow.holds Try.pinned (OpenSpec.ofChange chunkFirstSpec)

/-- ITS FALSE NEIGHBOUR: 'it returns false'. Refute it at one input. -/
def chunkFirstWrong : ChangeSpec := { name := "chunkFirst", fn := fun _ => fun
  | [d] => { results := [.lit (.bool false)], args := [d] }
  | _ => none }
def ChunkFirstWrongFalsely : Prop := chunkFirstRow.holds Try.pinned (OpenSpec.ofChange chunkFirstWrong)

/-- 'mallowlaw8.ChunkRelease': WHATEVER THE INPUT: true; the input reads as it did. -/
def chunkReleaseSpec : ChangeSpec := { name := "chunkRelease", fn := fun _ => fun
  | [d1, d2] => { results := [.lit (.bool true)], args := [d1, d2] }
  | _ => none }
def chunkReleaseRow : OpenClaim := { program := "ytahabnepjjcgoaa", sum := "a3fd7c055b001c22715f800a7081e0f1914d7e63a6b7c33568ba5de5eab85c08", func := "mallow/mallowlaw8.ChunkRelease", spec := "chunkRelease", unfollowed := true, recurses := true, apart := false }
def ChunkReleaseSaid : Prop := chunkReleaseRow.holds Try.pinned (OpenSpec.ofChange chunkReleaseSpec)

/-- ITS FALSE NEIGHBOUR: 'it returns false'. Refute it at one input. -/
def chunkReleaseWrong : ChangeSpec := { name := "chunkRelease", fn := fun _ => fun
  | [d1, d2] => { results := [.lit (.bool false)], args := [d1, d2] }
  | _ => none }
def ChunkReleaseWrongFalsely : Prop := chunkReleaseRow.holds Try.pinned (OpenSpec.ofChange chunkReleaseWrong)

/-- 'mallowlaw8.ChunkCounts': WHATEVER THE INPUT: true; the input reads as it did. -/
def chunkCountsSpec : ChangeSpec := { name := "chunkCounts", fn := fun _ => fun
  | [d1, d2, d3] => { results := [.lit (.bool true)], args := [d1, d2, d3] }
  | _ => none }
def chunkCountsRow : OpenClaim := { program := "ytahabnepjjcgoaa", sum := "a3fd7c055b001c22715f800a7081e0f1914d7e63a6b7c33568ba5de5eab85c08", func := "mallow/mallowlaw8.ChunkCounts", spec := "chunkCounts", unfollowed := true, recurses := true, apart := false }
def ChunkCountsSaid : Prop := chunkCountsRow.holds Try.pinned (OpenSpec.ofChange chunkCountsSpec)

/-- ITS FALSE NEIGHBOUR: 'it returns false'. Refute it at one input. -/
def chunkCountsWrong : ChangeSpec := { name := "chunkCounts", fn := fun _ => fun
  | [d1, d2, d3] => { results := [.lit (.bool false)], args := [d1, d2, d3] }
  | _ => none }
def ChunkCountsWrongFalsely : Prop := chunkCountsRow.holds Try.pinned (OpenSpec.ofChange chunkCountsWrong)

/-- 'mallowlaw8.ChunkPlays': WHATEVER THE INPUT: true; the input reads as it did. -/
def chunkPlaysSpec : ChangeSpec := { name := "chunkPlays", fn := fun _ => fun
  | [d] => { results := [.lit (.bool true)], args := [d] }
  | _ => none }
def chunkPlaysRow : OpenClaim := { program := "ytahabnepjjcgoaa", sum := "a3fd7c055b001c22715f800a7081e0f1914d7e63a6b7c33568ba5de5eab85c08", func := "mallow/mallowlaw8.ChunkPlays", spec := "chunkPlays", unfollowed := true, recurses := true, apart := false }
def ChunkPlaysSaid : Prop := chunkPlaysRow.holds Try.pinned (OpenSpec.ofChange chunkPlaysSpec)

/-- ITS FALSE NEIGHBOUR: 'it returns false'. Refute it at one input. -/
def chunkPlaysWrong : ChangeSpec := { name := "chunkPlays", fn := fun _ => fun
  | [d] => { results := [.lit (.bool false)], args := [d] }
  | _ => none }
def ChunkPlaysWrongFalsely : Prop := chunkPlaysRow.holds Try.pinned (OpenSpec.ofChange chunkPlaysWrong)

/-- 'mallowlaw8.ChunkApart': WHATEVER THE INPUT: true; the input reads as it did. -/
def chunkApartSpec : ChangeSpec := { name := "chunkApart", fn := fun _ => fun
  | [d1, d2] => { results := [.lit (.bool true)], args := [d1, d2] }
  | _ => none }
def chunkApartRow : OpenClaim := { program := "ytahabnepjjcgoaa", sum := "a3fd7c055b001c22715f800a7081e0f1914d7e63a6b7c33568ba5de5eab85c08", func := "mallow/mallowlaw8.ChunkApart", spec := "chunkApart", unfollowed := true, recurses := true, apart := false }
def ChunkApartSaid : Prop := chunkApartRow.holds Try.pinned (OpenSpec.ofChange chunkApartSpec)

/-- ITS FALSE NEIGHBOUR: 'it returns false'. Refute it at one input. -/
def chunkApartWrong : ChangeSpec := { name := "chunkApart", fn := fun _ => fun
  | [d1, d2] => { results := [.lit (.bool false)], args := [d1, d2] }
  | _ => none }
def ChunkApartWrongFalsely : Prop := chunkApartRow.holds Try.pinned (OpenSpec.ofChange chunkApartWrong)

/- THE SECOND FORM. 'bulk': how many values and letters a reading holds, each counted each time it is reached (what is shared counts as often as it is met; a slice's spare places count too). A statement '..UptoSaid' is the law's where the arguments, and the package variables that the reading takes, are together of bulk at most 1048576: NARROWER than '..Said'. Prove '..Said' where nothing that the law and all that it calls make is longer than what came in: it says more and counts as full. Else prove '..UptoSaid'. A law counts once. -/
mutual
def uptoBulk {H : Type} : DataW H → Nat
  | .lit (.string bytes) => bytes.length + 1
  | .lit _ => 1
  | .nil => 1
  | .ptr d => uptoBulk d + 1
  | .slice elems spare => uptoBulkAll elems + uptoBulkAll spare + 1
  | .agg parts => uptoBulkAll parts + 1
  | .iface _ d => uptoBulk d + 1
  | .map entries => uptoBulkEntries entries + 1
  | .held _ => 1
def uptoBulkAll {H : Type} : List (DataW H) → Nat
  | [] => 0
  | d :: r => uptoBulk d + uptoBulkAll r
def uptoBulkEntries {H : Type} : List (Lit × DataW H) → Nat
  | [] => 0
  | x :: r => uptoBulkEntry x + uptoBulkEntries r
def uptoBulkEntry {H : Type} : Lit × DataW H → Nat
  | (.string bytes, d) => bytes.length + uptoBulk d + 1
  | (_, d) => uptoBulk d + 1
 end
def uptoSmall : (H : Type) → List (DataW H) → Bool := fun _ ds => decide (uptoBulkAll ds ≤ 1048576)
def OpenSpec.upto (s : _root_.Go.ChangeSpec) : _root_.Go.OpenSpec := { _root_.Go.OpenSpec.ofChange s with cond := some uptoSmall }

/-- 'mallowlaw8.ChunkFirst', WHERE WHAT IT READS IS OF BULK AT MOST 1048576: true; the input reads as it did. -/
def chunkFirstUptoRow : OpenClaim := { program := "ytahabnepjjcgoaa", sum := "a3fd7c055b001c22715f800a7081e0f1914d7e63a6b7c33568ba5de5eab85c08", func := "mallow/mallowlaw8.ChunkFirst", spec := "chunkFirst", unfollowed := true, recurses := true, apart := false, narrowed := true }
def ChunkFirstUptoSaid : Prop := chunkFirstUptoRow.holds Try.pinned (OpenSpec.upto chunkFirstSpec)

/-- 'mallowlaw8.ChunkRelease', WHERE WHAT IT READS IS OF BULK AT MOST 1048576: true; the input reads as it did. -/
def chunkReleaseUptoRow : OpenClaim := { program := "ytahabnepjjcgoaa", sum := "a3fd7c055b001c22715f800a7081e0f1914d7e63a6b7c33568ba5de5eab85c08", func := "mallow/mallowlaw8.ChunkRelease", spec := "chunkRelease", unfollowed := true, recurses := true, apart := false, narrowed := true }
def ChunkReleaseUptoSaid : Prop := chunkReleaseUptoRow.holds Try.pinned (OpenSpec.upto chunkReleaseSpec)

/-- 'mallowlaw8.ChunkCounts', WHERE WHAT IT READS IS OF BULK AT MOST 1048576: true; the input reads as it did. -/
def chunkCountsUptoRow : OpenClaim := { program := "ytahabnepjjcgoaa", sum := "a3fd7c055b001c22715f800a7081e0f1914d7e63a6b7c33568ba5de5eab85c08", func := "mallow/mallowlaw8.ChunkCounts", spec := "chunkCounts", unfollowed := true, recurses := true, apart := false, narrowed := true }
def ChunkCountsUptoSaid : Prop := chunkCountsUptoRow.holds Try.pinned (OpenSpec.upto chunkCountsSpec)

/-- 'mallowlaw8.ChunkPlays', WHERE WHAT IT READS IS OF BULK AT MOST 1048576: true; the input reads as it did. -/
def chunkPlaysUptoRow : OpenClaim := { program := "ytahabnepjjcgoaa", sum := "a3fd7c055b001c22715f800a7081e0f1914d7e63a6b7c33568ba5de5eab85c08", func := "mallow/mallowlaw8.ChunkPlays", spec := "chunkPlays", unfollowed := true, recurses := true, apart := false, narrowed := true }
def ChunkPlaysUptoSaid : Prop := chunkPlaysUptoRow.holds Try.pinned (OpenSpec.upto chunkPlaysSpec)

/-- 'mallowlaw8.ChunkApart', WHERE WHAT IT READS IS OF BULK AT MOST 1048576: true; the input reads as it did. -/
def chunkApartUptoRow : OpenClaim := { program := "ytahabnepjjcgoaa", sum := "a3fd7c055b001c22715f800a7081e0f1914d7e63a6b7c33568ba5de5eab85c08", func := "mallow/mallowlaw8.ChunkApart", spec := "chunkApart", unfollowed := true, recurses := true, apart := false, narrowed := true }
def ChunkApartUptoSaid : Prop := chunkApartUptoRow.holds Try.pinned (OpenSpec.upto chunkApartSpec)

end Rows
end Go.Proofs.Ytahabnepjjcgoaa
