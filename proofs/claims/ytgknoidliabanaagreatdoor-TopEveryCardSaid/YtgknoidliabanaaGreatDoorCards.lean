/-
  DERIVED. GIVEN WITH THE SEED: THE CARDS: each row of YtgknoidliabanaaGreatDoorRows.lean that lists a variable, with what it lists TIED to the program's text (the seventh form; the later family's looks); each row that meets fmt, with fmt's text TOLD by the authors' own Lean function (tested against real Go, not proved from fmt's source: count such statements apart). THE CARD IS WHAT COUNTS. Prove the row's statement (the work); the ties are given (YtgknoidliabanaaGreatDoorTie.lean); close each card by the builder's one call (the guide's Derived/Test/ToyasCard.lean, 'card_holds'). Laid BY PROGRAM, IN A SANDBOX (cutbox-door.mjs). By AI agents, Wed Nov 11 2026. No macro, syntax, notation, axiom, sorry.
-/
import Derived.Test.YtgknoidliabanaaGreatDoorRows
import GoSem.ClaimSeven
namespace Go.Proofs.YtgknoidliabanaaGreatDoor
namespace Rows

/-- THE TIED CARD OF 'mallowtop.TopSpecials'. -/
def topSpecialsCard : Claim7 := { stood := { row := topSpecialsRow, standIns := [], harness := (true, "52db11a75b326e2508fe05046c073773fbcc744344b3355f86803569113e0554"), looks := true }, kinds := [], alts := [], laidByText := true, laidKinds := [.data], laidTests := true, laidLooks := .later }
def TopSpecialsCardSaid : Prop := Claim7.holds Tryz.pinned (.plain (OpenSpec.ofChange topSpecialsSpec)) topSpecialsCard

/-- THE TIED CARD OF 'mallowtop.TopEvery'. -/
def topEveryCard : Claim7 := { stood := { row := topEveryRow, standIns := [], harness := (true, "52db11a75b326e2508fe05046c073773fbcc744344b3355f86803569113e0554"), looks := true }, kinds := [], alts := [], laidByText := true, laidKinds := [.data], laidTests := true, laidLooks := .later }
def TopEveryCardSaid : Prop := Claim7.holds Tryz.pinned (.plain (OpenSpec.ofChange topEverySpec)) topEveryCard

/-- THE SECOND FORM's CARD OF 'mallowtop.TopSpecials'. -/
def topSpecialsUptoCard : Claim7 := { stood := { row := topSpecialsUptoRow, standIns := [], harness := (true, "52db11a75b326e2508fe05046c073773fbcc744344b3355f86803569113e0554"), looks := true }, kinds := [], alts := [], laidByText := true, laidKinds := [.data], laidTests := true, laidLooks := .later }
def TopSpecialsUptoCardSaid : Prop := Claim7.holds Tryz.pinned (.plain (OpenSpec.upto topSpecialsSpec)) topSpecialsUptoCard

/-- THE SECOND FORM's CARD OF 'mallowtop.TopEvery'. -/
def topEveryUptoCard : Claim7 := { stood := { row := topEveryUptoRow, standIns := [], harness := (true, "52db11a75b326e2508fe05046c073773fbcc744344b3355f86803569113e0554"), looks := true }, kinds := [], alts := [], laidByText := true, laidKinds := [.data], laidTests := true, laidLooks := .later }
def TopEveryUptoCardSaid : Prop := Claim7.holds Tryz.pinned (.plain (OpenSpec.upto topEverySpec)) topEveryUptoCard
end Rows
end Go.Proofs.YtgknoidliabanaaGreatDoor
