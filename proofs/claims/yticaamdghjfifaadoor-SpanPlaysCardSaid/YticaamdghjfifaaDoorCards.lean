/-
  DERIVED. GIVEN WITH THE SEED: THE CARDS: each row of YticaamdghjfifaaDoorRows.lean that lists a variable, with what it lists TIED to the program's text (the seventh form; the later family's looks); each row that meets fmt, with fmt's text TOLD by the authors' own Lean function (tested against real Go, not proved from fmt's source: count such statements apart). THE CARD IS WHAT COUNTS. Prove the row's statement (the work); the ties are given (YticaamdghjfifaaDoorTie.lean); close each card by the builder's one call (the guide's Derived/Test/ToyasCard.lean, 'card_holds'). Laid BY PROGRAM, IN A SANDBOX (cutbox-door.mjs). By AI agents, Wed Nov 11 2026. No macro, syntax, notation, axiom, sorry.
-/
import Derived.Test.YticaamdghjfifaaDoorRows
import GoSem.ClaimSeven
namespace Go.Proofs.YticaamdghjfifaaDoor
namespace Rows

/-- THE TIED CARD OF 'mallowlaw13.SpanCycle'. -/
def spanCycleCard : Claim7 := { stood := { row := spanCycleRow, standIns := [], harness := (true, "606d7435bf8df70a5b1ea82a8d6e73e1c94889958bdbc2f71235f42508a96269"), looks := false }, kinds := [], alts := [], laidByText := true, laidKinds := [.data], laidTests := true, laidLooks := .later }
def SpanCycleCardSaid : Prop := Claim7.holds Tryd.pinned (.plain (OpenSpec.ofChange spanCycleSpec)) spanCycleCard

/-- THE TIED CARD OF 'mallowlaw13.SpanZombies'. -/
def spanZombiesCard : Claim7 := { stood := { row := spanZombiesRow, standIns := [], harness := (true, "606d7435bf8df70a5b1ea82a8d6e73e1c94889958bdbc2f71235f42508a96269"), looks := false }, kinds := [], alts := [], laidByText := true, laidKinds := [.data], laidTests := true, laidLooks := .later }
def SpanZombiesCardSaid : Prop := Claim7.holds Tryd.pinned (.plain (OpenSpec.ofChange spanZombiesSpec)) spanZombiesCard

/-- THE TIED CARD OF 'mallowlaw13.SpanSlots'. -/
def spanSlotsCard : Claim7 := { stood := { row := spanSlotsRow, standIns := [], harness := (true, "606d7435bf8df70a5b1ea82a8d6e73e1c94889958bdbc2f71235f42508a96269"), looks := false }, kinds := [], alts := [], laidByText := true, laidKinds := [.data], laidTests := true, laidLooks := .later }
def SpanSlotsCardSaid : Prop := Claim7.holds Tryd.pinned (.plain (OpenSpec.ofChange spanSlotsSpec)) spanSlotsCard

/-- THE TIED CARD OF 'mallowlaw13.SpanManual'. -/
def spanManualCard : Claim7 := { stood := { row := spanManualRow, standIns := [], harness := (true, "606d7435bf8df70a5b1ea82a8d6e73e1c94889958bdbc2f71235f42508a96269"), looks := false }, kinds := [], alts := [], laidByText := true, laidKinds := [.data], laidTests := true, laidLooks := .later }
def SpanManualCardSaid : Prop := Claim7.holds Tryd.pinned (.plain (OpenSpec.ofChange spanManualSpec)) spanManualCard

/-- THE TIED CARD OF 'mallowlaw13.SpanEnds'. -/
def spanEndsCard : Claim7 := { stood := { row := spanEndsRow, standIns := [], harness := (true, "606d7435bf8df70a5b1ea82a8d6e73e1c94889958bdbc2f71235f42508a96269"), looks := false }, kinds := [], alts := [], laidByText := true, laidKinds := [.data], laidTests := true, laidLooks := .later }
def SpanEndsCardSaid : Prop := Claim7.holds Tryd.pinned (.plain (OpenSpec.ofChange spanEndsSpec)) spanEndsCard

/-- THE TIED CARD OF 'mallowlaw13.SpanPlays'. -/
def spanPlaysCard : Claim7 := { stood := { row := spanPlaysRow, standIns := [], harness := (true, "606d7435bf8df70a5b1ea82a8d6e73e1c94889958bdbc2f71235f42508a96269"), looks := false }, kinds := [], alts := [], laidByText := true, laidKinds := [.data], laidTests := true, laidLooks := .later }
def SpanPlaysCardSaid : Prop := Claim7.holds Tryd.pinned (.plain (OpenSpec.ofChange spanPlaysSpec)) spanPlaysCard

/-- THE SECOND FORM's CARD OF 'mallowlaw13.SpanCycle'. -/
def spanCycleUptoCard : Claim7 := { stood := { row := spanCycleUptoRow, standIns := [], harness := (true, "606d7435bf8df70a5b1ea82a8d6e73e1c94889958bdbc2f71235f42508a96269"), looks := false }, kinds := [], alts := [], laidByText := true, laidKinds := [.data], laidTests := true, laidLooks := .later }
def SpanCycleUptoCardSaid : Prop := Claim7.holds Tryd.pinned (.plain (OpenSpec.upto spanCycleSpec)) spanCycleUptoCard

/-- THE SECOND FORM's CARD OF 'mallowlaw13.SpanZombies'. -/
def spanZombiesUptoCard : Claim7 := { stood := { row := spanZombiesUptoRow, standIns := [], harness := (true, "606d7435bf8df70a5b1ea82a8d6e73e1c94889958bdbc2f71235f42508a96269"), looks := false }, kinds := [], alts := [], laidByText := true, laidKinds := [.data], laidTests := true, laidLooks := .later }
def SpanZombiesUptoCardSaid : Prop := Claim7.holds Tryd.pinned (.plain (OpenSpec.upto spanZombiesSpec)) spanZombiesUptoCard

/-- THE SECOND FORM's CARD OF 'mallowlaw13.SpanSlots'. -/
def spanSlotsUptoCard : Claim7 := { stood := { row := spanSlotsUptoRow, standIns := [], harness := (true, "606d7435bf8df70a5b1ea82a8d6e73e1c94889958bdbc2f71235f42508a96269"), looks := false }, kinds := [], alts := [], laidByText := true, laidKinds := [.data], laidTests := true, laidLooks := .later }
def SpanSlotsUptoCardSaid : Prop := Claim7.holds Tryd.pinned (.plain (OpenSpec.upto spanSlotsSpec)) spanSlotsUptoCard

/-- THE SECOND FORM's CARD OF 'mallowlaw13.SpanManual'. -/
def spanManualUptoCard : Claim7 := { stood := { row := spanManualUptoRow, standIns := [], harness := (true, "606d7435bf8df70a5b1ea82a8d6e73e1c94889958bdbc2f71235f42508a96269"), looks := false }, kinds := [], alts := [], laidByText := true, laidKinds := [.data], laidTests := true, laidLooks := .later }
def SpanManualUptoCardSaid : Prop := Claim7.holds Tryd.pinned (.plain (OpenSpec.upto spanManualSpec)) spanManualUptoCard

/-- THE SECOND FORM's CARD OF 'mallowlaw13.SpanEnds'. -/
def spanEndsUptoCard : Claim7 := { stood := { row := spanEndsUptoRow, standIns := [], harness := (true, "606d7435bf8df70a5b1ea82a8d6e73e1c94889958bdbc2f71235f42508a96269"), looks := false }, kinds := [], alts := [], laidByText := true, laidKinds := [.data], laidTests := true, laidLooks := .later }
def SpanEndsUptoCardSaid : Prop := Claim7.holds Tryd.pinned (.plain (OpenSpec.upto spanEndsSpec)) spanEndsUptoCard

/-- THE SECOND FORM's CARD OF 'mallowlaw13.SpanPlays'. -/
def spanPlaysUptoCard : Claim7 := { stood := { row := spanPlaysUptoRow, standIns := [], harness := (true, "606d7435bf8df70a5b1ea82a8d6e73e1c94889958bdbc2f71235f42508a96269"), looks := false }, kinds := [], alts := [], laidByText := true, laidKinds := [.data], laidTests := true, laidLooks := .later }
def SpanPlaysUptoCardSaid : Prop := Claim7.holds Tryd.pinned (.plain (OpenSpec.upto spanPlaysSpec)) spanPlaysUptoCard
end Rows
end Go.Proofs.YticaamdghjfifaaDoor
