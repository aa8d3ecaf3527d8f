/-
  DERIVED. GIVEN WITH THE SEED: THE CARDS: each row of YtnifkcmmanmbbaaGreatDoorRows.lean that lists a variable, with what it lists TIED to the program's text (the seventh form; the later family's looks); each row that meets fmt, with fmt's text TOLD by the authors' own Lean function (tested against real Go, not proved from fmt's source: count such statements apart). THE CARD IS WHAT COUNTS. Prove the row's statement (the work); the ties are given (YtnifkcmmanmbbaaGreatDoorTie.lean); close each card by the builder's one call (the guide's Derived/Test/ToyasCard.lean, 'card_holds'). Laid BY PROGRAM, IN A SANDBOX (cutbox-door.mjs). By AI agents, Wed Nov 11 2026. No macro, syntax, notation, axiom, sorry.
-/
import Derived.Test.YtnifkcmmanmbbaaGreatDoorRows
import GoSem.ClaimSeven
namespace Go.Proofs.YtnifkcmmanmbbaaGreatDoor
namespace Rows

/-- THE TIED CARD OF 'polderlaw15.VolumesPlay'. -/
def volumesPlayCard : Claim7 := { stood := { row := volumesPlayRow, standIns := [], harness := (true, "5bb3454146f6f9a3f500b7c612fff13738c6adbeb18f3492937389498363007c"), looks := false }, kinds := [], alts := [], laidByText := true, laidKinds := [.data, .data, .pinned], laidTests := true, laidLooks := .later }
def VolumesPlayCardSaid : Prop := Claim7.holds Tryz.pinned (.plain (OpenSpec.ofChange volumesPlaySpec)) volumesPlayCard

/-- THE SECOND FORM's CARD OF 'polderlaw15.VolumesPlay'. -/
def volumesPlayUptoCard : Claim7 := { stood := { row := volumesPlayUptoRow, standIns := [], harness := (true, "5bb3454146f6f9a3f500b7c612fff13738c6adbeb18f3492937389498363007c"), looks := false }, kinds := [], alts := [], laidByText := true, laidKinds := [.data, .data, .pinned], laidTests := true, laidLooks := .later }
def VolumesPlayUptoCardSaid : Prop := Claim7.holds Tryz.pinned (.plain (OpenSpec.upto volumesPlaySpec)) volumesPlayUptoCard
end Rows
end Go.Proofs.YtnifkcmmanmbbaaGreatDoor
