/-
  DERIVED. GIVEN WITH THE SEED: THE CARDS: each row of YtkblhjdljaoghaaGreatDoorRows.lean that lists a variable, with what it lists TIED to the program's text (the seventh form; the later family's looks); each row that meets fmt, with fmt's text TOLD by the authors' own Lean function (tested against real Go, not proved from fmt's source: count such statements apart). THE CARD IS WHAT COUNTS. Prove the row's statement (the work); the ties are given (YtkblhjdljaoghaaGreatDoorTie.lean); close each card by the builder's one call (the guide's Derived/Test/ToyasCard.lean, 'card_holds'). Laid BY PROGRAM, IN A SANDBOX (cutbox-door.mjs). By AI agents, Wed Nov 11 2026. No macro, syntax, notation, axiom, sorry.
-/
import Derived.Test.YtkblhjdljaoghaaGreatDoorRows
import GoSem.ClaimSeven
namespace Go.Proofs.YtkblhjdljaoghaaGreatDoor
namespace Rows

/-- THE TIED CARD OF 'polderlaw15.VolumesRefused'. -/
def volumesRefusedCard : Claim7 := { stood := { row := volumesRefusedRow, standIns := [], harness := (true, "9698baf5bb074ca3a93aacf70ef9de7b3bd087c476d1aac423dd05b5e99c714a"), looks := false }, kinds := [], alts := [], laidByText := true, laidKinds := [.data, .data, .pinned], laidTests := true, laidLooks := .later }
def VolumesRefusedCardSaid : Prop := Claim7.holds Tryz.pinned (.plain (OpenSpec.ofChange volumesRefusedSpec)) volumesRefusedCard

/-- THE SECOND FORM's CARD OF 'polderlaw15.VolumesRefused'. -/
def volumesRefusedUptoCard : Claim7 := { stood := { row := volumesRefusedUptoRow, standIns := [], harness := (true, "9698baf5bb074ca3a93aacf70ef9de7b3bd087c476d1aac423dd05b5e99c714a"), looks := false }, kinds := [], alts := [], laidByText := true, laidKinds := [.data, .data, .pinned], laidTests := true, laidLooks := .later }
def VolumesRefusedUptoCardSaid : Prop := Claim7.holds Tryz.pinned (.plain (OpenSpec.upto volumesRefusedSpec)) volumesRefusedUptoCard
end Rows
end Go.Proofs.YtkblhjdljaoghaaGreatDoor
