/-
  DERIVED. GIVEN WITH THE SEED: THE CARDS: each row of YtanejicgmgpjcaaDoorRows.lean that lists a variable, with what it lists TIED to the program's text (the seventh form; the later family's looks); each row that meets fmt, with fmt's text TOLD by the authors' own Lean function (tested against real Go, not proved from fmt's source: count such statements apart). THE CARD IS WHAT COUNTS. Prove the row's statement (the work); the ties are given (YtanejicgmgpjcaaDoorTie.lean); close each card by the builder's one call (the guide's Derived/Test/ToyasCard.lean, 'card_holds'). Laid BY PROGRAM, IN A SANDBOX (cutbox-door.mjs). By AI agents, Wed Nov 11 2026. No macro, syntax, notation, axiom, sorry.
-/
import Derived.Test.YtanejicgmgpjcaaDoorRows
import GoSem.ClaimSeven
namespace Go.Proofs.YtanejicgmgpjcaaDoor
namespace Rows

/-- THE TIED CARD OF 'polderlaw05.LogBack'. -/
def logBackCard : Claim7 := { stood := { row := logBackRow, standIns := [], harness := (true, "6011c34b409e432d0189b6763db43fe0680f71d575b2158b40fc94149e1f6f49"), looks := false }, kinds := [], alts := [], laidByText := true, laidKinds := [.data, .pinned], laidTests := true, laidLooks := .later }
def LogBackCardSaid : Prop := Claim7.holds Tryd.pinned (.plain (OpenSpec.ofChange logBackSpec)) logBackCard

/-- THE TIED CARD OF 'polderlaw05.LogRoom'. -/
def logRoomCard : Claim7 := { stood := { row := logRoomRow, standIns := [], harness := (true, "6011c34b409e432d0189b6763db43fe0680f71d575b2158b40fc94149e1f6f49"), looks := false }, kinds := [], alts := [], laidByText := true, laidKinds := [.data, .pinned], laidTests := true, laidLooks := .later }
def LogRoomCardSaid : Prop := Claim7.holds Tryd.pinned (.plain (OpenSpec.ofChange logRoomSpec)) logRoomCard

/-- THE SECOND FORM's CARD OF 'polderlaw05.LogBack'. -/
def logBackUptoCard : Claim7 := { stood := { row := logBackUptoRow, standIns := [], harness := (true, "6011c34b409e432d0189b6763db43fe0680f71d575b2158b40fc94149e1f6f49"), looks := false }, kinds := [], alts := [], laidByText := true, laidKinds := [.data, .pinned], laidTests := true, laidLooks := .later }
def LogBackUptoCardSaid : Prop := Claim7.holds Tryd.pinned (.plain (OpenSpec.upto logBackSpec)) logBackUptoCard

/-- THE SECOND FORM's CARD OF 'polderlaw05.LogRoom'. -/
def logRoomUptoCard : Claim7 := { stood := { row := logRoomUptoRow, standIns := [], harness := (true, "6011c34b409e432d0189b6763db43fe0680f71d575b2158b40fc94149e1f6f49"), looks := false }, kinds := [], alts := [], laidByText := true, laidKinds := [.data, .pinned], laidTests := true, laidLooks := .later }
def LogRoomUptoCardSaid : Prop := Claim7.holds Tryd.pinned (.plain (OpenSpec.upto logRoomSpec)) logRoomUptoCard
end Rows
end Go.Proofs.YtanejicgmgpjcaaDoor
