/-
  DERIVED. GIVEN WITH THE SEED: THE CARDS: each row of YtbegkbjigbkljaaGreatDoorRows.lean that lists a variable, with what it lists TIED to the program's text (the seventh form; the later family's looks); each row that meets fmt, with fmt's text TOLD by the authors' own Lean function (tested against real Go, not proved from fmt's source: count such statements apart). THE CARD IS WHAT COUNTS. Prove the row's statement (the work); the ties are given (YtbegkbjigbkljaaGreatDoorTie.lean); close each card by the builder's one call (the guide's Derived/Test/ToyasCard.lean, 'card_holds'). Laid BY PROGRAM, IN A SANDBOX (cutbox-door.mjs). By AI agents, Wed Nov 11 2026. No macro, syntax, notation, axiom, sorry.
-/
import Derived.Test.YtbegkbjigbkljaaGreatDoorRows
import GoSem.ClaimSeven
namespace Go.Proofs.YtbegkbjigbkljaaGreatDoor
namespace Rows

/-- THE TIED CARD OF 'polderlaw07.RelogPlays'. -/
def relogPlaysCard : Claim7 := { stood := { row := relogPlaysRow, standIns := [], harness := (true, "789d54196c1bcadc053f4fdca4f5655a7e63f5b2b0cefbd9ffad738dc78be1b5"), looks := false }, kinds := [], alts := [], laidByText := true, laidKinds := [.data, .pinned], laidTests := true, laidLooks := .later }
def RelogPlaysCardSaid : Prop := Claim7.holds Tryz.pinned (.plain (OpenSpec.ofChange relogPlaysSpec)) relogPlaysCard

/-- THE TIED CARD OF 'polderlaw07.RelogKeeps'. -/
def relogKeepsCard : Claim7 := { stood := { row := relogKeepsRow, standIns := [], harness := (true, "789d54196c1bcadc053f4fdca4f5655a7e63f5b2b0cefbd9ffad738dc78be1b5"), looks := false }, kinds := [], alts := [], laidByText := true, laidKinds := [.data, .pinned], laidTests := true, laidLooks := .later }
def RelogKeepsCardSaid : Prop := Claim7.holds Tryz.pinned (.plain (OpenSpec.ofChange relogKeepsSpec)) relogKeepsCard

/-- THE TIED CARD OF 'polderlaw07.RelogCrash'. -/
def relogCrashCard : Claim7 := { stood := { row := relogCrashRow, standIns := [], harness := (true, "789d54196c1bcadc053f4fdca4f5655a7e63f5b2b0cefbd9ffad738dc78be1b5"), looks := false }, kinds := [], alts := [], laidByText := true, laidKinds := [.data, .pinned], laidTests := true, laidLooks := .later }
def RelogCrashCardSaid : Prop := Claim7.holds Tryz.pinned (.plain (OpenSpec.ofChange relogCrashSpec)) relogCrashCard

/-- THE SECOND FORM's CARD OF 'polderlaw07.RelogPlays'. -/
def relogPlaysUptoCard : Claim7 := { stood := { row := relogPlaysUptoRow, standIns := [], harness := (true, "789d54196c1bcadc053f4fdca4f5655a7e63f5b2b0cefbd9ffad738dc78be1b5"), looks := false }, kinds := [], alts := [], laidByText := true, laidKinds := [.data, .pinned], laidTests := true, laidLooks := .later }
def RelogPlaysUptoCardSaid : Prop := Claim7.holds Tryz.pinned (.plain (OpenSpec.upto relogPlaysSpec)) relogPlaysUptoCard

/-- THE SECOND FORM's CARD OF 'polderlaw07.RelogKeeps'. -/
def relogKeepsUptoCard : Claim7 := { stood := { row := relogKeepsUptoRow, standIns := [], harness := (true, "789d54196c1bcadc053f4fdca4f5655a7e63f5b2b0cefbd9ffad738dc78be1b5"), looks := false }, kinds := [], alts := [], laidByText := true, laidKinds := [.data, .pinned], laidTests := true, laidLooks := .later }
def RelogKeepsUptoCardSaid : Prop := Claim7.holds Tryz.pinned (.plain (OpenSpec.upto relogKeepsSpec)) relogKeepsUptoCard

/-- THE SECOND FORM's CARD OF 'polderlaw07.RelogCrash'. -/
def relogCrashUptoCard : Claim7 := { stood := { row := relogCrashUptoRow, standIns := [], harness := (true, "789d54196c1bcadc053f4fdca4f5655a7e63f5b2b0cefbd9ffad738dc78be1b5"), looks := false }, kinds := [], alts := [], laidByText := true, laidKinds := [.data, .pinned], laidTests := true, laidLooks := .later }
def RelogCrashUptoCardSaid : Prop := Claim7.holds Tryz.pinned (.plain (OpenSpec.upto relogCrashSpec)) relogCrashUptoCard
end Rows
end Go.Proofs.YtbegkbjigbkljaaGreatDoor
