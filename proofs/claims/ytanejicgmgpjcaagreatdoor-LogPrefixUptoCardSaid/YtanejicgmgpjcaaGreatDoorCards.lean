/-
  DERIVED. GIVEN WITH THE SEED: THE CARDS: each row of YtanejicgmgpjcaaGreatDoorRows.lean that lists a variable, with what it lists TIED to the program's text (the seventh form; the later family's looks); each row that meets fmt, with fmt's text TOLD by the authors' own Lean function (tested against real Go, not proved from fmt's source: count such statements apart). THE CARD IS WHAT COUNTS. Prove the row's statement (the work); the ties are given (YtanejicgmgpjcaaGreatDoorTie.lean); close each card by the builder's one call (the guide's Derived/Test/ToyasCard.lean, 'card_holds'). Laid BY PROGRAM, IN A SANDBOX (cutbox-door.mjs). By AI agents, Wed Nov 11 2026. No macro, syntax, notation, axiom, sorry.
-/
import Derived.Test.YtanejicgmgpjcaaGreatDoorRows
import GoSem.ClaimSeven
namespace Go.Proofs.YtanejicgmgpjcaaGreatDoor
namespace Rows

/-- THE TIED CARD OF 'polderlaw05.LogInside'. -/
def logInsideCard : Claim7 := { stood := { row := logInsideRow, standIns := [], harness := (true, "5a889221e43606605e5eefac3c2b14d20b2cf2e79e206393c7f20142717d80c0"), looks := false }, kinds := [], alts := [], laidByText := true, laidKinds := [.data, .pinned], laidTests := true, laidLooks := .later }
def LogInsideCardSaid : Prop := Claim7.holds Tryz.pinned (.plain (OpenSpec.ofChange logInsideSpec)) logInsideCard

/-- THE TIED CARD OF 'polderlaw05.LogPrefix'. -/
def logPrefixCard : Claim7 := { stood := { row := logPrefixRow, standIns := [], harness := (true, "5a889221e43606605e5eefac3c2b14d20b2cf2e79e206393c7f20142717d80c0"), looks := false }, kinds := [], alts := [], laidByText := true, laidKinds := [.data, .pinned], laidTests := true, laidLooks := .later }
def LogPrefixCardSaid : Prop := Claim7.holds Tryz.pinned (.plain (OpenSpec.ofChange logPrefixSpec)) logPrefixCard

/-- THE SECOND FORM's CARD OF 'polderlaw05.LogInside'. -/
def logInsideUptoCard : Claim7 := { stood := { row := logInsideUptoRow, standIns := [], harness := (true, "5a889221e43606605e5eefac3c2b14d20b2cf2e79e206393c7f20142717d80c0"), looks := false }, kinds := [], alts := [], laidByText := true, laidKinds := [.data, .pinned], laidTests := true, laidLooks := .later }
def LogInsideUptoCardSaid : Prop := Claim7.holds Tryz.pinned (.plain (OpenSpec.upto logInsideSpec)) logInsideUptoCard

/-- THE SECOND FORM's CARD OF 'polderlaw05.LogPrefix'. -/
def logPrefixUptoCard : Claim7 := { stood := { row := logPrefixUptoRow, standIns := [], harness := (true, "5a889221e43606605e5eefac3c2b14d20b2cf2e79e206393c7f20142717d80c0"), looks := false }, kinds := [], alts := [], laidByText := true, laidKinds := [.data, .pinned], laidTests := true, laidLooks := .later }
def LogPrefixUptoCardSaid : Prop := Claim7.holds Tryz.pinned (.plain (OpenSpec.upto logPrefixSpec)) logPrefixUptoCard
end Rows
end Go.Proofs.YtanejicgmgpjcaaGreatDoor
