/-
  DERIVED. GIVEN WITH THE SEED: THE CARDS: each row of YtickmpiipomncaaGreatDoorRows.lean that lists a variable, with what it lists TIED to the program's text (the seventh form; the later family's looks); each row that meets fmt, with fmt's text TOLD by the authors' own Lean function (tested against real Go, not proved from fmt's source: count such statements apart). THE CARD IS WHAT COUNTS. Prove the row's statement (the work); the ties are given (YtickmpiipomncaaGreatDoorTie.lean); close each card by the builder's one call (the guide's Derived/Test/ToyasCard.lean, 'card_holds'). Laid BY PROGRAM, IN A SANDBOX (cutbox-door.mjs). By AI agents, Wed Nov 11 2026. No macro, syntax, notation, axiom, sorry.
-/
import Derived.Test.YtickmpiipomncaaGreatDoorRows
import GoSem.ClaimSeven
namespace Go.Proofs.YtickmpiipomncaaGreatDoor
namespace Rows

/-- THE TIED CARD OF 'polderlaw13.RangesScan'. -/
def rangesScanCard : Claim7 := { stood := { row := rangesScanRow, standIns := [], harness := (true, "cbb4c449707ad897713f2c024b3a265f20de2c51b4067f7adfa104e02aa4cecf"), looks := false }, kinds := [], alts := [], laidByText := true, laidKinds := [.data, .data, .pinned], laidTests := true, laidLooks := .later }
def RangesScanCardSaid : Prop := Claim7.holds Tryz.pinned (.plain (OpenSpec.ofChange rangesScanSpec)) rangesScanCard

/-- THE TIED CARD OF 'polderlaw13.RangesJoin'. -/
def rangesJoinCard : Claim7 := { stood := { row := rangesJoinRow, standIns := [], harness := (true, "cbb4c449707ad897713f2c024b3a265f20de2c51b4067f7adfa104e02aa4cecf"), looks := false }, kinds := [], alts := [], laidByText := true, laidKinds := [.data, .data, .pinned], laidTests := true, laidLooks := .later }
def RangesJoinCardSaid : Prop := Claim7.holds Tryz.pinned (.plain (OpenSpec.ofChange rangesJoinSpec)) rangesJoinCard

/-- THE TIED CARD OF 'polderlaw13.RangesFell'. -/
def rangesFellCard : Claim7 := { stood := { row := rangesFellRow, standIns := [], harness := (true, "cbb4c449707ad897713f2c024b3a265f20de2c51b4067f7adfa104e02aa4cecf"), looks := false }, kinds := [], alts := [], laidByText := true, laidKinds := [.data, .data, .pinned], laidTests := true, laidLooks := .later }
def RangesFellCardSaid : Prop := Claim7.holds Tryz.pinned (.plain (OpenSpec.ofChange rangesFellSpec)) rangesFellCard

/-- THE TIED CARD OF 'polderlaw13.RangesForest'. -/
def rangesForestCard : Claim7 := { stood := { row := rangesForestRow, standIns := [], harness := (true, "cbb4c449707ad897713f2c024b3a265f20de2c51b4067f7adfa104e02aa4cecf"), looks := false }, kinds := [], alts := [], laidByText := true, laidKinds := [.data, .data, .pinned], laidTests := true, laidLooks := .later }
def RangesForestCardSaid : Prop := Claim7.holds Tryz.pinned (.plain (OpenSpec.ofChange rangesForestSpec)) rangesForestCard

/-- THE TIED CARD OF 'polderlaw13.RangesCut'. -/
def rangesCutCard : Claim7 := { stood := { row := rangesCutRow, standIns := [], harness := (true, "cbb4c449707ad897713f2c024b3a265f20de2c51b4067f7adfa104e02aa4cecf"), looks := false }, kinds := [], alts := [], laidByText := true, laidKinds := [.data, .data, .pinned], laidTests := true, laidLooks := .later }
def RangesCutCardSaid : Prop := Claim7.holds Tryz.pinned (.plain (OpenSpec.ofChange rangesCutSpec)) rangesCutCard

/-- THE TIED CARD OF 'polderlaw13.RangesClone'. -/
def rangesCloneCard : Claim7 := { stood := { row := rangesCloneRow, standIns := [], harness := (true, "cbb4c449707ad897713f2c024b3a265f20de2c51b4067f7adfa104e02aa4cecf"), looks := false }, kinds := [], alts := [], laidByText := true, laidKinds := [.data, .data, .pinned], laidTests := true, laidLooks := .later }
def RangesCloneCardSaid : Prop := Claim7.holds Tryz.pinned (.plain (OpenSpec.ofChange rangesCloneSpec)) rangesCloneCard

/-- THE SECOND FORM's CARD OF 'polderlaw13.RangesScan'. -/
def rangesScanUptoCard : Claim7 := { stood := { row := rangesScanUptoRow, standIns := [], harness := (true, "cbb4c449707ad897713f2c024b3a265f20de2c51b4067f7adfa104e02aa4cecf"), looks := false }, kinds := [], alts := [], laidByText := true, laidKinds := [.data, .data, .pinned], laidTests := true, laidLooks := .later }
def RangesScanUptoCardSaid : Prop := Claim7.holds Tryz.pinned (.plain (OpenSpec.upto rangesScanSpec)) rangesScanUptoCard

/-- THE SECOND FORM's CARD OF 'polderlaw13.RangesJoin'. -/
def rangesJoinUptoCard : Claim7 := { stood := { row := rangesJoinUptoRow, standIns := [], harness := (true, "cbb4c449707ad897713f2c024b3a265f20de2c51b4067f7adfa104e02aa4cecf"), looks := false }, kinds := [], alts := [], laidByText := true, laidKinds := [.data, .data, .pinned], laidTests := true, laidLooks := .later }
def RangesJoinUptoCardSaid : Prop := Claim7.holds Tryz.pinned (.plain (OpenSpec.upto rangesJoinSpec)) rangesJoinUptoCard

/-- THE SECOND FORM's CARD OF 'polderlaw13.RangesFell'. -/
def rangesFellUptoCard : Claim7 := { stood := { row := rangesFellUptoRow, standIns := [], harness := (true, "cbb4c449707ad897713f2c024b3a265f20de2c51b4067f7adfa104e02aa4cecf"), looks := false }, kinds := [], alts := [], laidByText := true, laidKinds := [.data, .data, .pinned], laidTests := true, laidLooks := .later }
def RangesFellUptoCardSaid : Prop := Claim7.holds Tryz.pinned (.plain (OpenSpec.upto rangesFellSpec)) rangesFellUptoCard

/-- THE SECOND FORM's CARD OF 'polderlaw13.RangesForest'. -/
def rangesForestUptoCard : Claim7 := { stood := { row := rangesForestUptoRow, standIns := [], harness := (true, "cbb4c449707ad897713f2c024b3a265f20de2c51b4067f7adfa104e02aa4cecf"), looks := false }, kinds := [], alts := [], laidByText := true, laidKinds := [.data, .data, .pinned], laidTests := true, laidLooks := .later }
def RangesForestUptoCardSaid : Prop := Claim7.holds Tryz.pinned (.plain (OpenSpec.upto rangesForestSpec)) rangesForestUptoCard

/-- THE SECOND FORM's CARD OF 'polderlaw13.RangesCut'. -/
def rangesCutUptoCard : Claim7 := { stood := { row := rangesCutUptoRow, standIns := [], harness := (true, "cbb4c449707ad897713f2c024b3a265f20de2c51b4067f7adfa104e02aa4cecf"), looks := false }, kinds := [], alts := [], laidByText := true, laidKinds := [.data, .data, .pinned], laidTests := true, laidLooks := .later }
def RangesCutUptoCardSaid : Prop := Claim7.holds Tryz.pinned (.plain (OpenSpec.upto rangesCutSpec)) rangesCutUptoCard

/-- THE SECOND FORM's CARD OF 'polderlaw13.RangesClone'. -/
def rangesCloneUptoCard : Claim7 := { stood := { row := rangesCloneUptoRow, standIns := [], harness := (true, "cbb4c449707ad897713f2c024b3a265f20de2c51b4067f7adfa104e02aa4cecf"), looks := false }, kinds := [], alts := [], laidByText := true, laidKinds := [.data, .data, .pinned], laidTests := true, laidLooks := .later }
def RangesCloneUptoCardSaid : Prop := Claim7.holds Tryz.pinned (.plain (OpenSpec.upto rangesCloneSpec)) rangesCloneUptoCard
end Rows
end Go.Proofs.YtickmpiipomncaaGreatDoor
