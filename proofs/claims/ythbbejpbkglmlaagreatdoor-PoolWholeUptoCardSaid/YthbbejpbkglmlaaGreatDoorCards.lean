/-
  DERIVED. GIVEN WITH THE SEED: THE CARDS: each row of YthbbejpbkglmlaaGreatDoorRows.lean that lists a variable, with what it lists TIED to the program's text (the seventh form; the later family's looks); each row that meets fmt, with fmt's text TOLD by the authors' own Lean function (tested against real Go, not proved from fmt's source: count such statements apart). THE CARD IS WHAT COUNTS. Prove the row's statement (the work); the ties are given (YthbbejpbkglmlaaGreatDoorTie.lean); close each card by the builder's one call (the guide's Derived/Test/ToyasCard.lean, 'card_holds'). Laid BY PROGRAM, IN A SANDBOX (cutbox-door.mjs). By AI agents, Wed Nov 11 2026. No macro, syntax, notation, axiom, sorry.
-/
import Derived.Test.YthbbejpbkglmlaaGreatDoorRows
import GoSem.ClaimSeven
namespace Go.Proofs.YthbbejpbkglmlaaGreatDoor
namespace Rows

/-- THE TIED CARD OF 'polderlaw10.PoolFill'. -/
def poolFillCard : Claim7 := { stood := { row := poolFillRow, standIns := [], harness := (true, "8b5e92f672d6a38e082c9a1029cf8e199ea1a540959bd652a30543a0ff7ee596"), looks := false }, kinds := [], alts := [], laidByText := true, laidKinds := [.data, .data, .pinned], laidTests := true, laidLooks := .later }
def PoolFillCardSaid : Prop := Claim7.holds Tryz.pinned (.plain (OpenSpec.ofChange poolFillSpec)) poolFillCard

/-- THE TIED CARD OF 'polderlaw10.PoolRefs'. -/
def poolRefsCard : Claim7 := { stood := { row := poolRefsRow, standIns := [], harness := (true, "8b5e92f672d6a38e082c9a1029cf8e199ea1a540959bd652a30543a0ff7ee596"), looks := false }, kinds := [], alts := [], laidByText := true, laidKinds := [.data, .data, .pinned], laidTests := true, laidLooks := .later }
def PoolRefsCardSaid : Prop := Claim7.holds Tryz.pinned (.plain (OpenSpec.ofChange poolRefsSpec)) poolRefsCard

/-- THE TIED CARD OF 'polderlaw10.PoolLate'. -/
def poolLateCard : Claim7 := { stood := { row := poolLateRow, standIns := [], harness := (true, "8b5e92f672d6a38e082c9a1029cf8e199ea1a540959bd652a30543a0ff7ee596"), looks := false }, kinds := [], alts := [], laidByText := true, laidKinds := [.data, .data, .pinned], laidTests := true, laidLooks := .later }
def PoolLateCardSaid : Prop := Claim7.holds Tryz.pinned (.plain (OpenSpec.ofChange poolLateSpec)) poolLateCard

/-- THE TIED CARD OF 'polderlaw10.PoolWhole'. -/
def poolWholeCard : Claim7 := { stood := { row := poolWholeRow, standIns := [], harness := (true, "8b5e92f672d6a38e082c9a1029cf8e199ea1a540959bd652a30543a0ff7ee596"), looks := false }, kinds := [], alts := [], laidByText := true, laidKinds := [.data, .data, .pinned], laidTests := true, laidLooks := .later }
def PoolWholeCardSaid : Prop := Claim7.holds Tryz.pinned (.plain (OpenSpec.ofChange poolWholeSpec)) poolWholeCard

/-- THE TIED CARD OF 'polderlaw10.PoolAgain'. -/
def poolAgainCard : Claim7 := { stood := { row := poolAgainRow, standIns := [], harness := (true, "8b5e92f672d6a38e082c9a1029cf8e199ea1a540959bd652a30543a0ff7ee596"), looks := false }, kinds := [], alts := [], laidByText := true, laidKinds := [.data, .data, .pinned], laidTests := true, laidLooks := .later }
def PoolAgainCardSaid : Prop := Claim7.holds Tryz.pinned (.plain (OpenSpec.ofChange poolAgainSpec)) poolAgainCard

/-- THE SECOND FORM's CARD OF 'polderlaw10.PoolFill'. -/
def poolFillUptoCard : Claim7 := { stood := { row := poolFillUptoRow, standIns := [], harness := (true, "8b5e92f672d6a38e082c9a1029cf8e199ea1a540959bd652a30543a0ff7ee596"), looks := false }, kinds := [], alts := [], laidByText := true, laidKinds := [.data, .data, .pinned], laidTests := true, laidLooks := .later }
def PoolFillUptoCardSaid : Prop := Claim7.holds Tryz.pinned (.plain (OpenSpec.upto poolFillSpec)) poolFillUptoCard

/-- THE SECOND FORM's CARD OF 'polderlaw10.PoolRefs'. -/
def poolRefsUptoCard : Claim7 := { stood := { row := poolRefsUptoRow, standIns := [], harness := (true, "8b5e92f672d6a38e082c9a1029cf8e199ea1a540959bd652a30543a0ff7ee596"), looks := false }, kinds := [], alts := [], laidByText := true, laidKinds := [.data, .data, .pinned], laidTests := true, laidLooks := .later }
def PoolRefsUptoCardSaid : Prop := Claim7.holds Tryz.pinned (.plain (OpenSpec.upto poolRefsSpec)) poolRefsUptoCard

/-- THE SECOND FORM's CARD OF 'polderlaw10.PoolLate'. -/
def poolLateUptoCard : Claim7 := { stood := { row := poolLateUptoRow, standIns := [], harness := (true, "8b5e92f672d6a38e082c9a1029cf8e199ea1a540959bd652a30543a0ff7ee596"), looks := false }, kinds := [], alts := [], laidByText := true, laidKinds := [.data, .data, .pinned], laidTests := true, laidLooks := .later }
def PoolLateUptoCardSaid : Prop := Claim7.holds Tryz.pinned (.plain (OpenSpec.upto poolLateSpec)) poolLateUptoCard

/-- THE SECOND FORM's CARD OF 'polderlaw10.PoolWhole'. -/
def poolWholeUptoCard : Claim7 := { stood := { row := poolWholeUptoRow, standIns := [], harness := (true, "8b5e92f672d6a38e082c9a1029cf8e199ea1a540959bd652a30543a0ff7ee596"), looks := false }, kinds := [], alts := [], laidByText := true, laidKinds := [.data, .data, .pinned], laidTests := true, laidLooks := .later }
def PoolWholeUptoCardSaid : Prop := Claim7.holds Tryz.pinned (.plain (OpenSpec.upto poolWholeSpec)) poolWholeUptoCard

/-- THE SECOND FORM's CARD OF 'polderlaw10.PoolAgain'. -/
def poolAgainUptoCard : Claim7 := { stood := { row := poolAgainUptoRow, standIns := [], harness := (true, "8b5e92f672d6a38e082c9a1029cf8e199ea1a540959bd652a30543a0ff7ee596"), looks := false }, kinds := [], alts := [], laidByText := true, laidKinds := [.data, .data, .pinned], laidTests := true, laidLooks := .later }
def PoolAgainUptoCardSaid : Prop := Claim7.holds Tryz.pinned (.plain (OpenSpec.upto poolAgainSpec)) poolAgainUptoCard
end Rows
end Go.Proofs.YthbbejpbkglmlaaGreatDoor
