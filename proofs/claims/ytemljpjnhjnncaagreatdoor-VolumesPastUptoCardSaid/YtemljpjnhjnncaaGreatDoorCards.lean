/-
  DERIVED. GIVEN WITH THE SEED: THE CARDS: each row of YtemljpjnhjnncaaGreatDoorRows.lean that lists a variable, with what it lists TIED to the program's text (the seventh form; the later family's looks); each row that meets fmt, with fmt's text TOLD by the authors' own Lean function (tested against real Go, not proved from fmt's source: count such statements apart). THE CARD IS WHAT COUNTS. Prove the row's statement (the work); the ties are given (YtemljpjnhjnncaaGreatDoorTie.lean); close each card by the builder's one call (the guide's Derived/Test/ToyasCard.lean, 'card_holds'). Laid BY PROGRAM, IN A SANDBOX (cutbox-door.mjs). By AI agents, Wed Nov 11 2026. No macro, syntax, notation, axiom, sorry.
-/
import Derived.Test.YtemljpjnhjnncaaGreatDoorRows
import GoSem.ClaimSeven
namespace Go.Proofs.YtemljpjnhjnncaaGreatDoor
namespace Rows

/-- THE TIED CARD OF 'polderlaw15.VolumesIsolated'. -/
def volumesIsolatedCard : Claim7 := { stood := { row := volumesIsolatedRow, standIns := [], harness := (true, "4aa4924f33f55518e9bf81d499bb4d862e3e79f954e1e629c22498f7e4d2525a"), looks := false }, kinds := [], alts := [], laidByText := true, laidKinds := [.data, .data, .pinned], laidTests := true, laidLooks := .later }
def VolumesIsolatedCardSaid : Prop := Claim7.holds Tryz.pinned (.plain (OpenSpec.ofChange volumesIsolatedSpec)) volumesIsolatedCard

/-- THE TIED CARD OF 'polderlaw15.VolumesPast'. -/
def volumesPastCard : Claim7 := { stood := { row := volumesPastRow, standIns := [], harness := (true, "4aa4924f33f55518e9bf81d499bb4d862e3e79f954e1e629c22498f7e4d2525a"), looks := false }, kinds := [], alts := [], laidByText := true, laidKinds := [.data, .data, .pinned], laidTests := true, laidLooks := .later }
def VolumesPastCardSaid : Prop := Claim7.holds Tryz.pinned (.plain (OpenSpec.ofChange volumesPastSpec)) volumesPastCard

/-- THE SECOND FORM's CARD OF 'polderlaw15.VolumesIsolated'. -/
def volumesIsolatedUptoCard : Claim7 := { stood := { row := volumesIsolatedUptoRow, standIns := [], harness := (true, "4aa4924f33f55518e9bf81d499bb4d862e3e79f954e1e629c22498f7e4d2525a"), looks := false }, kinds := [], alts := [], laidByText := true, laidKinds := [.data, .data, .pinned], laidTests := true, laidLooks := .later }
def VolumesIsolatedUptoCardSaid : Prop := Claim7.holds Tryz.pinned (.plain (OpenSpec.upto volumesIsolatedSpec)) volumesIsolatedUptoCard

/-- THE SECOND FORM's CARD OF 'polderlaw15.VolumesPast'. -/
def volumesPastUptoCard : Claim7 := { stood := { row := volumesPastUptoRow, standIns := [], harness := (true, "4aa4924f33f55518e9bf81d499bb4d862e3e79f954e1e629c22498f7e4d2525a"), looks := false }, kinds := [], alts := [], laidByText := true, laidKinds := [.data, .data, .pinned], laidTests := true, laidLooks := .later }
def VolumesPastUptoCardSaid : Prop := Claim7.holds Tryz.pinned (.plain (OpenSpec.upto volumesPastSpec)) volumesPastUptoCard
end Rows
end Go.Proofs.YtemljpjnhjnncaaGreatDoor
