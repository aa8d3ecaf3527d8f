/-
  DERIVED. GIVEN WITH THE SEED: THE CARDS: each row of YtjegbnfpodadcaaGreatDoorRows.lean that lists a variable, with what it lists TIED to the program's text (the seventh form; the later family's looks); each row that meets fmt, with fmt's text TOLD by the authors' own Lean function (tested against real Go, not proved from fmt's source: count such statements apart). THE CARD IS WHAT COUNTS. Prove the row's statement (the work); the ties are given (YtjegbnfpodadcaaGreatDoorTie.lean); close each card by the builder's one call (the guide's Derived/Test/ToyasCard.lean, 'card_holds'). Laid BY PROGRAM, IN A SANDBOX (cutbox-door.mjs). By AI agents, Wed Nov 11 2026. No macro, syntax, notation, axiom, sorry.
-/
import Derived.Test.YtjegbnfpodadcaaGreatDoorRows
import GoSem.ClaimSeven
namespace Go.Proofs.YtjegbnfpodadcaaGreatDoor
namespace Rows

/-- THE TIED CARD OF 'polderlaw14.ThinPlays'. -/
def thinPlaysCard : Claim7 := { stood := { row := thinPlaysRow, standIns := [], harness := (true, "601b75341895b5bf42bc4b199ac8075e17e8be71e76ddcda66f64659e6e47e72"), looks := false }, kinds := [], alts := [], laidByText := true, laidKinds := [.data, .data, .pinned], laidTests := true, laidLooks := .later }
def ThinPlaysCardSaid : Prop := Claim7.holds Tryz.pinned (.plain (OpenSpec.ofChange thinPlaysSpec)) thinPlaysCard

/-- THE TIED CARD OF 'polderlaw14.ThinShared'. -/
def thinSharedCard : Claim7 := { stood := { row := thinSharedRow, standIns := [], harness := (true, "601b75341895b5bf42bc4b199ac8075e17e8be71e76ddcda66f64659e6e47e72"), looks := false }, kinds := [], alts := [], laidByText := true, laidKinds := [.data, .data, .pinned], laidTests := true, laidLooks := .later }
def ThinSharedCardSaid : Prop := Claim7.holds Tryz.pinned (.plain (OpenSpec.ofChange thinSharedSpec)) thinSharedCard

/-- THE TIED CARD OF 'polderlaw14.ThinRefuses'. -/
def thinRefusesCard : Claim7 := { stood := { row := thinRefusesRow, standIns := [], harness := (true, "601b75341895b5bf42bc4b199ac8075e17e8be71e76ddcda66f64659e6e47e72"), looks := false }, kinds := [], alts := [], laidByText := true, laidKinds := [.data, .data, .pinned], laidTests := true, laidLooks := .later }
def ThinRefusesCardSaid : Prop := Claim7.holds Tryz.pinned (.plain (OpenSpec.ofChange thinRefusesSpec)) thinRefusesCard

/-- THE TIED CARD OF 'polderlaw14.ThinOwns'. -/
def thinOwnsCard : Claim7 := { stood := { row := thinOwnsRow, standIns := [], harness := (true, "601b75341895b5bf42bc4b199ac8075e17e8be71e76ddcda66f64659e6e47e72"), looks := false }, kinds := [], alts := [], laidByText := true, laidKinds := [.data, .data, .pinned], laidTests := true, laidLooks := .later }
def ThinOwnsCardSaid : Prop := Claim7.holds Tryz.pinned (.plain (OpenSpec.ofChange thinOwnsSpec)) thinOwnsCard

/-- THE SECOND FORM's CARD OF 'polderlaw14.ThinPlays'. -/
def thinPlaysUptoCard : Claim7 := { stood := { row := thinPlaysUptoRow, standIns := [], harness := (true, "601b75341895b5bf42bc4b199ac8075e17e8be71e76ddcda66f64659e6e47e72"), looks := false }, kinds := [], alts := [], laidByText := true, laidKinds := [.data, .data, .pinned], laidTests := true, laidLooks := .later }
def ThinPlaysUptoCardSaid : Prop := Claim7.holds Tryz.pinned (.plain (OpenSpec.upto thinPlaysSpec)) thinPlaysUptoCard

/-- THE SECOND FORM's CARD OF 'polderlaw14.ThinShared'. -/
def thinSharedUptoCard : Claim7 := { stood := { row := thinSharedUptoRow, standIns := [], harness := (true, "601b75341895b5bf42bc4b199ac8075e17e8be71e76ddcda66f64659e6e47e72"), looks := false }, kinds := [], alts := [], laidByText := true, laidKinds := [.data, .data, .pinned], laidTests := true, laidLooks := .later }
def ThinSharedUptoCardSaid : Prop := Claim7.holds Tryz.pinned (.plain (OpenSpec.upto thinSharedSpec)) thinSharedUptoCard

/-- THE SECOND FORM's CARD OF 'polderlaw14.ThinRefuses'. -/
def thinRefusesUptoCard : Claim7 := { stood := { row := thinRefusesUptoRow, standIns := [], harness := (true, "601b75341895b5bf42bc4b199ac8075e17e8be71e76ddcda66f64659e6e47e72"), looks := false }, kinds := [], alts := [], laidByText := true, laidKinds := [.data, .data, .pinned], laidTests := true, laidLooks := .later }
def ThinRefusesUptoCardSaid : Prop := Claim7.holds Tryz.pinned (.plain (OpenSpec.upto thinRefusesSpec)) thinRefusesUptoCard

/-- THE SECOND FORM's CARD OF 'polderlaw14.ThinOwns'. -/
def thinOwnsUptoCard : Claim7 := { stood := { row := thinOwnsUptoRow, standIns := [], harness := (true, "601b75341895b5bf42bc4b199ac8075e17e8be71e76ddcda66f64659e6e47e72"), looks := false }, kinds := [], alts := [], laidByText := true, laidKinds := [.data, .data, .pinned], laidTests := true, laidLooks := .later }
def ThinOwnsUptoCardSaid : Prop := Claim7.holds Tryz.pinned (.plain (OpenSpec.upto thinOwnsSpec)) thinOwnsUptoCard
end Rows
end Go.Proofs.YtjegbnfpodadcaaGreatDoor
