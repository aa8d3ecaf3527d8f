/-
  DERIVED. GIVEN WITH THE SEED: THE CARDS: each row of YtkobdhlkgmjhbaaGreatDoorRows.lean that lists a variable, with what it lists TIED to the program's text (the seventh form; the later family's looks); each row that meets fmt, with fmt's text TOLD by the authors' own Lean function (tested against real Go, not proved from fmt's source: count such statements apart). THE CARD IS WHAT COUNTS. Prove the row's statement (the work); the ties are given (YtkobdhlkgmjhbaaGreatDoorTie.lean); close each card by the builder's one call (the guide's Derived/Test/ToyasCard.lean, 'card_holds'). Laid BY PROGRAM, IN A SANDBOX (cutbox-door.mjs). By AI agents, Wed Nov 11 2026. No macro, syntax, notation, axiom, sorry.
-/
import Derived.Test.YtkobdhlkgmjhbaaGreatDoorRows
import GoSem.ClaimSeven
namespace Go.Proofs.YtkobdhlkgmjhbaaGreatDoor
namespace Rows

/-- THE TIED CARD OF 'polderlaw06.StoreApart'. -/
def storeApartCard : Claim7 := { stood := { row := storeApartRow, standIns := [], harness := (true, "c95ba1e2918cd9ad55359f707fd8d3957bda346086740f542686a54a18027bce"), looks := false }, kinds := [], alts := [], laidByText := true, laidKinds := [.data, .pinned], laidTests := true, laidLooks := .later }
def StoreApartCardSaid : Prop := Claim7.holds Tryz.pinned (.plain (OpenSpec.ofChange storeApartSpec)) storeApartCard

/-- THE TIED CARD OF 'polderlaw06.StoreOwns'. -/
def storeOwnsCard : Claim7 := { stood := { row := storeOwnsRow, standIns := [], harness := (true, "c95ba1e2918cd9ad55359f707fd8d3957bda346086740f542686a54a18027bce"), looks := false }, kinds := [], alts := [], laidByText := true, laidKinds := [.data, .pinned], laidTests := true, laidLooks := .later }
def StoreOwnsCardSaid : Prop := Claim7.holds Tryz.pinned (.plain (OpenSpec.ofChange storeOwnsSpec)) storeOwnsCard

/-- THE TIED CARD OF 'polderlaw06.StoreAgain'. -/
def storeAgainCard : Claim7 := { stood := { row := storeAgainRow, standIns := [], harness := (true, "c95ba1e2918cd9ad55359f707fd8d3957bda346086740f542686a54a18027bce"), looks := false }, kinds := [], alts := [], laidByText := true, laidKinds := [.data, .pinned], laidTests := true, laidLooks := .later }
def StoreAgainCardSaid : Prop := Claim7.holds Tryz.pinned (.plain (OpenSpec.ofChange storeAgainSpec)) storeAgainCard

/-- THE TIED CARD OF 'polderlaw06.StoreGens'. -/
def storeGensCard : Claim7 := { stood := { row := storeGensRow, standIns := [], harness := (true, "c95ba1e2918cd9ad55359f707fd8d3957bda346086740f542686a54a18027bce"), looks := false }, kinds := [], alts := [], laidByText := true, laidKinds := [.data, .pinned], laidTests := true, laidLooks := .later }
def StoreGensCardSaid : Prop := Claim7.holds Tryz.pinned (.plain (OpenSpec.ofChange storeGensSpec)) storeGensCard

/-- THE SECOND FORM's CARD OF 'polderlaw06.StoreApart'. -/
def storeApartUptoCard : Claim7 := { stood := { row := storeApartUptoRow, standIns := [], harness := (true, "c95ba1e2918cd9ad55359f707fd8d3957bda346086740f542686a54a18027bce"), looks := false }, kinds := [], alts := [], laidByText := true, laidKinds := [.data, .pinned], laidTests := true, laidLooks := .later }
def StoreApartUptoCardSaid : Prop := Claim7.holds Tryz.pinned (.plain (OpenSpec.upto storeApartSpec)) storeApartUptoCard

/-- THE SECOND FORM's CARD OF 'polderlaw06.StoreOwns'. -/
def storeOwnsUptoCard : Claim7 := { stood := { row := storeOwnsUptoRow, standIns := [], harness := (true, "c95ba1e2918cd9ad55359f707fd8d3957bda346086740f542686a54a18027bce"), looks := false }, kinds := [], alts := [], laidByText := true, laidKinds := [.data, .pinned], laidTests := true, laidLooks := .later }
def StoreOwnsUptoCardSaid : Prop := Claim7.holds Tryz.pinned (.plain (OpenSpec.upto storeOwnsSpec)) storeOwnsUptoCard

/-- THE SECOND FORM's CARD OF 'polderlaw06.StoreAgain'. -/
def storeAgainUptoCard : Claim7 := { stood := { row := storeAgainUptoRow, standIns := [], harness := (true, "c95ba1e2918cd9ad55359f707fd8d3957bda346086740f542686a54a18027bce"), looks := false }, kinds := [], alts := [], laidByText := true, laidKinds := [.data, .pinned], laidTests := true, laidLooks := .later }
def StoreAgainUptoCardSaid : Prop := Claim7.holds Tryz.pinned (.plain (OpenSpec.upto storeAgainSpec)) storeAgainUptoCard

/-- THE SECOND FORM's CARD OF 'polderlaw06.StoreGens'. -/
def storeGensUptoCard : Claim7 := { stood := { row := storeGensUptoRow, standIns := [], harness := (true, "c95ba1e2918cd9ad55359f707fd8d3957bda346086740f542686a54a18027bce"), looks := false }, kinds := [], alts := [], laidByText := true, laidKinds := [.data, .pinned], laidTests := true, laidLooks := .later }
def StoreGensUptoCardSaid : Prop := Claim7.holds Tryz.pinned (.plain (OpenSpec.upto storeGensSpec)) storeGensUptoCard
end Rows
end Go.Proofs.YtkobdhlkgmjhbaaGreatDoor
