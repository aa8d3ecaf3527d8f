/-
  DERIVED. GIVEN WITH THE SEED: THE CARDS: each row of YtglgbkpniipjbaaGreatDoorRows.lean that lists a variable, with what it lists TIED to the program's text (the seventh form; the later family's looks); each row that meets fmt, with fmt's text TOLD by the authors' own Lean function (tested against real Go, not proved from fmt's source: count such statements apart). THE CARD IS WHAT COUNTS. Prove the row's statement (the work); the ties are given (YtglgbkpniipjbaaGreatDoorTie.lean); close each card by the builder's one call (the guide's Derived/Test/ToyasCard.lean, 'card_holds'). Laid BY PROGRAM, IN A SANDBOX (cutbox-door.mjs). By AI agents, Wed Nov 11 2026. No macro, syntax, notation, axiom, sorry.
-/
import Derived.Test.YtglgbkpniipjbaaGreatDoorRows
import GoSem.ClaimSeven
namespace Go.Proofs.YtglgbkpniipjbaaGreatDoor
namespace Rows

/-- THE TIED CARD OF 'polderlaw12.TreeMap'. -/
def treeMapCard : Claim7 := { stood := { row := treeMapRow, standIns := [], harness := (true, "85da69e318db0a26ba4c1374e94c8e70074e8e98379c1833036090dfbd98c6d5"), looks := false }, kinds := [], alts := [], laidByText := true, laidKinds := [.data, .data, .pinned], laidTests := true, laidLooks := .later }
def TreeMapCardSaid : Prop := Claim7.holds Tryz.pinned (.plain (OpenSpec.ofChange treeMapSpec)) treeMapCard

/-- THE TIED CARD OF 'polderlaw12.TreeRefuses'. -/
def treeRefusesCard : Claim7 := { stood := { row := treeRefusesRow, standIns := [], harness := (true, "85da69e318db0a26ba4c1374e94c8e70074e8e98379c1833036090dfbd98c6d5"), looks := false }, kinds := [], alts := [], laidByText := true, laidKinds := [.data, .data, .pinned], laidTests := true, laidLooks := .later }
def TreeRefusesCardSaid : Prop := Claim7.holds Tryz.pinned (.plain (OpenSpec.ofChange treeRefusesSpec)) treeRefusesCard

/-- THE TIED CARD OF 'polderlaw12.TreeOrder'. -/
def treeOrderCard : Claim7 := { stood := { row := treeOrderRow, standIns := [], harness := (true, "85da69e318db0a26ba4c1374e94c8e70074e8e98379c1833036090dfbd98c6d5"), looks := false }, kinds := [], alts := [], laidByText := true, laidKinds := [.data, .data, .pinned], laidTests := true, laidLooks := .later }
def TreeOrderCardSaid : Prop := Claim7.holds Tryz.pinned (.plain (OpenSpec.ofChange treeOrderSpec)) treeOrderCard

/-- THE TIED CARD OF 'polderlaw12.TreeLow'. -/
def treeLowCard : Claim7 := { stood := { row := treeLowRow, standIns := [], harness := (true, "85da69e318db0a26ba4c1374e94c8e70074e8e98379c1833036090dfbd98c6d5"), looks := false }, kinds := [], alts := [], laidByText := true, laidKinds := [.data, .data, .pinned], laidTests := true, laidLooks := .later }
def TreeLowCardSaid : Prop := Claim7.holds Tryz.pinned (.plain (OpenSpec.ofChange treeLowSpec)) treeLowCard

/-- THE TIED CARD OF 'polderlaw12.TreeCounts'. -/
def treeCountsCard : Claim7 := { stood := { row := treeCountsRow, standIns := [], harness := (true, "85da69e318db0a26ba4c1374e94c8e70074e8e98379c1833036090dfbd98c6d5"), looks := false }, kinds := [], alts := [], laidByText := true, laidKinds := [.data, .data, .pinned], laidTests := true, laidLooks := .later }
def TreeCountsCardSaid : Prop := Claim7.holds Tryz.pinned (.plain (OpenSpec.ofChange treeCountsSpec)) treeCountsCard

/-- THE TIED CARD OF 'polderlaw12.TreeShared'. -/
def treeSharedCard : Claim7 := { stood := { row := treeSharedRow, standIns := [], harness := (true, "85da69e318db0a26ba4c1374e94c8e70074e8e98379c1833036090dfbd98c6d5"), looks := false }, kinds := [], alts := [], laidByText := true, laidKinds := [.data, .data, .pinned], laidTests := true, laidLooks := .later }
def TreeSharedCardSaid : Prop := Claim7.holds Tryz.pinned (.plain (OpenSpec.ofChange treeSharedSpec)) treeSharedCard

/-- THE TIED CARD OF 'polderlaw12.TreeWrites'. -/
def treeWritesCard : Claim7 := { stood := { row := treeWritesRow, standIns := [], harness := (true, "85da69e318db0a26ba4c1374e94c8e70074e8e98379c1833036090dfbd98c6d5"), looks := false }, kinds := [], alts := [], laidByText := true, laidKinds := [.data, .data, .pinned], laidTests := true, laidLooks := .later }
def TreeWritesCardSaid : Prop := Claim7.holds Tryz.pinned (.plain (OpenSpec.ofChange treeWritesSpec)) treeWritesCard

/-- THE SECOND FORM's CARD OF 'polderlaw12.TreeMap'. -/
def treeMapUptoCard : Claim7 := { stood := { row := treeMapUptoRow, standIns := [], harness := (true, "85da69e318db0a26ba4c1374e94c8e70074e8e98379c1833036090dfbd98c6d5"), looks := false }, kinds := [], alts := [], laidByText := true, laidKinds := [.data, .data, .pinned], laidTests := true, laidLooks := .later }
def TreeMapUptoCardSaid : Prop := Claim7.holds Tryz.pinned (.plain (OpenSpec.upto treeMapSpec)) treeMapUptoCard

/-- THE SECOND FORM's CARD OF 'polderlaw12.TreeRefuses'. -/
def treeRefusesUptoCard : Claim7 := { stood := { row := treeRefusesUptoRow, standIns := [], harness := (true, "85da69e318db0a26ba4c1374e94c8e70074e8e98379c1833036090dfbd98c6d5"), looks := false }, kinds := [], alts := [], laidByText := true, laidKinds := [.data, .data, .pinned], laidTests := true, laidLooks := .later }
def TreeRefusesUptoCardSaid : Prop := Claim7.holds Tryz.pinned (.plain (OpenSpec.upto treeRefusesSpec)) treeRefusesUptoCard

/-- THE SECOND FORM's CARD OF 'polderlaw12.TreeOrder'. -/
def treeOrderUptoCard : Claim7 := { stood := { row := treeOrderUptoRow, standIns := [], harness := (true, "85da69e318db0a26ba4c1374e94c8e70074e8e98379c1833036090dfbd98c6d5"), looks := false }, kinds := [], alts := [], laidByText := true, laidKinds := [.data, .data, .pinned], laidTests := true, laidLooks := .later }
def TreeOrderUptoCardSaid : Prop := Claim7.holds Tryz.pinned (.plain (OpenSpec.upto treeOrderSpec)) treeOrderUptoCard

/-- THE SECOND FORM's CARD OF 'polderlaw12.TreeLow'. -/
def treeLowUptoCard : Claim7 := { stood := { row := treeLowUptoRow, standIns := [], harness := (true, "85da69e318db0a26ba4c1374e94c8e70074e8e98379c1833036090dfbd98c6d5"), looks := false }, kinds := [], alts := [], laidByText := true, laidKinds := [.data, .data, .pinned], laidTests := true, laidLooks := .later }
def TreeLowUptoCardSaid : Prop := Claim7.holds Tryz.pinned (.plain (OpenSpec.upto treeLowSpec)) treeLowUptoCard

/-- THE SECOND FORM's CARD OF 'polderlaw12.TreeCounts'. -/
def treeCountsUptoCard : Claim7 := { stood := { row := treeCountsUptoRow, standIns := [], harness := (true, "85da69e318db0a26ba4c1374e94c8e70074e8e98379c1833036090dfbd98c6d5"), looks := false }, kinds := [], alts := [], laidByText := true, laidKinds := [.data, .data, .pinned], laidTests := true, laidLooks := .later }
def TreeCountsUptoCardSaid : Prop := Claim7.holds Tryz.pinned (.plain (OpenSpec.upto treeCountsSpec)) treeCountsUptoCard

/-- THE SECOND FORM's CARD OF 'polderlaw12.TreeShared'. -/
def treeSharedUptoCard : Claim7 := { stood := { row := treeSharedUptoRow, standIns := [], harness := (true, "85da69e318db0a26ba4c1374e94c8e70074e8e98379c1833036090dfbd98c6d5"), looks := false }, kinds := [], alts := [], laidByText := true, laidKinds := [.data, .data, .pinned], laidTests := true, laidLooks := .later }
def TreeSharedUptoCardSaid : Prop := Claim7.holds Tryz.pinned (.plain (OpenSpec.upto treeSharedSpec)) treeSharedUptoCard

/-- THE SECOND FORM's CARD OF 'polderlaw12.TreeWrites'. -/
def treeWritesUptoCard : Claim7 := { stood := { row := treeWritesUptoRow, standIns := [], harness := (true, "85da69e318db0a26ba4c1374e94c8e70074e8e98379c1833036090dfbd98c6d5"), looks := false }, kinds := [], alts := [], laidByText := true, laidKinds := [.data, .data, .pinned], laidTests := true, laidLooks := .later }
def TreeWritesUptoCardSaid : Prop := Claim7.holds Tryz.pinned (.plain (OpenSpec.upto treeWritesSpec)) treeWritesUptoCard
end Rows
end Go.Proofs.YtglgbkpniipjbaaGreatDoor
