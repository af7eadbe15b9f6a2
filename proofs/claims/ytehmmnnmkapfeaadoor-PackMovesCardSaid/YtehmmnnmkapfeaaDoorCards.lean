/-
  DERIVED. GIVEN WITH THE SEED: THE CARDS: each row of YtehmmnnmkapfeaaDoorRows.lean that lists a variable, with what it lists TIED to the program's text (the seventh form; the later family's looks); each row that meets fmt, with fmt's text TOLD by the authors' own Lean function (tested against real Go, not proved from fmt's source: count such statements apart). THE CARD IS WHAT COUNTS. Prove the row's statement (the work); the ties are given (YtehmmnnmkapfeaaDoorTie.lean); close each card by the builder's one call (the guide's Derived/Test/ToyasCard.lean, 'card_holds'). Laid BY PROGRAM, IN A SANDBOX (cutbox-door.mjs). By AI agents, Wed Nov 11 2026. No macro, syntax, notation, axiom, sorry.
-/
import Derived.Test.YtehmmnnmkapfeaaDoorRows
import GoSem.ClaimSeven
namespace Go.Proofs.YtehmmnnmkapfeaaDoor
namespace Rows

/-- THE TIED CARD OF 'batchlinelaw37.TicketMade'. -/
def ticketMadeCard : Claim7 := { stood := { row := ticketMadeRow, standIns := [], harness := (true, "ed07b28f74b81393622ebc84b7fef58e9416f86a12b567dc07314ad9c6ed569d"), looks := false }, kinds := [], alts := [], laidByText := true, laidKinds := [.data], laidTests := true, laidLooks := .later }
def TicketMadeCardSaid : Prop := Claim7.holds Tryd.pinned (.plain (OpenSpec.ofChange ticketMadeSpec)) ticketMadeCard

/-- THE TIED CARD OF 'batchlinelaw37.TicketParts'. -/
def ticketPartsCard : Claim7 := { stood := { row := ticketPartsRow, standIns := [], harness := (true, "ed07b28f74b81393622ebc84b7fef58e9416f86a12b567dc07314ad9c6ed569d"), looks := false }, kinds := [], alts := [], laidByText := true, laidKinds := [.data], laidTests := true, laidLooks := .later }
def TicketPartsCardSaid : Prop := Claim7.holds Tryd.pinned (.plain (OpenSpec.ofChange ticketPartsSpec)) ticketPartsCard

/-- THE TIED CARD OF 'batchlinelaw33.PackConditions'. -/
def packConditionsCard : Claim7 := { stood := { row := packConditionsRow, standIns := [], harness := (true, "ed07b28f74b81393622ebc84b7fef58e9416f86a12b567dc07314ad9c6ed569d"), looks := false }, kinds := [], alts := [], laidByText := true, laidKinds := [.data], laidTests := true, laidLooks := .later }
def PackConditionsCardSaid : Prop := Claim7.holds Tryd.pinned (.plain (OpenSpec.ofChange packConditionsSpec)) packConditionsCard

/-- THE TIED CARD OF 'batchlinelaw33.PackSections'. -/
def packSectionsCard : Claim7 := { stood := { row := packSectionsRow, standIns := [], harness := (true, "ed07b28f74b81393622ebc84b7fef58e9416f86a12b567dc07314ad9c6ed569d"), looks := false }, kinds := [], alts := [], laidByText := true, laidKinds := [.data], laidTests := true, laidLooks := .later }
def PackSectionsCardSaid : Prop := Claim7.holds Tryd.pinned (.plain (OpenSpec.ofChange packSectionsSpec)) packSectionsCard

/-- THE TIED CARD OF 'batchlinelaw33.PackMade'. -/
def packMadeCard : Claim7 := { stood := { row := packMadeRow, standIns := [], harness := (true, "ed07b28f74b81393622ebc84b7fef58e9416f86a12b567dc07314ad9c6ed569d"), looks := false }, kinds := [], alts := [], laidByText := true, laidKinds := [.data], laidTests := true, laidLooks := .later }
def PackMadeCardSaid : Prop := Claim7.holds Tryd.pinned (.plain (OpenSpec.ofChange packMadeSpec)) packMadeCard

/-- THE TIED CARD OF 'batchlinelaw33.PackMoves'. -/
def packMovesCard : Claim7 := { stood := { row := packMovesRow, standIns := [], harness := (true, "ed07b28f74b81393622ebc84b7fef58e9416f86a12b567dc07314ad9c6ed569d"), looks := false }, kinds := [], alts := [], laidByText := true, laidKinds := [.data], laidTests := true, laidLooks := .later }
def PackMovesCardSaid : Prop := Claim7.holds Tryd.pinned (.plain (OpenSpec.ofChange packMovesSpec)) packMovesCard

/-- THE SECOND FORM's CARD OF 'batchlinelaw37.TicketMade'. -/
def ticketMadeUptoCard : Claim7 := { stood := { row := ticketMadeUptoRow, standIns := [], harness := (true, "ed07b28f74b81393622ebc84b7fef58e9416f86a12b567dc07314ad9c6ed569d"), looks := false }, kinds := [], alts := [], laidByText := true, laidKinds := [.data], laidTests := true, laidLooks := .later }
def TicketMadeUptoCardSaid : Prop := Claim7.holds Tryd.pinned (.plain (OpenSpec.upto ticketMadeSpec)) ticketMadeUptoCard

/-- THE SECOND FORM's CARD OF 'batchlinelaw37.TicketParts'. -/
def ticketPartsUptoCard : Claim7 := { stood := { row := ticketPartsUptoRow, standIns := [], harness := (true, "ed07b28f74b81393622ebc84b7fef58e9416f86a12b567dc07314ad9c6ed569d"), looks := false }, kinds := [], alts := [], laidByText := true, laidKinds := [.data], laidTests := true, laidLooks := .later }
def TicketPartsUptoCardSaid : Prop := Claim7.holds Tryd.pinned (.plain (OpenSpec.upto ticketPartsSpec)) ticketPartsUptoCard

/-- THE SECOND FORM's CARD OF 'batchlinelaw33.PackConditions'. -/
def packConditionsUptoCard : Claim7 := { stood := { row := packConditionsUptoRow, standIns := [], harness := (true, "ed07b28f74b81393622ebc84b7fef58e9416f86a12b567dc07314ad9c6ed569d"), looks := false }, kinds := [], alts := [], laidByText := true, laidKinds := [.data], laidTests := true, laidLooks := .later }
def PackConditionsUptoCardSaid : Prop := Claim7.holds Tryd.pinned (.plain (OpenSpec.upto packConditionsSpec)) packConditionsUptoCard

/-- THE SECOND FORM's CARD OF 'batchlinelaw33.PackSections'. -/
def packSectionsUptoCard : Claim7 := { stood := { row := packSectionsUptoRow, standIns := [], harness := (true, "ed07b28f74b81393622ebc84b7fef58e9416f86a12b567dc07314ad9c6ed569d"), looks := false }, kinds := [], alts := [], laidByText := true, laidKinds := [.data], laidTests := true, laidLooks := .later }
def PackSectionsUptoCardSaid : Prop := Claim7.holds Tryd.pinned (.plain (OpenSpec.upto packSectionsSpec)) packSectionsUptoCard

/-- THE SECOND FORM's CARD OF 'batchlinelaw33.PackMade'. -/
def packMadeUptoCard : Claim7 := { stood := { row := packMadeUptoRow, standIns := [], harness := (true, "ed07b28f74b81393622ebc84b7fef58e9416f86a12b567dc07314ad9c6ed569d"), looks := false }, kinds := [], alts := [], laidByText := true, laidKinds := [.data], laidTests := true, laidLooks := .later }
def PackMadeUptoCardSaid : Prop := Claim7.holds Tryd.pinned (.plain (OpenSpec.upto packMadeSpec)) packMadeUptoCard

/-- THE SECOND FORM's CARD OF 'batchlinelaw33.PackMoves'. -/
def packMovesUptoCard : Claim7 := { stood := { row := packMovesUptoRow, standIns := [], harness := (true, "ed07b28f74b81393622ebc84b7fef58e9416f86a12b567dc07314ad9c6ed569d"), looks := false }, kinds := [], alts := [], laidByText := true, laidKinds := [.data], laidTests := true, laidLooks := .later }
def PackMovesUptoCardSaid : Prop := Claim7.holds Tryd.pinned (.plain (OpenSpec.upto packMovesSpec)) packMovesUptoCard
end Rows
end Go.Proofs.YtehmmnnmkapfeaaDoor
