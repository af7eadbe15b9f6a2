/-
  DERIVED. GIVEN WITH THE SEED: THE CARDS: each row of YtbclfphnhbmhoaaDoorRows.lean that lists a variable, with what it lists TIED to the program's text (the seventh form; the later family's looks); each row that meets fmt, with fmt's text TOLD by the authors' own Lean function (tested against real Go, not proved from fmt's source: count such statements apart). THE CARD IS WHAT COUNTS. Prove the row's statement (the work); the ties are given (YtbclfphnhbmhoaaDoorTie.lean); close each card by the builder's one call (the guide's Derived/Test/ToyasCard.lean, 'card_holds'). Laid BY PROGRAM, IN A SANDBOX (cutbox-door.mjs). By AI agents, Wed Nov 11 2026. No macro, syntax, notation, axiom, sorry.
-/
import Derived.Test.YtbclfphnhbmhoaaDoorRows
import GoSem.ClaimSeven
namespace Go.Proofs.YtbclfphnhbmhoaaDoor
namespace Rows

/-- THE TIED CARD OF 'batchlinelaw37.TicketMeter'. -/
def ticketMeterCard : Claim7 := { stood := { row := ticketMeterRow, standIns := [], harness := (true, "1c76aa2c87d0631b5305715a00265c19f8fd4425fd6df699b452a8613ae80e4e"), looks := false }, kinds := [], alts := [], laidByText := true, laidKinds := [.data], laidTests := true, laidLooks := .later }
def TicketMeterCardSaid : Prop := Claim7.holds Tryd.pinned (.plain (OpenSpec.ofChange ticketMeterSpec)) ticketMeterCard

/-- THE TIED CARD OF 'batchlinelaw37.TicketMade'. -/
def ticketMadeCard : Claim7 := { stood := { row := ticketMadeRow, standIns := [], harness := (true, "1c76aa2c87d0631b5305715a00265c19f8fd4425fd6df699b452a8613ae80e4e"), looks := false }, kinds := [], alts := [], laidByText := true, laidKinds := [.data], laidTests := true, laidLooks := .later }
def TicketMadeCardSaid : Prop := Claim7.holds Tryd.pinned (.plain (OpenSpec.ofChange ticketMadeSpec)) ticketMadeCard

/-- THE TIED CARD OF 'batchlinelaw37.TicketAdds'. -/
def ticketAddsCard : Claim7 := { stood := { row := ticketAddsRow, standIns := [], harness := (true, "1c76aa2c87d0631b5305715a00265c19f8fd4425fd6df699b452a8613ae80e4e"), looks := false }, kinds := [], alts := [], laidByText := true, laidKinds := [.data], laidTests := true, laidLooks := .later }
def TicketAddsCardSaid : Prop := Claim7.holds Tryd.pinned (.plain (OpenSpec.ofChange ticketAddsSpec)) ticketAddsCard

/-- THE TIED CARD OF 'batchlinelaw37.TicketParts'. -/
def ticketPartsCard : Claim7 := { stood := { row := ticketPartsRow, standIns := [], harness := (true, "1c76aa2c87d0631b5305715a00265c19f8fd4425fd6df699b452a8613ae80e4e"), looks := false }, kinds := [], alts := [], laidByText := true, laidKinds := [.data], laidTests := true, laidLooks := .later }
def TicketPartsCardSaid : Prop := Claim7.holds Tryd.pinned (.plain (OpenSpec.ofChange ticketPartsSpec)) ticketPartsCard

/-- THE SECOND FORM's CARD OF 'batchlinelaw37.TicketMeter'. -/
def ticketMeterUptoCard : Claim7 := { stood := { row := ticketMeterUptoRow, standIns := [], harness := (true, "1c76aa2c87d0631b5305715a00265c19f8fd4425fd6df699b452a8613ae80e4e"), looks := false }, kinds := [], alts := [], laidByText := true, laidKinds := [.data], laidTests := true, laidLooks := .later }
def TicketMeterUptoCardSaid : Prop := Claim7.holds Tryd.pinned (.plain (OpenSpec.upto ticketMeterSpec)) ticketMeterUptoCard

/-- THE SECOND FORM's CARD OF 'batchlinelaw37.TicketMade'. -/
def ticketMadeUptoCard : Claim7 := { stood := { row := ticketMadeUptoRow, standIns := [], harness := (true, "1c76aa2c87d0631b5305715a00265c19f8fd4425fd6df699b452a8613ae80e4e"), looks := false }, kinds := [], alts := [], laidByText := true, laidKinds := [.data], laidTests := true, laidLooks := .later }
def TicketMadeUptoCardSaid : Prop := Claim7.holds Tryd.pinned (.plain (OpenSpec.upto ticketMadeSpec)) ticketMadeUptoCard

/-- THE SECOND FORM's CARD OF 'batchlinelaw37.TicketAdds'. -/
def ticketAddsUptoCard : Claim7 := { stood := { row := ticketAddsUptoRow, standIns := [], harness := (true, "1c76aa2c87d0631b5305715a00265c19f8fd4425fd6df699b452a8613ae80e4e"), looks := false }, kinds := [], alts := [], laidByText := true, laidKinds := [.data], laidTests := true, laidLooks := .later }
def TicketAddsUptoCardSaid : Prop := Claim7.holds Tryd.pinned (.plain (OpenSpec.upto ticketAddsSpec)) ticketAddsUptoCard

/-- THE SECOND FORM's CARD OF 'batchlinelaw37.TicketParts'. -/
def ticketPartsUptoCard : Claim7 := { stood := { row := ticketPartsUptoRow, standIns := [], harness := (true, "1c76aa2c87d0631b5305715a00265c19f8fd4425fd6df699b452a8613ae80e4e"), looks := false }, kinds := [], alts := [], laidByText := true, laidKinds := [.data], laidTests := true, laidLooks := .later }
def TicketPartsUptoCardSaid : Prop := Claim7.holds Tryd.pinned (.plain (OpenSpec.upto ticketPartsSpec)) ticketPartsUptoCard
end Rows
end Go.Proofs.YtbclfphnhbmhoaaDoor
