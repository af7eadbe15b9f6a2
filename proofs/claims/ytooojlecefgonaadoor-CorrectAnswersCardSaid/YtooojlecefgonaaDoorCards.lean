/-
  DERIVED. GIVEN WITH THE SEED: THE CARDS: each row of YtooojlecefgonaaDoorRows.lean that lists a variable, with what it lists TIED to the program's text (the seventh form; the later family's looks); each row that meets fmt, with fmt's text TOLD by the authors' own Lean function (tested against real Go, not proved from fmt's source: count such statements apart). THE CARD IS WHAT COUNTS. Prove the row's statement (the work); the ties are given (YtooojlecefgonaaDoorTie.lean); close each card by the builder's one call (the guide's Derived/Test/ToyasCard.lean, 'card_holds'). Laid BY PROGRAM, IN A SANDBOX (cutbox-door.mjs). By AI agents, Wed Nov 11 2026. No macro, syntax, notation, axiom, sorry.
-/
import Derived.Test.YtooojlecefgonaaDoorRows
import GoSem.ClaimSeven
namespace Go.Proofs.YtooojlecefgonaaDoor
namespace Rows

/-- THE TIED CARD OF 'batchlinelaw05.CorrectMonotone'. -/
def correctMonotoneCard : Claim7 := { stood := { row := correctMonotoneRow, standIns := [], harness := (true, "050f70a72b8c726127e29fff56cb865ff741bb7c9baac926c3f04c7b5ae7d101"), looks := false }, kinds := [], alts := [], laidByText := true, laidKinds := [.data], laidTests := true, laidLooks := .later }
def CorrectMonotoneCardSaid : Prop := Claim7.holds Tryd.pinned (.plain (OpenSpec.ofChange correctMonotoneSpec)) correctMonotoneCard

/-- THE TIED CARD OF 'batchlinelaw05.CorrectAdds'. -/
def correctAddsCard : Claim7 := { stood := { row := correctAddsRow, standIns := [], harness := (true, "050f70a72b8c726127e29fff56cb865ff741bb7c9baac926c3f04c7b5ae7d101"), looks := false }, kinds := [], alts := [], laidByText := true, laidKinds := [.data], laidTests := true, laidLooks := .later }
def CorrectAddsCardSaid : Prop := Claim7.holds Tryd.pinned (.plain (OpenSpec.ofChange correctAddsSpec)) correctAddsCard

/-- THE TIED CARD OF 'batchlinelaw05.CorrectProducts'. -/
def correctProductsCard : Claim7 := { stood := { row := correctProductsRow, standIns := [], harness := (true, "050f70a72b8c726127e29fff56cb865ff741bb7c9baac926c3f04c7b5ae7d101"), looks := false }, kinds := [], alts := [], laidByText := true, laidKinds := [.data], laidTests := true, laidLooks := .later }
def CorrectProductsCardSaid : Prop := Claim7.holds Tryd.pinned (.plain (OpenSpec.ofChange correctProductsSpec)) correctProductsCard

/-- THE TIED CARD OF 'batchlinelaw05.CorrectParts'. -/
def correctPartsCard : Claim7 := { stood := { row := correctPartsRow, standIns := [], harness := (true, "050f70a72b8c726127e29fff56cb865ff741bb7c9baac926c3f04c7b5ae7d101"), looks := false }, kinds := [], alts := [], laidByText := true, laidKinds := [.data], laidTests := true, laidLooks := .later }
def CorrectPartsCardSaid : Prop := Claim7.holds Tryd.pinned (.plain (OpenSpec.ofChange correctPartsSpec)) correctPartsCard

/-- THE TIED CARD OF 'batchlinelaw05.CorrectAnswers'. -/
def correctAnswersCard : Claim7 := { stood := { row := correctAnswersRow, standIns := [], harness := (true, "050f70a72b8c726127e29fff56cb865ff741bb7c9baac926c3f04c7b5ae7d101"), looks := false }, kinds := [], alts := [], laidByText := true, laidKinds := [.data], laidTests := true, laidLooks := .later }
def CorrectAnswersCardSaid : Prop := Claim7.holds Tryd.pinned (.plain (OpenSpec.ofChange correctAnswersSpec)) correctAnswersCard

/-- THE TIED CARD OF 'batchlinelaw05.CorrectBack'. -/
def correctBackCard : Claim7 := { stood := { row := correctBackRow, standIns := [], harness := (true, "050f70a72b8c726127e29fff56cb865ff741bb7c9baac926c3f04c7b5ae7d101"), looks := false }, kinds := [], alts := [], laidByText := true, laidKinds := [.data], laidTests := true, laidLooks := .later }
def CorrectBackCardSaid : Prop := Claim7.holds Tryd.pinned (.plain (OpenSpec.ofChange correctBackSpec)) correctBackCard

/-- THE SECOND FORM's CARD OF 'batchlinelaw05.CorrectMonotone'. -/
def correctMonotoneUptoCard : Claim7 := { stood := { row := correctMonotoneUptoRow, standIns := [], harness := (true, "050f70a72b8c726127e29fff56cb865ff741bb7c9baac926c3f04c7b5ae7d101"), looks := false }, kinds := [], alts := [], laidByText := true, laidKinds := [.data], laidTests := true, laidLooks := .later }
def CorrectMonotoneUptoCardSaid : Prop := Claim7.holds Tryd.pinned (.plain (OpenSpec.upto correctMonotoneSpec)) correctMonotoneUptoCard

/-- THE SECOND FORM's CARD OF 'batchlinelaw05.CorrectAdds'. -/
def correctAddsUptoCard : Claim7 := { stood := { row := correctAddsUptoRow, standIns := [], harness := (true, "050f70a72b8c726127e29fff56cb865ff741bb7c9baac926c3f04c7b5ae7d101"), looks := false }, kinds := [], alts := [], laidByText := true, laidKinds := [.data], laidTests := true, laidLooks := .later }
def CorrectAddsUptoCardSaid : Prop := Claim7.holds Tryd.pinned (.plain (OpenSpec.upto correctAddsSpec)) correctAddsUptoCard

/-- THE SECOND FORM's CARD OF 'batchlinelaw05.CorrectProducts'. -/
def correctProductsUptoCard : Claim7 := { stood := { row := correctProductsUptoRow, standIns := [], harness := (true, "050f70a72b8c726127e29fff56cb865ff741bb7c9baac926c3f04c7b5ae7d101"), looks := false }, kinds := [], alts := [], laidByText := true, laidKinds := [.data], laidTests := true, laidLooks := .later }
def CorrectProductsUptoCardSaid : Prop := Claim7.holds Tryd.pinned (.plain (OpenSpec.upto correctProductsSpec)) correctProductsUptoCard

/-- THE SECOND FORM's CARD OF 'batchlinelaw05.CorrectParts'. -/
def correctPartsUptoCard : Claim7 := { stood := { row := correctPartsUptoRow, standIns := [], harness := (true, "050f70a72b8c726127e29fff56cb865ff741bb7c9baac926c3f04c7b5ae7d101"), looks := false }, kinds := [], alts := [], laidByText := true, laidKinds := [.data], laidTests := true, laidLooks := .later }
def CorrectPartsUptoCardSaid : Prop := Claim7.holds Tryd.pinned (.plain (OpenSpec.upto correctPartsSpec)) correctPartsUptoCard

/-- THE SECOND FORM's CARD OF 'batchlinelaw05.CorrectAnswers'. -/
def correctAnswersUptoCard : Claim7 := { stood := { row := correctAnswersUptoRow, standIns := [], harness := (true, "050f70a72b8c726127e29fff56cb865ff741bb7c9baac926c3f04c7b5ae7d101"), looks := false }, kinds := [], alts := [], laidByText := true, laidKinds := [.data], laidTests := true, laidLooks := .later }
def CorrectAnswersUptoCardSaid : Prop := Claim7.holds Tryd.pinned (.plain (OpenSpec.upto correctAnswersSpec)) correctAnswersUptoCard

/-- THE SECOND FORM's CARD OF 'batchlinelaw05.CorrectBack'. -/
def correctBackUptoCard : Claim7 := { stood := { row := correctBackUptoRow, standIns := [], harness := (true, "050f70a72b8c726127e29fff56cb865ff741bb7c9baac926c3f04c7b5ae7d101"), looks := false }, kinds := [], alts := [], laidByText := true, laidKinds := [.data], laidTests := true, laidLooks := .later }
def CorrectBackUptoCardSaid : Prop := Claim7.holds Tryd.pinned (.plain (OpenSpec.upto correctBackSpec)) correctBackUptoCard
end Rows
end Go.Proofs.YtooojlecefgonaaDoor
