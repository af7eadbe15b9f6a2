/-
  NARROWER THAN 'FOR EVERY INPUT', by the rows' own cells (each row's printed sentence says how): TicketMade: laid · TicketParts: laid · PackConditions: laid · PackSections: laid · PackMade: laid · PackMoves: laid.
  DERIVED. THE GIVEN ROWS OF THIS SEAT. 6 by the template 'for every input the law returns true; each argument reads behind the call as it read before'; 0 by the template 'total and deterministic' (their statements: YtehmmnnmkapfeaaDoorTotals.lean).
  GIVEN WITH THE SEED: the statements are not yours to turn. If you find one false, say at which input.
  Laid BY PROGRAM, IN A SANDBOX (cutbox-rows.mjs): the forced cells as the released guide's own fill.sh prints them over the translation 5817e05ebfaa6111… (all of the seat's roots in one cut). By AI agents, Wed Nov 11 2026. No macro, syntax, notation, axiom, sorry.
-/
import Derived.Test.YtehmmnnmkapfeaaDoorChecked
import GoSem.Claim
import GoSem.ClaimJoined
import GoSem.ClaimMapViews
import Derived.JoinedTies
import Derived.KernelRfl
namespace Go.Proofs.YtehmmnnmkapfeaaDoor
/- THE CELL 'sum', in the pinned program and in every row, IS THE sha256 OF THE DUMP (.gsa) THAT YtehmmnnmkapfeaaDoorProg.lean LOADS. Nothing in Lean hashes anything: it is a label: what it is worth is what the hold of that sum in a sandbox is worth. -/
noncomputable def Tryd.pinned : Pinned := { name := "ytehmmnnmkapfeaadoor", sum := "5817e05ebfaa6111d6ea5c4a92c5635b5a399bd26e69d7fa0ad158c8f9669e85", checked := Tryd.checked }
namespace Rows
def none {H : Type} : Left H := { results := [], args := [] }

/- WHAT THE LISTED PACKAGE-LEVEL VARIABLES READ AS WHEN THE CALL BEGINS. Each datum BY PROGRAM (the guide's laid-datum.mjs) off the statement by which the dump's own 'gosem.cut.vars' lays the variable. In a bare row this is a premise. The card (YtehmmnnmkapfeaaDoorCards.lean) ties it to the program's text. -/
def laid_batchline_product_spans {H : Type} : DataW H := .agg [.agg [.lit (.int .i64 400), .lit (.int .i64 1200)], .agg [.lit (.int .i64 0), .lit (.int .i64 2000)], .agg [.lit (.int .i64 0), .lit (.int .i64 5000)], .agg [.lit (.int .i64 1), .lit (.int .i64 2000)]]

/-- 'batchlinelaw37.TicketMade': WHATEVER THE INPUT: true; the input reads as it did. -/
def ticketMadeSpec : ChangeSpec := { name := "ticketMade", fn := fun _ => fun
  | [d1, d2, d3] => { results := [.lit (.bool true)], args := [d1, d2, d3] }
  | _ => none }
def ticketMadeRow : OpenClaim := { program := "ytehmmnnmkapfeaadoor", sum := "5817e05ebfaa6111d6ea5c4a92c5635b5a399bd26e69d7fa0ad158c8f9669e85", func := "batchline/batchlinelaw37.TicketMade", spec := "ticketMade", unfollowed := true, recurses := true, named := ["batchline/product.spans"], apart := false, laid := [("batchline/product.spans", laid_batchline_product_spans)] }
def TicketMadeSaid : Prop := ticketMadeRow.holds Tryd.pinned (OpenSpec.ofChange ticketMadeSpec)

/-- ITS FALSE NEIGHBOUR: 'it returns false'. Refute it at one input. -/
def ticketMadeWrong : ChangeSpec := { name := "ticketMade", fn := fun _ => fun
  | [d1, d2, d3] => { results := [.lit (.bool false)], args := [d1, d2, d3] }
  | _ => none }
def TicketMadeWrongFalsely : Prop := ticketMadeRow.holds Tryd.pinned (OpenSpec.ofChange ticketMadeWrong)

/-- 'batchlinelaw37.TicketParts': WHATEVER THE INPUT: true; the input reads as it did. -/
def ticketPartsSpec : ChangeSpec := { name := "ticketParts", fn := fun _ => fun
  | [d1, d2] => { results := [.lit (.bool true)], args := [d1, d2] }
  | _ => none }
def ticketPartsRow : OpenClaim := { program := "ytehmmnnmkapfeaadoor", sum := "5817e05ebfaa6111d6ea5c4a92c5635b5a399bd26e69d7fa0ad158c8f9669e85", func := "batchline/batchlinelaw37.TicketParts", spec := "ticketParts", unfollowed := true, recurses := true, named := ["batchline/product.spans"], apart := false, laid := [("batchline/product.spans", laid_batchline_product_spans)] }
def TicketPartsSaid : Prop := ticketPartsRow.holds Tryd.pinned (OpenSpec.ofChange ticketPartsSpec)

/-- ITS FALSE NEIGHBOUR: 'it returns false'. Refute it at one input. -/
def ticketPartsWrong : ChangeSpec := { name := "ticketParts", fn := fun _ => fun
  | [d1, d2] => { results := [.lit (.bool false)], args := [d1, d2] }
  | _ => none }
def TicketPartsWrongFalsely : Prop := ticketPartsRow.holds Tryd.pinned (OpenSpec.ofChange ticketPartsWrong)

/-- 'batchlinelaw33.PackConditions': WHATEVER THE INPUT: true; the input reads as it did. -/
def packConditionsSpec : ChangeSpec := { name := "packConditions", fn := fun _ => fun
  | [d1, d2, d3] => { results := [.lit (.bool true)], args := [d1, d2, d3] }
  | _ => none }
def packConditionsRow : OpenClaim := { program := "ytehmmnnmkapfeaadoor", sum := "5817e05ebfaa6111d6ea5c4a92c5635b5a399bd26e69d7fa0ad158c8f9669e85", func := "batchline/batchlinelaw33.PackConditions", spec := "packConditions", unfollowed := true, recurses := true, named := ["batchline/product.spans"], apart := false, laid := [("batchline/product.spans", laid_batchline_product_spans)] }
def PackConditionsSaid : Prop := packConditionsRow.holds Tryd.pinned (OpenSpec.ofChange packConditionsSpec)

/-- ITS FALSE NEIGHBOUR: 'it returns false'. Refute it at one input. -/
def packConditionsWrong : ChangeSpec := { name := "packConditions", fn := fun _ => fun
  | [d1, d2, d3] => { results := [.lit (.bool false)], args := [d1, d2, d3] }
  | _ => none }
def PackConditionsWrongFalsely : Prop := packConditionsRow.holds Tryd.pinned (OpenSpec.ofChange packConditionsWrong)

/-- 'batchlinelaw33.PackSections': WHATEVER THE INPUT: true; the input reads as it did. -/
def packSectionsSpec : ChangeSpec := { name := "packSections", fn := fun _ => fun
  | [d1, d2, d3] => { results := [.lit (.bool true)], args := [d1, d2, d3] }
  | _ => none }
def packSectionsRow : OpenClaim := { program := "ytehmmnnmkapfeaadoor", sum := "5817e05ebfaa6111d6ea5c4a92c5635b5a399bd26e69d7fa0ad158c8f9669e85", func := "batchline/batchlinelaw33.PackSections", spec := "packSections", unfollowed := true, recurses := true, named := ["batchline/product.spans"], apart := false, laid := [("batchline/product.spans", laid_batchline_product_spans)] }
def PackSectionsSaid : Prop := packSectionsRow.holds Tryd.pinned (OpenSpec.ofChange packSectionsSpec)

/-- ITS FALSE NEIGHBOUR: 'it returns false'. Refute it at one input. -/
def packSectionsWrong : ChangeSpec := { name := "packSections", fn := fun _ => fun
  | [d1, d2, d3] => { results := [.lit (.bool false)], args := [d1, d2, d3] }
  | _ => none }
def PackSectionsWrongFalsely : Prop := packSectionsRow.holds Tryd.pinned (OpenSpec.ofChange packSectionsWrong)

/-- 'batchlinelaw33.PackMade': WHATEVER THE INPUT: true; the input reads as it did. -/
def packMadeSpec : ChangeSpec := { name := "packMade", fn := fun _ => fun
  | [d1, d2, d3] => { results := [.lit (.bool true)], args := [d1, d2, d3] }
  | _ => none }
def packMadeRow : OpenClaim := { program := "ytehmmnnmkapfeaadoor", sum := "5817e05ebfaa6111d6ea5c4a92c5635b5a399bd26e69d7fa0ad158c8f9669e85", func := "batchline/batchlinelaw33.PackMade", spec := "packMade", unfollowed := true, recurses := true, named := ["batchline/product.spans"], apart := false, laid := [("batchline/product.spans", laid_batchline_product_spans)] }
def PackMadeSaid : Prop := packMadeRow.holds Tryd.pinned (OpenSpec.ofChange packMadeSpec)

/-- ITS FALSE NEIGHBOUR: 'it returns false'. Refute it at one input. -/
def packMadeWrong : ChangeSpec := { name := "packMade", fn := fun _ => fun
  | [d1, d2, d3] => { results := [.lit (.bool false)], args := [d1, d2, d3] }
  | _ => none }
def PackMadeWrongFalsely : Prop := packMadeRow.holds Tryd.pinned (OpenSpec.ofChange packMadeWrong)

/-- 'batchlinelaw33.PackMoves': WHATEVER THE INPUT: true; the input reads as it did. -/
def packMovesSpec : ChangeSpec := { name := "packMoves", fn := fun _ => fun
  | [d] => { results := [.lit (.bool true)], args := [d] }
  | _ => none }
def packMovesRow : OpenClaim := { program := "ytehmmnnmkapfeaadoor", sum := "5817e05ebfaa6111d6ea5c4a92c5635b5a399bd26e69d7fa0ad158c8f9669e85", func := "batchline/batchlinelaw33.PackMoves", spec := "packMoves", unfollowed := true, recurses := true, named := ["batchline/product.spans"], apart := false, laid := [("batchline/product.spans", laid_batchline_product_spans)] }
def PackMovesSaid : Prop := packMovesRow.holds Tryd.pinned (OpenSpec.ofChange packMovesSpec)

/-- ITS FALSE NEIGHBOUR: 'it returns false'. Refute it at one input. -/
def packMovesWrong : ChangeSpec := { name := "packMoves", fn := fun _ => fun
  | [d] => { results := [.lit (.bool false)], args := [d] }
  | _ => none }
def PackMovesWrongFalsely : Prop := packMovesRow.holds Tryd.pinned (OpenSpec.ofChange packMovesWrong)

/- THE SECOND FORM. 'bulk': how many values and letters a reading holds, each counted each time it is reached (what is shared counts as often as it is met; a slice's spare places count too). A statement '..UptoSaid' is the law's where the arguments, and the package variables that the reading takes, are together of bulk at most 1048576: NARROWER than '..Said'. Prove '..Said' where nothing that the law and all that it calls make is longer than what came in: it says more and counts as full. Else prove '..UptoSaid'. A law counts once. -/
mutual
def uptoBulk {H : Type} : DataW H → Nat
  | .lit (.string bytes) => bytes.length + 1
  | .lit _ => 1
  | .nil => 1
  | .ptr d => uptoBulk d + 1
  | .slice elems spare => uptoBulkAll elems + uptoBulkAll spare + 1
  | .agg parts => uptoBulkAll parts + 1
  | .iface _ d => uptoBulk d + 1
  | .map entries => uptoBulkEntries entries + 1
  | .held _ => 1
def uptoBulkAll {H : Type} : List (DataW H) → Nat
  | [] => 0
  | d :: r => uptoBulk d + uptoBulkAll r
def uptoBulkEntries {H : Type} : List (Lit × DataW H) → Nat
  | [] => 0
  | x :: r => uptoBulkEntry x + uptoBulkEntries r
def uptoBulkEntry {H : Type} : Lit × DataW H → Nat
  | (.string bytes, d) => bytes.length + uptoBulk d + 1
  | (_, d) => uptoBulk d + 1
 end
def uptoSmall : (H : Type) → List (DataW H) → Bool := fun _ ds => decide (uptoBulkAll ds ≤ 1048576)
def OpenSpec.upto (s : _root_.Go.ChangeSpec) : _root_.Go.OpenSpec := { _root_.Go.OpenSpec.ofChange s with cond := some uptoSmall }

/-- 'batchlinelaw37.TicketMade', WHERE WHAT IT READS IS OF BULK AT MOST 1048576: true; the input reads as it did. -/
def ticketMadeUptoRow : OpenClaim := { program := "ytehmmnnmkapfeaadoor", sum := "5817e05ebfaa6111d6ea5c4a92c5635b5a399bd26e69d7fa0ad158c8f9669e85", func := "batchline/batchlinelaw37.TicketMade", spec := "ticketMade", unfollowed := true, recurses := true, named := ["batchline/product.spans"], apart := false, laid := [("batchline/product.spans", laid_batchline_product_spans)], narrowed := true }
def TicketMadeUptoSaid : Prop := ticketMadeUptoRow.holds Tryd.pinned (OpenSpec.upto ticketMadeSpec)

/-- 'batchlinelaw37.TicketParts', WHERE WHAT IT READS IS OF BULK AT MOST 1048576: true; the input reads as it did. -/
def ticketPartsUptoRow : OpenClaim := { program := "ytehmmnnmkapfeaadoor", sum := "5817e05ebfaa6111d6ea5c4a92c5635b5a399bd26e69d7fa0ad158c8f9669e85", func := "batchline/batchlinelaw37.TicketParts", spec := "ticketParts", unfollowed := true, recurses := true, named := ["batchline/product.spans"], apart := false, laid := [("batchline/product.spans", laid_batchline_product_spans)], narrowed := true }
def TicketPartsUptoSaid : Prop := ticketPartsUptoRow.holds Tryd.pinned (OpenSpec.upto ticketPartsSpec)

/-- 'batchlinelaw33.PackConditions', WHERE WHAT IT READS IS OF BULK AT MOST 1048576: true; the input reads as it did. -/
def packConditionsUptoRow : OpenClaim := { program := "ytehmmnnmkapfeaadoor", sum := "5817e05ebfaa6111d6ea5c4a92c5635b5a399bd26e69d7fa0ad158c8f9669e85", func := "batchline/batchlinelaw33.PackConditions", spec := "packConditions", unfollowed := true, recurses := true, named := ["batchline/product.spans"], apart := false, laid := [("batchline/product.spans", laid_batchline_product_spans)], narrowed := true }
def PackConditionsUptoSaid : Prop := packConditionsUptoRow.holds Tryd.pinned (OpenSpec.upto packConditionsSpec)

/-- 'batchlinelaw33.PackSections', WHERE WHAT IT READS IS OF BULK AT MOST 1048576: true; the input reads as it did. -/
def packSectionsUptoRow : OpenClaim := { program := "ytehmmnnmkapfeaadoor", sum := "5817e05ebfaa6111d6ea5c4a92c5635b5a399bd26e69d7fa0ad158c8f9669e85", func := "batchline/batchlinelaw33.PackSections", spec := "packSections", unfollowed := true, recurses := true, named := ["batchline/product.spans"], apart := false, laid := [("batchline/product.spans", laid_batchline_product_spans)], narrowed := true }
def PackSectionsUptoSaid : Prop := packSectionsUptoRow.holds Tryd.pinned (OpenSpec.upto packSectionsSpec)

/-- 'batchlinelaw33.PackMade', WHERE WHAT IT READS IS OF BULK AT MOST 1048576: true; the input reads as it did. -/
def packMadeUptoRow : OpenClaim := { program := "ytehmmnnmkapfeaadoor", sum := "5817e05ebfaa6111d6ea5c4a92c5635b5a399bd26e69d7fa0ad158c8f9669e85", func := "batchline/batchlinelaw33.PackMade", spec := "packMade", unfollowed := true, recurses := true, named := ["batchline/product.spans"], apart := false, laid := [("batchline/product.spans", laid_batchline_product_spans)], narrowed := true }
def PackMadeUptoSaid : Prop := packMadeUptoRow.holds Tryd.pinned (OpenSpec.upto packMadeSpec)

/-- 'batchlinelaw33.PackMoves', WHERE WHAT IT READS IS OF BULK AT MOST 1048576: true; the input reads as it did. -/
def packMovesUptoRow : OpenClaim := { program := "ytehmmnnmkapfeaadoor", sum := "5817e05ebfaa6111d6ea5c4a92c5635b5a399bd26e69d7fa0ad158c8f9669e85", func := "batchline/batchlinelaw33.PackMoves", spec := "packMoves", unfollowed := true, recurses := true, named := ["batchline/product.spans"], apart := false, laid := [("batchline/product.spans", laid_batchline_product_spans)], narrowed := true }
def PackMovesUptoSaid : Prop := packMovesUptoRow.holds Tryd.pinned (OpenSpec.upto packMovesSpec)

end Rows
end Go.Proofs.YtehmmnnmkapfeaaDoor
