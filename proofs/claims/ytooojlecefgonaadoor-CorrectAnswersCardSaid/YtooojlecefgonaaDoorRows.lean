/-
  NARROWER THAN 'FOR EVERY INPUT', by the rows' own cells (each row's printed sentence says how): CorrectMonotone: laid · CorrectAdds: laid · CorrectProducts: laid · CorrectParts: laid · CorrectAnswers: laid · CorrectBack: laid.
  DERIVED. THE GIVEN ROWS OF THIS SEAT. 6 by the template 'for every input the law returns true; each argument reads behind the call as it read before'; 0 by the template 'total and deterministic' (their statements: YtooojlecefgonaaDoorTotals.lean).
  GIVEN WITH THE SEED: the statements are not yours to turn. If you find one false, say at which input.
  Laid BY PROGRAM, IN A SANDBOX (cutbox-rows.mjs): the forced cells as the released guide's own fill.sh prints them over the translation c188339446f4df0c… (all of the seat's roots in one cut). By AI agents, Wed Nov 11 2026. No macro, syntax, notation, axiom, sorry.
-/
import Derived.Test.YtooojlecefgonaaDoorChecked
import GoSem.Claim
import GoSem.ClaimJoined
import GoSem.ClaimMapViews
import Derived.JoinedTies
import Derived.KernelRfl
namespace Go.Proofs.YtooojlecefgonaaDoor
/- THE CELL 'sum', in the pinned program and in every row, IS THE sha256 OF THE DUMP (.gsa) THAT YtooojlecefgonaaDoorProg.lean LOADS. Nothing in Lean hashes anything: it is a label: what it is worth is what the hold of that sum in a sandbox is worth. -/
noncomputable def Tryd.pinned : Pinned := { name := "ytooojlecefgonaadoor", sum := "c188339446f4df0c7b58acb6c743d78c2cd7f9ed5f4bb247ceb5fcb63cd2ea21", checked := Tryd.checked }
namespace Rows
def none {H : Type} : Left H := { results := [], args := [] }

/- WHAT THE LISTED PACKAGE-LEVEL VARIABLES READ AS WHEN THE CALL BEGINS. Each datum BY PROGRAM (the guide's laid-datum.mjs) off the statement by which the dump's own 'gosem.cut.vars' lays the variable. In a bare row this is a premise. The card (YtooojlecefgonaaDoorCards.lean) ties it to the program's text. -/
def laid_batchline_product_spans {H : Type} : DataW H := .agg [.agg [.lit (.int .i64 400), .lit (.int .i64 1200)], .agg [.lit (.int .i64 0), .lit (.int .i64 2000)], .agg [.lit (.int .i64 0), .lit (.int .i64 5000)], .agg [.lit (.int .i64 1), .lit (.int .i64 2000)]]

/-- 'batchlinelaw05.CorrectMonotone': WHATEVER THE INPUT: true; the input reads as it did. -/
def correctMonotoneSpec : ChangeSpec := { name := "correctMonotone", fn := fun _ => fun
  | [d1, d2, d3, d4, d5] => { results := [.lit (.bool true)], args := [d1, d2, d3, d4, d5] }
  | _ => none }
def correctMonotoneRow : OpenClaim := { program := "ytooojlecefgonaadoor", sum := "c188339446f4df0c7b58acb6c743d78c2cd7f9ed5f4bb247ceb5fcb63cd2ea21", func := "batchline/batchlinelaw05.CorrectMonotone", spec := "correctMonotone", unfollowed := true, recurses := true, named := ["batchline/product.spans"], apart := false, laid := [("batchline/product.spans", laid_batchline_product_spans)] }
def CorrectMonotoneSaid : Prop := correctMonotoneRow.holds Tryd.pinned (OpenSpec.ofChange correctMonotoneSpec)

/-- ITS FALSE NEIGHBOUR: 'it returns false'. Refute it at one input. -/
def correctMonotoneWrong : ChangeSpec := { name := "correctMonotone", fn := fun _ => fun
  | [d1, d2, d3, d4, d5] => { results := [.lit (.bool false)], args := [d1, d2, d3, d4, d5] }
  | _ => none }
def CorrectMonotoneWrongFalsely : Prop := correctMonotoneRow.holds Tryd.pinned (OpenSpec.ofChange correctMonotoneWrong)

/-- 'batchlinelaw05.CorrectAdds': WHATEVER THE INPUT: true; the input reads as it did. -/
def correctAddsSpec : ChangeSpec := { name := "correctAdds", fn := fun _ => fun
  | [d1, d2] => { results := [.lit (.bool true)], args := [d1, d2] }
  | _ => none }
def correctAddsRow : OpenClaim := { program := "ytooojlecefgonaadoor", sum := "c188339446f4df0c7b58acb6c743d78c2cd7f9ed5f4bb247ceb5fcb63cd2ea21", func := "batchline/batchlinelaw05.CorrectAdds", spec := "correctAdds", unfollowed := true, recurses := true, named := ["batchline/product.spans"], apart := false, laid := [("batchline/product.spans", laid_batchline_product_spans)] }
def CorrectAddsSaid : Prop := correctAddsRow.holds Tryd.pinned (OpenSpec.ofChange correctAddsSpec)

/-- ITS FALSE NEIGHBOUR: 'it returns false'. Refute it at one input. -/
def correctAddsWrong : ChangeSpec := { name := "correctAdds", fn := fun _ => fun
  | [d1, d2] => { results := [.lit (.bool false)], args := [d1, d2] }
  | _ => none }
def CorrectAddsWrongFalsely : Prop := correctAddsRow.holds Tryd.pinned (OpenSpec.ofChange correctAddsWrong)

/-- 'batchlinelaw05.CorrectProducts': WHATEVER THE INPUT: true; the input reads as it did. -/
def correctProductsSpec : ChangeSpec := { name := "correctProducts", fn := fun _ => fun
  | [d] => { results := [.lit (.bool true)], args := [d] }
  | _ => none }
def correctProductsRow : OpenClaim := { program := "ytooojlecefgonaadoor", sum := "c188339446f4df0c7b58acb6c743d78c2cd7f9ed5f4bb247ceb5fcb63cd2ea21", func := "batchline/batchlinelaw05.CorrectProducts", spec := "correctProducts", unfollowed := true, recurses := true, named := ["batchline/product.spans"], apart := false, laid := [("batchline/product.spans", laid_batchline_product_spans)] }
def CorrectProductsSaid : Prop := correctProductsRow.holds Tryd.pinned (OpenSpec.ofChange correctProductsSpec)

/-- ITS FALSE NEIGHBOUR: 'it returns false'. Refute it at one input. -/
def correctProductsWrong : ChangeSpec := { name := "correctProducts", fn := fun _ => fun
  | [d] => { results := [.lit (.bool false)], args := [d] }
  | _ => none }
def CorrectProductsWrongFalsely : Prop := correctProductsRow.holds Tryd.pinned (OpenSpec.ofChange correctProductsWrong)

/-- 'batchlinelaw05.CorrectParts': WHATEVER THE INPUT: true; the input reads as it did. -/
def correctPartsSpec : ChangeSpec := { name := "correctParts", fn := fun _ => fun
  | [d1, d2] => { results := [.lit (.bool true)], args := [d1, d2] }
  | _ => none }
def correctPartsRow : OpenClaim := { program := "ytooojlecefgonaadoor", sum := "c188339446f4df0c7b58acb6c743d78c2cd7f9ed5f4bb247ceb5fcb63cd2ea21", func := "batchline/batchlinelaw05.CorrectParts", spec := "correctParts", unfollowed := true, recurses := true, named := ["batchline/product.spans"], apart := false, laid := [("batchline/product.spans", laid_batchline_product_spans)] }
def CorrectPartsSaid : Prop := correctPartsRow.holds Tryd.pinned (OpenSpec.ofChange correctPartsSpec)

/-- ITS FALSE NEIGHBOUR: 'it returns false'. Refute it at one input. -/
def correctPartsWrong : ChangeSpec := { name := "correctParts", fn := fun _ => fun
  | [d1, d2] => { results := [.lit (.bool false)], args := [d1, d2] }
  | _ => none }
def CorrectPartsWrongFalsely : Prop := correctPartsRow.holds Tryd.pinned (OpenSpec.ofChange correctPartsWrong)

/-- 'batchlinelaw05.CorrectAnswers': WHATEVER THE INPUT: true; the input reads as it did. -/
def correctAnswersSpec : ChangeSpec := { name := "correctAnswers", fn := fun _ => fun
  | [d1, d2, d3, d4, d5, d6] => { results := [.lit (.bool true)], args := [d1, d2, d3, d4, d5, d6] }
  | _ => none }
def correctAnswersRow : OpenClaim := { program := "ytooojlecefgonaadoor", sum := "c188339446f4df0c7b58acb6c743d78c2cd7f9ed5f4bb247ceb5fcb63cd2ea21", func := "batchline/batchlinelaw05.CorrectAnswers", spec := "correctAnswers", unfollowed := true, recurses := true, named := ["batchline/product.spans"], apart := false, laid := [("batchline/product.spans", laid_batchline_product_spans)] }
def CorrectAnswersSaid : Prop := correctAnswersRow.holds Tryd.pinned (OpenSpec.ofChange correctAnswersSpec)

/-- ITS FALSE NEIGHBOUR: 'it returns false'. Refute it at one input. -/
def correctAnswersWrong : ChangeSpec := { name := "correctAnswers", fn := fun _ => fun
  | [d1, d2, d3, d4, d5, d6] => { results := [.lit (.bool false)], args := [d1, d2, d3, d4, d5, d6] }
  | _ => none }
def CorrectAnswersWrongFalsely : Prop := correctAnswersRow.holds Tryd.pinned (OpenSpec.ofChange correctAnswersWrong)

/-- 'batchlinelaw05.CorrectBack': WHATEVER THE INPUT: true; the input reads as it did. -/
def correctBackSpec : ChangeSpec := { name := "correctBack", fn := fun _ => fun
  | [d1, d2, d3, d4] => { results := [.lit (.bool true)], args := [d1, d2, d3, d4] }
  | _ => none }
def correctBackRow : OpenClaim := { program := "ytooojlecefgonaadoor", sum := "c188339446f4df0c7b58acb6c743d78c2cd7f9ed5f4bb247ceb5fcb63cd2ea21", func := "batchline/batchlinelaw05.CorrectBack", spec := "correctBack", unfollowed := true, recurses := true, named := ["batchline/product.spans"], apart := false, laid := [("batchline/product.spans", laid_batchline_product_spans)] }
def CorrectBackSaid : Prop := correctBackRow.holds Tryd.pinned (OpenSpec.ofChange correctBackSpec)

/-- ITS FALSE NEIGHBOUR: 'it returns false'. Refute it at one input. -/
def correctBackWrong : ChangeSpec := { name := "correctBack", fn := fun _ => fun
  | [d1, d2, d3, d4] => { results := [.lit (.bool false)], args := [d1, d2, d3, d4] }
  | _ => none }
def CorrectBackWrongFalsely : Prop := correctBackRow.holds Tryd.pinned (OpenSpec.ofChange correctBackWrong)

/- THE SECOND FORM. 'bulk': how many values and letters a reading holds, each counted each time it is reached (what is shared counts as often as it is met; a slice's spare places count too). A statement '..UptoSaid' is the law's where the arguments, and the package variables that the reading takes, are together of bulk at most 1048576: NARROWER than '..Said'. Prove '..Said' where nothing that the law and all that it calls make is longer than what came in: it says more and counts as full. Else prove '..UptoSaid'. A law counts once. -/
mutual
def uptoBulk {H : Type} : DataW H → Nat
  | .lit (.string bytes) => bytes.length + 1
  | .lit _ => 1
  | .nil => 1
  | .ptr d => uptoBulk d + 1
  | .slice elems spare => uptoBulkAll elems + uptoBulkAll spare + 1
  | .agg parts => uptoBulkAll parts + 1
  | .iface _ d => uptoBulk d + 1
  | .map entries => uptoBulkEntries entries + 1
  | .held _ => 1
def uptoBulkAll {H : Type} : List (DataW H) → Nat
  | [] => 0
  | d :: r => uptoBulk d + uptoBulkAll r
def uptoBulkEntries {H : Type} : List (Lit × DataW H) → Nat
  | [] => 0
  | x :: r => uptoBulkEntry x + uptoBulkEntries r
def uptoBulkEntry {H : Type} : Lit × DataW H → Nat
  | (.string bytes, d) => bytes.length + uptoBulk d + 1
  | (_, d) => uptoBulk d + 1
 end
def uptoSmall : (H : Type) → List (DataW H) → Bool := fun _ ds => decide (uptoBulkAll ds ≤ 1048576)
def OpenSpec.upto (s : _root_.Go.ChangeSpec) : _root_.Go.OpenSpec := { _root_.Go.OpenSpec.ofChange s with cond := some uptoSmall }

/-- 'batchlinelaw05.CorrectMonotone', WHERE WHAT IT READS IS OF BULK AT MOST 1048576: true; the input reads as it did. -/
def correctMonotoneUptoRow : OpenClaim := { program := "ytooojlecefgonaadoor", sum := "c188339446f4df0c7b58acb6c743d78c2cd7f9ed5f4bb247ceb5fcb63cd2ea21", func := "batchline/batchlinelaw05.CorrectMonotone", spec := "correctMonotone", unfollowed := true, recurses := true, named := ["batchline/product.spans"], apart := false, laid := [("batchline/product.spans", laid_batchline_product_spans)], narrowed := true }
def CorrectMonotoneUptoSaid : Prop := correctMonotoneUptoRow.holds Tryd.pinned (OpenSpec.upto correctMonotoneSpec)

/-- 'batchlinelaw05.CorrectAdds', WHERE WHAT IT READS IS OF BULK AT MOST 1048576: true; the input reads as it did. -/
def correctAddsUptoRow : OpenClaim := { program := "ytooojlecefgonaadoor", sum := "c188339446f4df0c7b58acb6c743d78c2cd7f9ed5f4bb247ceb5fcb63cd2ea21", func := "batchline/batchlinelaw05.CorrectAdds", spec := "correctAdds", unfollowed := true, recurses := true, named := ["batchline/product.spans"], apart := false, laid := [("batchline/product.spans", laid_batchline_product_spans)], narrowed := true }
def CorrectAddsUptoSaid : Prop := correctAddsUptoRow.holds Tryd.pinned (OpenSpec.upto correctAddsSpec)

/-- 'batchlinelaw05.CorrectProducts', WHERE WHAT IT READS IS OF BULK AT MOST 1048576: true; the input reads as it did. -/
def correctProductsUptoRow : OpenClaim := { program := "ytooojlecefgonaadoor", sum := "c188339446f4df0c7b58acb6c743d78c2cd7f9ed5f4bb247ceb5fcb63cd2ea21", func := "batchline/batchlinelaw05.CorrectProducts", spec := "correctProducts", unfollowed := true, recurses := true, named := ["batchline/product.spans"], apart := false, laid := [("batchline/product.spans", laid_batchline_product_spans)], narrowed := true }
def CorrectProductsUptoSaid : Prop := correctProductsUptoRow.holds Tryd.pinned (OpenSpec.upto correctProductsSpec)

/-- 'batchlinelaw05.CorrectParts', WHERE WHAT IT READS IS OF BULK AT MOST 1048576: true; the input reads as it did. -/
def correctPartsUptoRow : OpenClaim := { program := "ytooojlecefgonaadoor", sum := "c188339446f4df0c7b58acb6c743d78c2cd7f9ed5f4bb247ceb5fcb63cd2ea21", func := "batchline/batchlinelaw05.CorrectParts", spec := "correctParts", unfollowed := true, recurses := true, named := ["batchline/product.spans"], apart := false, laid := [("batchline/product.spans", laid_batchline_product_spans)], narrowed := true }
def CorrectPartsUptoSaid : Prop := correctPartsUptoRow.holds Tryd.pinned (OpenSpec.upto correctPartsSpec)

/-- 'batchlinelaw05.CorrectAnswers', WHERE WHAT IT READS IS OF BULK AT MOST 1048576: true; the input reads as it did. -/
def correctAnswersUptoRow : OpenClaim := { program := "ytooojlecefgonaadoor", sum := "c188339446f4df0c7b58acb6c743d78c2cd7f9ed5f4bb247ceb5fcb63cd2ea21", func := "batchline/batchlinelaw05.CorrectAnswers", spec := "correctAnswers", unfollowed := true, recurses := true, named := ["batchline/product.spans"], apart := false, laid := [("batchline/product.spans", laid_batchline_product_spans)], narrowed := true }
def CorrectAnswersUptoSaid : Prop := correctAnswersUptoRow.holds Tryd.pinned (OpenSpec.upto correctAnswersSpec)

/-- 'batchlinelaw05.CorrectBack', WHERE WHAT IT READS IS OF BULK AT MOST 1048576: true; the input reads as it did. -/
def correctBackUptoRow : OpenClaim := { program := "ytooojlecefgonaadoor", sum := "c188339446f4df0c7b58acb6c743d78c2cd7f9ed5f4bb247ceb5fcb63cd2ea21", func := "batchline/batchlinelaw05.CorrectBack", spec := "correctBack", unfollowed := true, recurses := true, named := ["batchline/product.spans"], apart := false, laid := [("batchline/product.spans", laid_batchline_product_spans)], narrowed := true }
def CorrectBackUptoSaid : Prop := correctBackUptoRow.holds Tryd.pinned (OpenSpec.upto correctBackSpec)

end Rows
end Go.Proofs.YtooojlecefgonaaDoor
