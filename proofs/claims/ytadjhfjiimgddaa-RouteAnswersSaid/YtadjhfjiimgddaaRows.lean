/-
  No cell of these rows narrows 'for every input' (looked for: loops, veiled, ifaces, maps, wideKeys, modest, calm, conditions, laid).
  DERIVED. THE GIVEN ROWS OF THIS SEAT. 4 by the template 'for every input the law returns true; each argument reads behind the call as it read before'; 0 by the template 'total and deterministic' (their statements: YtadjhfjiimgddaaTotals.lean).
  GIVEN WITH THE SEED: the statements are not yours to turn. If you find one false, say at which input.
  Laid BY PROGRAM, IN A SANDBOX (cutbox-rows.mjs): the forced cells as the released guide's own fill.sh prints them over the translation dc243c542fd3e347… (all of the seat's roots in one cut). By AI agents, Wed Nov 11 2026. No macro, syntax, notation, axiom, sorry.
-/
import Derived.Test.YtadjhfjiimgddaaChecked
import GoSem.Claim
import GoSem.ClaimJoined
import GoSem.ClaimMapViews
import Derived.JoinedTies
import Derived.KernelRfl
namespace Go.Proofs.Ytadjhfjiimgddaa
/- THE CELL 'sum', in the pinned program and in every row, IS THE sha256 OF THE DUMP (.gsa) THAT YtadjhfjiimgddaaProg.lean LOADS. Nothing in Lean hashes anything: it is a label: what it is worth is what the hold of that sum in a sandbox is worth. -/
noncomputable def Try.pinned : Pinned := { name := "ytadjhfjiimgddaa", sum := "dc243c542fd3e347ab9ad351e1a82208924190dc6a52a4695eaf1b1bb1657099", checked := Try.checked }
namespace Rows
def none {H : Type} : Left H := { results := [], args := [] }

/-- 'batchlinelaw06.TankAnswers': WHATEVER THE INPUT: true; the input reads as it did. -/
def tankAnswersSpec : ChangeSpec := { name := "tankAnswers", fn := fun _ => fun
  | [d1, d2, d3, d4] => { results := [.lit (.bool true)], args := [d1, d2, d3, d4] }
  | _ => none }
def tankAnswersRow : OpenClaim := { program := "ytadjhfjiimgddaa", sum := "dc243c542fd3e347ab9ad351e1a82208924190dc6a52a4695eaf1b1bb1657099", func := "batchline/batchlinelaw06.TankAnswers", spec := "tankAnswers", unfollowed := true, recurses := true, apart := false }
def TankAnswersSaid : Prop := tankAnswersRow.holds Try.pinned (OpenSpec.ofChange tankAnswersSpec)

/-- ITS FALSE NEIGHBOUR: 'it returns false'. Refute it at one input. -/
def tankAnswersWrong : ChangeSpec := { name := "tankAnswers", fn := fun _ => fun
  | [d1, d2, d3, d4] => { results := [.lit (.bool false)], args := [d1, d2, d3, d4] }
  | _ => none }
def TankAnswersWrongFalsely : Prop := tankAnswersRow.holds Try.pinned (OpenSpec.ofChange tankAnswersWrong)

/-- 'batchlinelaw32.ToolStays': WHATEVER THE INPUT: true; the input reads as it did. -/
def toolStaysSpec : ChangeSpec := { name := "toolStays", fn := fun _ => fun
  | [d1, d2] => { results := [.lit (.bool true)], args := [d1, d2] }
  | _ => none }
def toolStaysRow : OpenClaim := { program := "ytadjhfjiimgddaa", sum := "dc243c542fd3e347ab9ad351e1a82208924190dc6a52a4695eaf1b1bb1657099", func := "batchline/batchlinelaw32.ToolStays", spec := "toolStays", unfollowed := true, recurses := true, apart := false }
def ToolStaysSaid : Prop := toolStaysRow.holds Try.pinned (OpenSpec.ofChange toolStaysSpec)

/-- ITS FALSE NEIGHBOUR: 'it returns false'. Refute it at one input. -/
def toolStaysWrong : ChangeSpec := { name := "toolStays", fn := fun _ => fun
  | [d1, d2] => { results := [.lit (.bool false)], args := [d1, d2] }
  | _ => none }
def ToolStaysWrongFalsely : Prop := toolStaysRow.holds Try.pinned (OpenSpec.ofChange toolStaysWrong)

/-- 'batchlinelaw32.ToolMade': WHATEVER THE INPUT: true; the input reads as it did. -/
def toolMadeSpec : ChangeSpec := { name := "toolMade", fn := fun _ => fun
  | [d1, d2, d3] => { results := [.lit (.bool true)], args := [d1, d2, d3] }
  | _ => none }
def toolMadeRow : OpenClaim := { program := "ytadjhfjiimgddaa", sum := "dc243c542fd3e347ab9ad351e1a82208924190dc6a52a4695eaf1b1bb1657099", func := "batchline/batchlinelaw32.ToolMade", spec := "toolMade", unfollowed := true, recurses := true, apart := false }
def ToolMadeSaid : Prop := toolMadeRow.holds Try.pinned (OpenSpec.ofChange toolMadeSpec)

/-- ITS FALSE NEIGHBOUR: 'it returns false'. Refute it at one input. -/
def toolMadeWrong : ChangeSpec := { name := "toolMade", fn := fun _ => fun
  | [d1, d2, d3] => { results := [.lit (.bool false)], args := [d1, d2, d3] }
  | _ => none }
def ToolMadeWrongFalsely : Prop := toolMadeRow.holds Try.pinned (OpenSpec.ofChange toolMadeWrong)

/-- 'batchlinelaw13.RouteAnswers': WHATEVER THE INPUT: true; the input reads as it did. -/
def routeAnswersSpec : ChangeSpec := { name := "routeAnswers", fn := fun _ => fun
  | [d1, d2, d3, d4, d5, d6] => { results := [.lit (.bool true)], args := [d1, d2, d3, d4, d5, d6] }
  | _ => none }
def routeAnswersRow : OpenClaim := { program := "ytadjhfjiimgddaa", sum := "dc243c542fd3e347ab9ad351e1a82208924190dc6a52a4695eaf1b1bb1657099", func := "batchline/batchlinelaw13.RouteAnswers", spec := "routeAnswers", unfollowed := true, recurses := true, apart := false }
def RouteAnswersSaid : Prop := routeAnswersRow.holds Try.pinned (OpenSpec.ofChange routeAnswersSpec)

/-- ITS FALSE NEIGHBOUR: 'it returns false'. Refute it at one input. -/
def routeAnswersWrong : ChangeSpec := { name := "routeAnswers", fn := fun _ => fun
  | [d1, d2, d3, d4, d5, d6] => { results := [.lit (.bool false)], args := [d1, d2, d3, d4, d5, d6] }
  | _ => none }
def RouteAnswersWrongFalsely : Prop := routeAnswersRow.holds Try.pinned (OpenSpec.ofChange routeAnswersWrong)

/- THE SECOND FORM. 'bulk': how many values and letters a reading holds, each counted each time it is reached (what is shared counts as often as it is met; a slice's spare places count too). A statement '..UptoSaid' is the law's where the arguments, and the package variables that the reading takes, are together of bulk at most 1048576: NARROWER than '..Said'. Prove '..Said' where nothing that the law and all that it calls make is longer than what came in: it says more and counts as full. Else prove '..UptoSaid'. A law counts once. -/
mutual
def uptoBulk {H : Type} : DataW H → Nat
  | .lit (.string bytes) => bytes.length + 1
  | .lit _ => 1
  | .nil => 1
  | .ptr d => uptoBulk d + 1
  | .slice elems spare => uptoBulkAll elems + uptoBulkAll spare + 1
  | .agg parts => uptoBulkAll parts + 1
  | .iface _ d => uptoBulk d + 1
  | .map entries => uptoBulkEntries entries + 1
  | .held _ => 1
def uptoBulkAll {H : Type} : List (DataW H) → Nat
  | [] => 0
  | d :: r => uptoBulk d + uptoBulkAll r
def uptoBulkEntries {H : Type} : List (Lit × DataW H) → Nat
  | [] => 0
  | x :: r => uptoBulkEntry x + uptoBulkEntries r
def uptoBulkEntry {H : Type} : Lit × DataW H → Nat
  | (.string bytes, d) => bytes.length + uptoBulk d + 1
  | (_, d) => uptoBulk d + 1
 end
def uptoSmall : (H : Type) → List (DataW H) → Bool := fun _ ds => decide (uptoBulkAll ds ≤ 1048576)
def OpenSpec.upto (s : _root_.Go.ChangeSpec) : _root_.Go.OpenSpec := { _root_.Go.OpenSpec.ofChange s with cond := some uptoSmall }

/-- 'batchlinelaw06.TankAnswers', WHERE WHAT IT READS IS OF BULK AT MOST 1048576: true; the input reads as it did. -/
def tankAnswersUptoRow : OpenClaim := { program := "ytadjhfjiimgddaa", sum := "dc243c542fd3e347ab9ad351e1a82208924190dc6a52a4695eaf1b1bb1657099", func := "batchline/batchlinelaw06.TankAnswers", spec := "tankAnswers", unfollowed := true, recurses := true, apart := false, narrowed := true }
def TankAnswersUptoSaid : Prop := tankAnswersUptoRow.holds Try.pinned (OpenSpec.upto tankAnswersSpec)

/-- 'batchlinelaw32.ToolStays', WHERE WHAT IT READS IS OF BULK AT MOST 1048576: true; the input reads as it did. -/
def toolStaysUptoRow : OpenClaim := { program := "ytadjhfjiimgddaa", sum := "dc243c542fd3e347ab9ad351e1a82208924190dc6a52a4695eaf1b1bb1657099", func := "batchline/batchlinelaw32.ToolStays", spec := "toolStays", unfollowed := true, recurses := true, apart := false, narrowed := true }
def ToolStaysUptoSaid : Prop := toolStaysUptoRow.holds Try.pinned (OpenSpec.upto toolStaysSpec)

/-- 'batchlinelaw32.ToolMade', WHERE WHAT IT READS IS OF BULK AT MOST 1048576: true; the input reads as it did. -/
def toolMadeUptoRow : OpenClaim := { program := "ytadjhfjiimgddaa", sum := "dc243c542fd3e347ab9ad351e1a82208924190dc6a52a4695eaf1b1bb1657099", func := "batchline/batchlinelaw32.ToolMade", spec := "toolMade", unfollowed := true, recurses := true, apart := false, narrowed := true }
def ToolMadeUptoSaid : Prop := toolMadeUptoRow.holds Try.pinned (OpenSpec.upto toolMadeSpec)

/-- 'batchlinelaw13.RouteAnswers', WHERE WHAT IT READS IS OF BULK AT MOST 1048576: true; the input reads as it did. -/
def routeAnswersUptoRow : OpenClaim := { program := "ytadjhfjiimgddaa", sum := "dc243c542fd3e347ab9ad351e1a82208924190dc6a52a4695eaf1b1bb1657099", func := "batchline/batchlinelaw13.RouteAnswers", spec := "routeAnswers", unfollowed := true, recurses := true, apart := false, narrowed := true }
def RouteAnswersUptoSaid : Prop := routeAnswersUptoRow.holds Try.pinned (OpenSpec.upto routeAnswersSpec)

end Rows
end Go.Proofs.Ytadjhfjiimgddaa
