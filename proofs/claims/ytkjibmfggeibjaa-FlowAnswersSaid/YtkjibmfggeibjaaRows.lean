/-
  No cell of these rows narrows 'for every input' (looked for: loops, veiled, ifaces, maps, wideKeys, modest, calm, conditions, laid).
  DERIVED. THE GIVEN ROWS OF THIS SEAT. 8 by the template 'for every input the law returns true; each argument reads behind the call as it read before'; 0 by the template 'total and deterministic' (their statements: YtkjibmfggeibjaaTotals.lean).
  GIVEN WITH THE SEED: the statements are not yours to turn. If you find one false, say at which input.
  Laid BY PROGRAM, IN A SANDBOX (cutbox-rows.mjs): the forced cells as the released guide's own fill.sh prints them over the translation fda4b59e8ab66fbf… (all of the seat's roots in one cut). By AI agents, Wed Nov 11 2026. No macro, syntax, notation, axiom, sorry.
-/
import Derived.Test.YtkjibmfggeibjaaChecked
import GoSem.Claim
import GoSem.ClaimJoined
import GoSem.ClaimMapViews
import Derived.JoinedTies
import Derived.KernelRfl
namespace Go.Proofs.Ytkjibmfggeibjaa
/- THE CELL 'sum', in the pinned program and in every row, IS THE sha256 OF THE DUMP (.gsa) THAT YtkjibmfggeibjaaProg.lean LOADS. Nothing in Lean hashes anything: it is a label: what it is worth is what the hold of that sum in a sandbox is worth. -/
noncomputable def Try.pinned : Pinned := { name := "ytkjibmfggeibjaa", sum := "fda4b59e8ab66fbf0d66fee948c0148c1df12eb292655b05f92ff9f43b2cadbd", checked := Try.checked }
namespace Rows
def none {H : Type} : Left H := { results := [], args := [] }

/-- 'batchlinelaw32.ToolForecast': WHATEVER THE INPUT: true; the input reads as it did. -/
def toolForecastSpec : ChangeSpec := { name := "toolForecast", fn := fun _ => fun
  | [d1, d2] => { results := [.lit (.bool true)], args := [d1, d2] }
  | _ => none }
def toolForecastRow : OpenClaim := { program := "ytkjibmfggeibjaa", sum := "fda4b59e8ab66fbf0d66fee948c0148c1df12eb292655b05f92ff9f43b2cadbd", func := "batchline/batchlinelaw32.ToolForecast", spec := "toolForecast", unfollowed := true, recurses := true, apart := false }
def ToolForecastSaid : Prop := toolForecastRow.holds Try.pinned (OpenSpec.ofChange toolForecastSpec)

/-- ITS FALSE NEIGHBOUR: 'it returns false'. Refute it at one input. -/
def toolForecastWrong : ChangeSpec := { name := "toolForecast", fn := fun _ => fun
  | [d1, d2] => { results := [.lit (.bool false)], args := [d1, d2] }
  | _ => none }
def ToolForecastWrongFalsely : Prop := toolForecastRow.holds Try.pinned (OpenSpec.ofChange toolForecastWrong)

/-- 'batchlinelaw32.ToolParts': WHATEVER THE INPUT: true; the input reads as it did. -/
def toolPartsSpec : ChangeSpec := { name := "toolParts", fn := fun _ => fun
  | [d1, d2, d3] => { results := [.lit (.bool true)], args := [d1, d2, d3] }
  | _ => none }
def toolPartsRow : OpenClaim := { program := "ytkjibmfggeibjaa", sum := "fda4b59e8ab66fbf0d66fee948c0148c1df12eb292655b05f92ff9f43b2cadbd", func := "batchline/batchlinelaw32.ToolParts", spec := "toolParts", unfollowed := true, recurses := true, apart := false }
def ToolPartsSaid : Prop := toolPartsRow.holds Try.pinned (OpenSpec.ofChange toolPartsSpec)

/-- ITS FALSE NEIGHBOUR: 'it returns false'. Refute it at one input. -/
def toolPartsWrong : ChangeSpec := { name := "toolParts", fn := fun _ => fun
  | [d1, d2, d3] => { results := [.lit (.bool false)], args := [d1, d2, d3] }
  | _ => none }
def ToolPartsWrongFalsely : Prop := toolPartsRow.holds Try.pinned (OpenSpec.ofChange toolPartsWrong)

/-- 'batchlinelaw32.ToolOrder': WHATEVER THE INPUT: true; the input reads as it did. -/
def toolOrderSpec : ChangeSpec := { name := "toolOrder", fn := fun _ => fun
  | [d1, d2] => { results := [.lit (.bool true)], args := [d1, d2] }
  | _ => none }
def toolOrderRow : OpenClaim := { program := "ytkjibmfggeibjaa", sum := "fda4b59e8ab66fbf0d66fee948c0148c1df12eb292655b05f92ff9f43b2cadbd", func := "batchline/batchlinelaw32.ToolOrder", spec := "toolOrder", unfollowed := true, recurses := true, apart := false }
def ToolOrderSaid : Prop := toolOrderRow.holds Try.pinned (OpenSpec.ofChange toolOrderSpec)

/-- ITS FALSE NEIGHBOUR: 'it returns false'. Refute it at one input. -/
def toolOrderWrong : ChangeSpec := { name := "toolOrder", fn := fun _ => fun
  | [d1, d2] => { results := [.lit (.bool false)], args := [d1, d2] }
  | _ => none }
def ToolOrderWrongFalsely : Prop := toolOrderRow.holds Try.pinned (OpenSpec.ofChange toolOrderWrong)

/-- 'batchlinelaw32.ToolStays': WHATEVER THE INPUT: true; the input reads as it did. -/
def toolStaysSpec : ChangeSpec := { name := "toolStays", fn := fun _ => fun
  | [d1, d2] => { results := [.lit (.bool true)], args := [d1, d2] }
  | _ => none }
def toolStaysRow : OpenClaim := { program := "ytkjibmfggeibjaa", sum := "fda4b59e8ab66fbf0d66fee948c0148c1df12eb292655b05f92ff9f43b2cadbd", func := "batchline/batchlinelaw32.ToolStays", spec := "toolStays", unfollowed := true, recurses := true, apart := false }
def ToolStaysSaid : Prop := toolStaysRow.holds Try.pinned (OpenSpec.ofChange toolStaysSpec)

/-- ITS FALSE NEIGHBOUR: 'it returns false'. Refute it at one input. -/
def toolStaysWrong : ChangeSpec := { name := "toolStays", fn := fun _ => fun
  | [d1, d2] => { results := [.lit (.bool false)], args := [d1, d2] }
  | _ => none }
def ToolStaysWrongFalsely : Prop := toolStaysRow.holds Try.pinned (OpenSpec.ofChange toolStaysWrong)

/-- 'batchlinelaw32.ToolMade': WHATEVER THE INPUT: true; the input reads as it did. -/
def toolMadeSpec : ChangeSpec := { name := "toolMade", fn := fun _ => fun
  | [d1, d2, d3] => { results := [.lit (.bool true)], args := [d1, d2, d3] }
  | _ => none }
def toolMadeRow : OpenClaim := { program := "ytkjibmfggeibjaa", sum := "fda4b59e8ab66fbf0d66fee948c0148c1df12eb292655b05f92ff9f43b2cadbd", func := "batchline/batchlinelaw32.ToolMade", spec := "toolMade", unfollowed := true, recurses := true, apart := false }
def ToolMadeSaid : Prop := toolMadeRow.holds Try.pinned (OpenSpec.ofChange toolMadeSpec)

/-- ITS FALSE NEIGHBOUR: 'it returns false'. Refute it at one input. -/
def toolMadeWrong : ChangeSpec := { name := "toolMade", fn := fun _ => fun
  | [d1, d2, d3] => { results := [.lit (.bool false)], args := [d1, d2, d3] }
  | _ => none }
def ToolMadeWrongFalsely : Prop := toolMadeRow.holds Try.pinned (OpenSpec.ofChange toolMadeWrong)

/-- 'batchlinelaw24.LineupMade': WHATEVER THE INPUT: true; the input reads as it did. -/
def lineupMadeSpec : ChangeSpec := { name := "lineupMade", fn := fun _ => fun
  | [d1, d2] => { results := [.lit (.bool true)], args := [d1, d2] }
  | _ => none }
def lineupMadeRow : OpenClaim := { program := "ytkjibmfggeibjaa", sum := "fda4b59e8ab66fbf0d66fee948c0148c1df12eb292655b05f92ff9f43b2cadbd", func := "batchline/batchlinelaw24.LineupMade", spec := "lineupMade", unfollowed := true, recurses := true, apart := false }
def LineupMadeSaid : Prop := lineupMadeRow.holds Try.pinned (OpenSpec.ofChange lineupMadeSpec)

/-- ITS FALSE NEIGHBOUR: 'it returns false'. Refute it at one input. -/
def lineupMadeWrong : ChangeSpec := { name := "lineupMade", fn := fun _ => fun
  | [d1, d2] => { results := [.lit (.bool false)], args := [d1, d2] }
  | _ => none }
def LineupMadeWrongFalsely : Prop := lineupMadeRow.holds Try.pinned (OpenSpec.ofChange lineupMadeWrong)

/-- 'batchlinelaw16.FlowAnswers': WHATEVER THE INPUT: true; the input reads as it did. -/
def flowAnswersSpec : ChangeSpec := { name := "flowAnswers", fn := fun _ => fun
  | [d1, d2, d3, d4] => { results := [.lit (.bool true)], args := [d1, d2, d3, d4] }
  | _ => none }
def flowAnswersRow : OpenClaim := { program := "ytkjibmfggeibjaa", sum := "fda4b59e8ab66fbf0d66fee948c0148c1df12eb292655b05f92ff9f43b2cadbd", func := "batchline/batchlinelaw16.FlowAnswers", spec := "flowAnswers", unfollowed := true, recurses := true, apart := false }
def FlowAnswersSaid : Prop := flowAnswersRow.holds Try.pinned (OpenSpec.ofChange flowAnswersSpec)

/-- ITS FALSE NEIGHBOUR: 'it returns false'. Refute it at one input. -/
def flowAnswersWrong : ChangeSpec := { name := "flowAnswers", fn := fun _ => fun
  | [d1, d2, d3, d4] => { results := [.lit (.bool false)], args := [d1, d2, d3, d4] }
  | _ => none }
def FlowAnswersWrongFalsely : Prop := flowAnswersRow.holds Try.pinned (OpenSpec.ofChange flowAnswersWrong)

/-- 'batchlinelaw13.RouteAnswers': WHATEVER THE INPUT: true; the input reads as it did. -/
def routeAnswersSpec : ChangeSpec := { name := "routeAnswers", fn := fun _ => fun
  | [d1, d2, d3, d4, d5, d6] => { results := [.lit (.bool true)], args := [d1, d2, d3, d4, d5, d6] }
  | _ => none }
def routeAnswersRow : OpenClaim := { program := "ytkjibmfggeibjaa", sum := "fda4b59e8ab66fbf0d66fee948c0148c1df12eb292655b05f92ff9f43b2cadbd", func := "batchline/batchlinelaw13.RouteAnswers", spec := "routeAnswers", unfollowed := true, recurses := true, apart := false }
def RouteAnswersSaid : Prop := routeAnswersRow.holds Try.pinned (OpenSpec.ofChange routeAnswersSpec)

/-- ITS FALSE NEIGHBOUR: 'it returns false'. Refute it at one input. -/
def routeAnswersWrong : ChangeSpec := { name := "routeAnswers", fn := fun _ => fun
  | [d1, d2, d3, d4, d5, d6] => { results := [.lit (.bool false)], args := [d1, d2, d3, d4, d5, d6] }
  | _ => none }
def RouteAnswersWrongFalsely : Prop := routeAnswersRow.holds Try.pinned (OpenSpec.ofChange routeAnswersWrong)

/- THE SECOND FORM. 'bulk': how many values and letters a reading holds, each counted each time it is reached (what is shared counts as often as it is met; a slice's spare places count too). A statement '..UptoSaid' is the law's where the arguments, and the package variables that the reading takes, are together of bulk at most 1048576: NARROWER than '..Said'. Prove '..Said' where nothing that the law and all that it calls make is longer than what came in: it says more and counts as full. Else prove '..UptoSaid'. A law counts once. -/
mutual
def uptoBulk {H : Type} : DataW H → Nat
  | .lit (.string bytes) => bytes.length + 1
  | .lit _ => 1
  | .nil => 1
  | .ptr d => uptoBulk d + 1
  | .slice elems spare => uptoBulkAll elems + uptoBulkAll spare + 1
  | .agg parts => uptoBulkAll parts + 1
  | .iface _ d => uptoBulk d + 1
  | .map entries => uptoBulkEntries entries + 1
  | .held _ => 1
def uptoBulkAll {H : Type} : List (DataW H) → Nat
  | [] => 0
  | d :: r => uptoBulk d + uptoBulkAll r
def uptoBulkEntries {H : Type} : List (Lit × DataW H) → Nat
  | [] => 0
  | x :: r => uptoBulkEntry x + uptoBulkEntries r
def uptoBulkEntry {H : Type} : Lit × DataW H → Nat
  | (.string bytes, d) => bytes.length + uptoBulk d + 1
  | (_, d) => uptoBulk d + 1
 end
def uptoSmall : (H : Type) → List (DataW H) → Bool := fun _ ds => decide (uptoBulkAll ds ≤ 1048576)
def OpenSpec.upto (s : _root_.Go.ChangeSpec) : _root_.Go.OpenSpec := { _root_.Go.OpenSpec.ofChange s with cond := some uptoSmall }

/-- 'batchlinelaw32.ToolForecast', WHERE WHAT IT READS IS OF BULK AT MOST 1048576: true; the input reads as it did. -/
def toolForecastUptoRow : OpenClaim := { program := "ytkjibmfggeibjaa", sum := "fda4b59e8ab66fbf0d66fee948c0148c1df12eb292655b05f92ff9f43b2cadbd", func := "batchline/batchlinelaw32.ToolForecast", spec := "toolForecast", unfollowed := true, recurses := true, apart := false, narrowed := true }
def ToolForecastUptoSaid : Prop := toolForecastUptoRow.holds Try.pinned (OpenSpec.upto toolForecastSpec)

/-- 'batchlinelaw32.ToolParts', WHERE WHAT IT READS IS OF BULK AT MOST 1048576: true; the input reads as it did. -/
def toolPartsUptoRow : OpenClaim := { program := "ytkjibmfggeibjaa", sum := "fda4b59e8ab66fbf0d66fee948c0148c1df12eb292655b05f92ff9f43b2cadbd", func := "batchline/batchlinelaw32.ToolParts", spec := "toolParts", unfollowed := true, recurses := true, apart := false, narrowed := true }
def ToolPartsUptoSaid : Prop := toolPartsUptoRow.holds Try.pinned (OpenSpec.upto toolPartsSpec)

/-- 'batchlinelaw32.ToolOrder', WHERE WHAT IT READS IS OF BULK AT MOST 1048576: true; the input reads as it did. -/
def toolOrderUptoRow : OpenClaim := { program := "ytkjibmfggeibjaa", sum := "fda4b59e8ab66fbf0d66fee948c0148c1df12eb292655b05f92ff9f43b2cadbd", func := "batchline/batchlinelaw32.ToolOrder", spec := "toolOrder", unfollowed := true, recurses := true, apart := false, narrowed := true }
def ToolOrderUptoSaid : Prop := toolOrderUptoRow.holds Try.pinned (OpenSpec.upto toolOrderSpec)

/-- 'batchlinelaw32.ToolStays', WHERE WHAT IT READS IS OF BULK AT MOST 1048576: true; the input reads as it did. -/
def toolStaysUptoRow : OpenClaim := { program := "ytkjibmfggeibjaa", sum := "fda4b59e8ab66fbf0d66fee948c0148c1df12eb292655b05f92ff9f43b2cadbd", func := "batchline/batchlinelaw32.ToolStays", spec := "toolStays", unfollowed := true, recurses := true, apart := false, narrowed := true }
def ToolStaysUptoSaid : Prop := toolStaysUptoRow.holds Try.pinned (OpenSpec.upto toolStaysSpec)

/-- 'batchlinelaw32.ToolMade', WHERE WHAT IT READS IS OF BULK AT MOST 1048576: true; the input reads as it did. -/
def toolMadeUptoRow : OpenClaim := { program := "ytkjibmfggeibjaa", sum := "fda4b59e8ab66fbf0d66fee948c0148c1df12eb292655b05f92ff9f43b2cadbd", func := "batchline/batchlinelaw32.ToolMade", spec := "toolMade", unfollowed := true, recurses := true, apart := false, narrowed := true }
def ToolMadeUptoSaid : Prop := toolMadeUptoRow.holds Try.pinned (OpenSpec.upto toolMadeSpec)

/-- 'batchlinelaw24.LineupMade', WHERE WHAT IT READS IS OF BULK AT MOST 1048576: true; the input reads as it did. -/
def lineupMadeUptoRow : OpenClaim := { program := "ytkjibmfggeibjaa", sum := "fda4b59e8ab66fbf0d66fee948c0148c1df12eb292655b05f92ff9f43b2cadbd", func := "batchline/batchlinelaw24.LineupMade", spec := "lineupMade", unfollowed := true, recurses := true, apart := false, narrowed := true }
def LineupMadeUptoSaid : Prop := lineupMadeUptoRow.holds Try.pinned (OpenSpec.upto lineupMadeSpec)

/-- 'batchlinelaw16.FlowAnswers', WHERE WHAT IT READS IS OF BULK AT MOST 1048576: true; the input reads as it did. -/
def flowAnswersUptoRow : OpenClaim := { program := "ytkjibmfggeibjaa", sum := "fda4b59e8ab66fbf0d66fee948c0148c1df12eb292655b05f92ff9f43b2cadbd", func := "batchline/batchlinelaw16.FlowAnswers", spec := "flowAnswers", unfollowed := true, recurses := true, apart := false, narrowed := true }
def FlowAnswersUptoSaid : Prop := flowAnswersUptoRow.holds Try.pinned (OpenSpec.upto flowAnswersSpec)

/-- 'batchlinelaw13.RouteAnswers', WHERE WHAT IT READS IS OF BULK AT MOST 1048576: true; the input reads as it did. -/
def routeAnswersUptoRow : OpenClaim := { program := "ytkjibmfggeibjaa", sum := "fda4b59e8ab66fbf0d66fee948c0148c1df12eb292655b05f92ff9f43b2cadbd", func := "batchline/batchlinelaw13.RouteAnswers", spec := "routeAnswers", unfollowed := true, recurses := true, apart := false, narrowed := true }
def RouteAnswersUptoSaid : Prop := routeAnswersUptoRow.holds Try.pinned (OpenSpec.upto routeAnswersSpec)

end Rows
end Go.Proofs.Ytkjibmfggeibjaa
