/-
  No cell of these rows narrows 'for every input' (looked for: loops, veiled, ifaces, maps, wideKeys, modest, calm, conditions, laid).
  DERIVED. THE GIVEN ROWS OF THIS SEAT. 12 by the template 'for every input the law returns true; each argument reads behind the call as it read before'; 0 by the template 'total and deterministic' (their statements: YtemkjjlpggmolaaTotals.lean).
  GIVEN WITH THE SEED: the statements are not yours to turn. If you find one false, say at which input.
  Laid BY PROGRAM, IN A SANDBOX (cutbox-rows.mjs): the forced cells as the released guide's own fill.sh prints them over the translation 2fe43ce4380419b4… (all of the seat's roots in one cut). By AI agents, Wed Nov 11 2026. No macro, syntax, notation, axiom, sorry.
-/
import Derived.Test.YtemkjjlpggmolaaChecked
import GoSem.Claim
import GoSem.ClaimJoined
import GoSem.ClaimMapViews
import Derived.JoinedTies
import Derived.KernelRfl
namespace Go.Proofs.Ytemkjjlpggmolaa
/- THE CELL 'sum', in the pinned program and in every row, IS THE sha256 OF THE DUMP (.gsa) THAT YtemkjjlpggmolaaProg.lean LOADS. Nothing in Lean hashes anything: it is a label: what it is worth is what the hold of that sum in a sandbox is worth. -/
noncomputable def Try.pinned : Pinned := { name := "ytemkjjlpggmolaa", sum := "2fe43ce4380419b45069ebfda657c48ffb10a1b07405ebef957e6d651ef36fc1", checked := Try.checked }
namespace Rows
def none {H : Type} : Left H := { results := [], args := [] }

/-- 'batchlinelaw16.FlowParts': WHATEVER THE INPUT: true; the input reads as it did. -/
def flowPartsSpec : ChangeSpec := { name := "flowParts", fn := fun _ => fun
  | [d1, d2] => { results := [.lit (.bool true)], args := [d1, d2] }
  | _ => none }
def flowPartsRow : OpenClaim := { program := "ytemkjjlpggmolaa", sum := "2fe43ce4380419b45069ebfda657c48ffb10a1b07405ebef957e6d651ef36fc1", func := "batchline/batchlinelaw16.FlowParts", spec := "flowParts", unfollowed := true, recurses := true, apart := false }
def FlowPartsSaid : Prop := flowPartsRow.holds Try.pinned (OpenSpec.ofChange flowPartsSpec)

/-- ITS FALSE NEIGHBOUR: 'it returns false'. Refute it at one input. -/
def flowPartsWrong : ChangeSpec := { name := "flowParts", fn := fun _ => fun
  | [d1, d2] => { results := [.lit (.bool false)], args := [d1, d2] }
  | _ => none }
def FlowPartsWrongFalsely : Prop := flowPartsRow.holds Try.pinned (OpenSpec.ofChange flowPartsWrong)

/-- 'batchlinelaw16.FlowTurns': WHATEVER THE INPUT: true; the input reads as it did. -/
def flowTurnsSpec : ChangeSpec := { name := "flowTurns", fn := fun _ => fun
  | [d] => { results := [.lit (.bool true)], args := [d] }
  | _ => none }
def flowTurnsRow : OpenClaim := { program := "ytemkjjlpggmolaa", sum := "2fe43ce4380419b45069ebfda657c48ffb10a1b07405ebef957e6d651ef36fc1", func := "batchline/batchlinelaw16.FlowTurns", spec := "flowTurns", unfollowed := true, recurses := true, apart := false }
def FlowTurnsSaid : Prop := flowTurnsRow.holds Try.pinned (OpenSpec.ofChange flowTurnsSpec)

/-- ITS FALSE NEIGHBOUR: 'it returns false'. Refute it at one input. -/
def flowTurnsWrong : ChangeSpec := { name := "flowTurns", fn := fun _ => fun
  | [d] => { results := [.lit (.bool false)], args := [d] }
  | _ => none }
def FlowTurnsWrongFalsely : Prop := flowTurnsRow.holds Try.pinned (OpenSpec.ofChange flowTurnsWrong)

/-- 'batchlinelaw16.FlowAnswers': WHATEVER THE INPUT: true; the input reads as it did. -/
def flowAnswersSpec : ChangeSpec := { name := "flowAnswers", fn := fun _ => fun
  | [d1, d2, d3, d4] => { results := [.lit (.bool true)], args := [d1, d2, d3, d4] }
  | _ => none }
def flowAnswersRow : OpenClaim := { program := "ytemkjjlpggmolaa", sum := "2fe43ce4380419b45069ebfda657c48ffb10a1b07405ebef957e6d651ef36fc1", func := "batchline/batchlinelaw16.FlowAnswers", spec := "flowAnswers", unfollowed := true, recurses := true, apart := false }
def FlowAnswersSaid : Prop := flowAnswersRow.holds Try.pinned (OpenSpec.ofChange flowAnswersSpec)

/-- ITS FALSE NEIGHBOUR: 'it returns false'. Refute it at one input. -/
def flowAnswersWrong : ChangeSpec := { name := "flowAnswers", fn := fun _ => fun
  | [d1, d2, d3, d4] => { results := [.lit (.bool false)], args := [d1, d2, d3, d4] }
  | _ => none }
def FlowAnswersWrongFalsely : Prop := flowAnswersRow.holds Try.pinned (OpenSpec.ofChange flowAnswersWrong)

/-- 'batchlinelaw42.TroubleMade': WHATEVER THE INPUT: true; the input reads as it did. -/
def troubleMadeSpec : ChangeSpec := { name := "troubleMade", fn := fun _ => fun
  | [d1, d2, d3, d4, d5] => { results := [.lit (.bool true)], args := [d1, d2, d3, d4, d5] }
  | _ => none }
def troubleMadeRow : OpenClaim := { program := "ytemkjjlpggmolaa", sum := "2fe43ce4380419b45069ebfda657c48ffb10a1b07405ebef957e6d651ef36fc1", func := "batchline/batchlinelaw42.TroubleMade", spec := "troubleMade", unfollowed := true, recurses := true, apart := false }
def TroubleMadeSaid : Prop := troubleMadeRow.holds Try.pinned (OpenSpec.ofChange troubleMadeSpec)

/-- ITS FALSE NEIGHBOUR: 'it returns false'. Refute it at one input. -/
def troubleMadeWrong : ChangeSpec := { name := "troubleMade", fn := fun _ => fun
  | [d1, d2, d3, d4, d5] => { results := [.lit (.bool false)], args := [d1, d2, d3, d4, d5] }
  | _ => none }
def TroubleMadeWrongFalsely : Prop := troubleMadeRow.holds Try.pinned (OpenSpec.ofChange troubleMadeWrong)

/-- 'batchlinelaw24.LineupNeeds': WHATEVER THE INPUT: true; the input reads as it did. -/
def lineupNeedsSpec : ChangeSpec := { name := "lineupNeeds", fn := fun _ => fun
  | [d1, d2] => { results := [.lit (.bool true)], args := [d1, d2] }
  | _ => none }
def lineupNeedsRow : OpenClaim := { program := "ytemkjjlpggmolaa", sum := "2fe43ce4380419b45069ebfda657c48ffb10a1b07405ebef957e6d651ef36fc1", func := "batchline/batchlinelaw24.LineupNeeds", spec := "lineupNeeds", unfollowed := true, recurses := true, apart := false }
def LineupNeedsSaid : Prop := lineupNeedsRow.holds Try.pinned (OpenSpec.ofChange lineupNeedsSpec)

/-- ITS FALSE NEIGHBOUR: 'it returns false'. Refute it at one input. -/
def lineupNeedsWrong : ChangeSpec := { name := "lineupNeeds", fn := fun _ => fun
  | [d1, d2] => { results := [.lit (.bool false)], args := [d1, d2] }
  | _ => none }
def LineupNeedsWrongFalsely : Prop := lineupNeedsRow.holds Try.pinned (OpenSpec.ofChange lineupNeedsWrong)

/-- 'batchlinelaw24.LineupShut': WHATEVER THE INPUT: true; the input reads as it did. -/
def lineupShutSpec : ChangeSpec := { name := "lineupShut", fn := fun _ => fun
  | [d] => { results := [.lit (.bool true)], args := [d] }
  | _ => none }
def lineupShutRow : OpenClaim := { program := "ytemkjjlpggmolaa", sum := "2fe43ce4380419b45069ebfda657c48ffb10a1b07405ebef957e6d651ef36fc1", func := "batchline/batchlinelaw24.LineupShut", spec := "lineupShut", unfollowed := true, recurses := true, apart := false }
def LineupShutSaid : Prop := lineupShutRow.holds Try.pinned (OpenSpec.ofChange lineupShutSpec)

/-- ITS FALSE NEIGHBOUR: 'it returns false'. Refute it at one input. -/
def lineupShutWrong : ChangeSpec := { name := "lineupShut", fn := fun _ => fun
  | [d] => { results := [.lit (.bool false)], args := [d] }
  | _ => none }
def LineupShutWrongFalsely : Prop := lineupShutRow.holds Try.pinned (OpenSpec.ofChange lineupShutWrong)

/-- 'batchlinelaw24.LineupMade': WHATEVER THE INPUT: true; the input reads as it did. -/
def lineupMadeSpec : ChangeSpec := { name := "lineupMade", fn := fun _ => fun
  | [d1, d2] => { results := [.lit (.bool true)], args := [d1, d2] }
  | _ => none }
def lineupMadeRow : OpenClaim := { program := "ytemkjjlpggmolaa", sum := "2fe43ce4380419b45069ebfda657c48ffb10a1b07405ebef957e6d651ef36fc1", func := "batchline/batchlinelaw24.LineupMade", spec := "lineupMade", unfollowed := true, recurses := true, apart := false }
def LineupMadeSaid : Prop := lineupMadeRow.holds Try.pinned (OpenSpec.ofChange lineupMadeSpec)

/-- ITS FALSE NEIGHBOUR: 'it returns false'. Refute it at one input. -/
def lineupMadeWrong : ChangeSpec := { name := "lineupMade", fn := fun _ => fun
  | [d1, d2] => { results := [.lit (.bool false)], args := [d1, d2] }
  | _ => none }
def LineupMadeWrongFalsely : Prop := lineupMadeRow.holds Try.pinned (OpenSpec.ofChange lineupMadeWrong)

/-- 'batchlinelaw13.RouteBack': WHATEVER THE INPUT: true; the input reads as it did. -/
def routeBackSpec : ChangeSpec := { name := "routeBack", fn := fun _ => fun
  | [d1, d2, d3] => { results := [.lit (.bool true)], args := [d1, d2, d3] }
  | _ => none }
def routeBackRow : OpenClaim := { program := "ytemkjjlpggmolaa", sum := "2fe43ce4380419b45069ebfda657c48ffb10a1b07405ebef957e6d651ef36fc1", func := "batchline/batchlinelaw13.RouteBack", spec := "routeBack", unfollowed := true, recurses := true, apart := false }
def RouteBackSaid : Prop := routeBackRow.holds Try.pinned (OpenSpec.ofChange routeBackSpec)

/-- ITS FALSE NEIGHBOUR: 'it returns false'. Refute it at one input. -/
def routeBackWrong : ChangeSpec := { name := "routeBack", fn := fun _ => fun
  | [d1, d2, d3] => { results := [.lit (.bool false)], args := [d1, d2, d3] }
  | _ => none }
def RouteBackWrongFalsely : Prop := routeBackRow.holds Try.pinned (OpenSpec.ofChange routeBackWrong)

/-- 'batchlinelaw13.RouteCloses': WHATEVER THE INPUT: true; the input reads as it did. -/
def routeClosesSpec : ChangeSpec := { name := "routeCloses", fn := fun _ => fun
  | [d1, d2, d3, d4] => { results := [.lit (.bool true)], args := [d1, d2, d3, d4] }
  | _ => none }
def routeClosesRow : OpenClaim := { program := "ytemkjjlpggmolaa", sum := "2fe43ce4380419b45069ebfda657c48ffb10a1b07405ebef957e6d651ef36fc1", func := "batchline/batchlinelaw13.RouteCloses", spec := "routeCloses", unfollowed := true, recurses := true, apart := false }
def RouteClosesSaid : Prop := routeClosesRow.holds Try.pinned (OpenSpec.ofChange routeClosesSpec)

/-- ITS FALSE NEIGHBOUR: 'it returns false'. Refute it at one input. -/
def routeClosesWrong : ChangeSpec := { name := "routeCloses", fn := fun _ => fun
  | [d1, d2, d3, d4] => { results := [.lit (.bool false)], args := [d1, d2, d3, d4] }
  | _ => none }
def RouteClosesWrongFalsely : Prop := routeClosesRow.holds Try.pinned (OpenSpec.ofChange routeClosesWrong)

/-- 'batchlinelaw13.RouteWays': WHATEVER THE INPUT: true; the input reads as it did. -/
def routeWaysSpec : ChangeSpec := { name := "routeWays", fn := fun _ => fun
  | [d1, d2, d3] => { results := [.lit (.bool true)], args := [d1, d2, d3] }
  | _ => none }
def routeWaysRow : OpenClaim := { program := "ytemkjjlpggmolaa", sum := "2fe43ce4380419b45069ebfda657c48ffb10a1b07405ebef957e6d651ef36fc1", func := "batchline/batchlinelaw13.RouteWays", spec := "routeWays", unfollowed := true, recurses := true, apart := false }
def RouteWaysSaid : Prop := routeWaysRow.holds Try.pinned (OpenSpec.ofChange routeWaysSpec)

/-- ITS FALSE NEIGHBOUR: 'it returns false'. Refute it at one input. -/
def routeWaysWrong : ChangeSpec := { name := "routeWays", fn := fun _ => fun
  | [d1, d2, d3] => { results := [.lit (.bool false)], args := [d1, d2, d3] }
  | _ => none }
def RouteWaysWrongFalsely : Prop := routeWaysRow.holds Try.pinned (OpenSpec.ofChange routeWaysWrong)

/-- 'batchlinelaw13.RouteParts': WHATEVER THE INPUT: true; the input reads as it did. -/
def routePartsSpec : ChangeSpec := { name := "routeParts", fn := fun _ => fun
  | [d1, d2, d3, d4] => { results := [.lit (.bool true)], args := [d1, d2, d3, d4] }
  | _ => none }
def routePartsRow : OpenClaim := { program := "ytemkjjlpggmolaa", sum := "2fe43ce4380419b45069ebfda657c48ffb10a1b07405ebef957e6d651ef36fc1", func := "batchline/batchlinelaw13.RouteParts", spec := "routeParts", unfollowed := true, recurses := true, apart := false }
def RoutePartsSaid : Prop := routePartsRow.holds Try.pinned (OpenSpec.ofChange routePartsSpec)

/-- ITS FALSE NEIGHBOUR: 'it returns false'. Refute it at one input. -/
def routePartsWrong : ChangeSpec := { name := "routeParts", fn := fun _ => fun
  | [d1, d2, d3, d4] => { results := [.lit (.bool false)], args := [d1, d2, d3, d4] }
  | _ => none }
def RoutePartsWrongFalsely : Prop := routePartsRow.holds Try.pinned (OpenSpec.ofChange routePartsWrong)

/-- 'batchlinelaw13.RouteAnswers': WHATEVER THE INPUT: true; the input reads as it did. -/
def routeAnswersSpec : ChangeSpec := { name := "routeAnswers", fn := fun _ => fun
  | [d1, d2, d3, d4, d5, d6] => { results := [.lit (.bool true)], args := [d1, d2, d3, d4, d5, d6] }
  | _ => none }
def routeAnswersRow : OpenClaim := { program := "ytemkjjlpggmolaa", sum := "2fe43ce4380419b45069ebfda657c48ffb10a1b07405ebef957e6d651ef36fc1", func := "batchline/batchlinelaw13.RouteAnswers", spec := "routeAnswers", unfollowed := true, recurses := true, apart := false }
def RouteAnswersSaid : Prop := routeAnswersRow.holds Try.pinned (OpenSpec.ofChange routeAnswersSpec)

/-- ITS FALSE NEIGHBOUR: 'it returns false'. Refute it at one input. -/
def routeAnswersWrong : ChangeSpec := { name := "routeAnswers", fn := fun _ => fun
  | [d1, d2, d3, d4, d5, d6] => { results := [.lit (.bool false)], args := [d1, d2, d3, d4, d5, d6] }
  | _ => none }
def RouteAnswersWrongFalsely : Prop := routeAnswersRow.holds Try.pinned (OpenSpec.ofChange routeAnswersWrong)

/- THE SECOND FORM. 'bulk': how many values and letters a reading holds, each counted each time it is reached (what is shared counts as often as it is met; a slice's spare places count too). A statement '..UptoSaid' is the law's where the arguments, and the package variables that the reading takes, are together of bulk at most 1048576: NARROWER than '..Said'. Prove '..Said' where nothing that the law and all that it calls make is longer than what came in: it says more and counts as full. Else prove '..UptoSaid'. A law counts once. -/
mutual
def uptoBulk {H : Type} : DataW H → Nat
  | .lit (.string bytes) => bytes.length + 1
  | .lit _ => 1
  | .nil => 1
  | .ptr d => uptoBulk d + 1
  | .slice elems spare => uptoBulkAll elems + uptoBulkAll spare + 1
  | .agg parts => uptoBulkAll parts + 1
  | .iface _ d => uptoBulk d + 1
  | .map entries => uptoBulkEntries entries + 1
  | .held _ => 1
def uptoBulkAll {H : Type} : List (DataW H) → Nat
  | [] => 0
  | d :: r => uptoBulk d + uptoBulkAll r
def uptoBulkEntries {H : Type} : List (Lit × DataW H) → Nat
  | [] => 0
  | x :: r => uptoBulkEntry x + uptoBulkEntries r
def uptoBulkEntry {H : Type} : Lit × DataW H → Nat
  | (.string bytes, d) => bytes.length + uptoBulk d + 1
  | (_, d) => uptoBulk d + 1
 end
def uptoSmall : (H : Type) → List (DataW H) → Bool := fun _ ds => decide (uptoBulkAll ds ≤ 1048576)
def OpenSpec.upto (s : _root_.Go.ChangeSpec) : _root_.Go.OpenSpec := { _root_.Go.OpenSpec.ofChange s with cond := some uptoSmall }

/-- 'batchlinelaw16.FlowParts', WHERE WHAT IT READS IS OF BULK AT MOST 1048576: true; the input reads as it did. -/
def flowPartsUptoRow : OpenClaim := { program := "ytemkjjlpggmolaa", sum := "2fe43ce4380419b45069ebfda657c48ffb10a1b07405ebef957e6d651ef36fc1", func := "batchline/batchlinelaw16.FlowParts", spec := "flowParts", unfollowed := true, recurses := true, apart := false, narrowed := true }
def FlowPartsUptoSaid : Prop := flowPartsUptoRow.holds Try.pinned (OpenSpec.upto flowPartsSpec)

/-- 'batchlinelaw16.FlowTurns', WHERE WHAT IT READS IS OF BULK AT MOST 1048576: true; the input reads as it did. -/
def flowTurnsUptoRow : OpenClaim := { program := "ytemkjjlpggmolaa", sum := "2fe43ce4380419b45069ebfda657c48ffb10a1b07405ebef957e6d651ef36fc1", func := "batchline/batchlinelaw16.FlowTurns", spec := "flowTurns", unfollowed := true, recurses := true, apart := false, narrowed := true }
def FlowTurnsUptoSaid : Prop := flowTurnsUptoRow.holds Try.pinned (OpenSpec.upto flowTurnsSpec)

/-- 'batchlinelaw16.FlowAnswers', WHERE WHAT IT READS IS OF BULK AT MOST 1048576: true; the input reads as it did. -/
def flowAnswersUptoRow : OpenClaim := { program := "ytemkjjlpggmolaa", sum := "2fe43ce4380419b45069ebfda657c48ffb10a1b07405ebef957e6d651ef36fc1", func := "batchline/batchlinelaw16.FlowAnswers", spec := "flowAnswers", unfollowed := true, recurses := true, apart := false, narrowed := true }
def FlowAnswersUptoSaid : Prop := flowAnswersUptoRow.holds Try.pinned (OpenSpec.upto flowAnswersSpec)

/-- 'batchlinelaw42.TroubleMade', WHERE WHAT IT READS IS OF BULK AT MOST 1048576: true; the input reads as it did. -/
def troubleMadeUptoRow : OpenClaim := { program := "ytemkjjlpggmolaa", sum := "2fe43ce4380419b45069ebfda657c48ffb10a1b07405ebef957e6d651ef36fc1", func := "batchline/batchlinelaw42.TroubleMade", spec := "troubleMade", unfollowed := true, recurses := true, apart := false, narrowed := true }
def TroubleMadeUptoSaid : Prop := troubleMadeUptoRow.holds Try.pinned (OpenSpec.upto troubleMadeSpec)

/-- 'batchlinelaw24.LineupNeeds', WHERE WHAT IT READS IS OF BULK AT MOST 1048576: true; the input reads as it did. -/
def lineupNeedsUptoRow : OpenClaim := { program := "ytemkjjlpggmolaa", sum := "2fe43ce4380419b45069ebfda657c48ffb10a1b07405ebef957e6d651ef36fc1", func := "batchline/batchlinelaw24.LineupNeeds", spec := "lineupNeeds", unfollowed := true, recurses := true, apart := false, narrowed := true }
def LineupNeedsUptoSaid : Prop := lineupNeedsUptoRow.holds Try.pinned (OpenSpec.upto lineupNeedsSpec)

/-- 'batchlinelaw24.LineupShut', WHERE WHAT IT READS IS OF BULK AT MOST 1048576: true; the input reads as it did. -/
def lineupShutUptoRow : OpenClaim := { program := "ytemkjjlpggmolaa", sum := "2fe43ce4380419b45069ebfda657c48ffb10a1b07405ebef957e6d651ef36fc1", func := "batchline/batchlinelaw24.LineupShut", spec := "lineupShut", unfollowed := true, recurses := true, apart := false, narrowed := true }
def LineupShutUptoSaid : Prop := lineupShutUptoRow.holds Try.pinned (OpenSpec.upto lineupShutSpec)

/-- 'batchlinelaw24.LineupMade', WHERE WHAT IT READS IS OF BULK AT MOST 1048576: true; the input reads as it did. -/
def lineupMadeUptoRow : OpenClaim := { program := "ytemkjjlpggmolaa", sum := "2fe43ce4380419b45069ebfda657c48ffb10a1b07405ebef957e6d651ef36fc1", func := "batchline/batchlinelaw24.LineupMade", spec := "lineupMade", unfollowed := true, recurses := true, apart := false, narrowed := true }
def LineupMadeUptoSaid : Prop := lineupMadeUptoRow.holds Try.pinned (OpenSpec.upto lineupMadeSpec)

/-- 'batchlinelaw13.RouteBack', WHERE WHAT IT READS IS OF BULK AT MOST 1048576: true; the input reads as it did. -/
def routeBackUptoRow : OpenClaim := { program := "ytemkjjlpggmolaa", sum := "2fe43ce4380419b45069ebfda657c48ffb10a1b07405ebef957e6d651ef36fc1", func := "batchline/batchlinelaw13.RouteBack", spec := "routeBack", unfollowed := true, recurses := true, apart := false, narrowed := true }
def RouteBackUptoSaid : Prop := routeBackUptoRow.holds Try.pinned (OpenSpec.upto routeBackSpec)

/-- 'batchlinelaw13.RouteCloses', WHERE WHAT IT READS IS OF BULK AT MOST 1048576: true; the input reads as it did. -/
def routeClosesUptoRow : OpenClaim := { program := "ytemkjjlpggmolaa", sum := "2fe43ce4380419b45069ebfda657c48ffb10a1b07405ebef957e6d651ef36fc1", func := "batchline/batchlinelaw13.RouteCloses", spec := "routeCloses", unfollowed := true, recurses := true, apart := false, narrowed := true }
def RouteClosesUptoSaid : Prop := routeClosesUptoRow.holds Try.pinned (OpenSpec.upto routeClosesSpec)

/-- 'batchlinelaw13.RouteWays', WHERE WHAT IT READS IS OF BULK AT MOST 1048576: true; the input reads as it did. -/
def routeWaysUptoRow : OpenClaim := { program := "ytemkjjlpggmolaa", sum := "2fe43ce4380419b45069ebfda657c48ffb10a1b07405ebef957e6d651ef36fc1", func := "batchline/batchlinelaw13.RouteWays", spec := "routeWays", unfollowed := true, recurses := true, apart := false, narrowed := true }
def RouteWaysUptoSaid : Prop := routeWaysUptoRow.holds Try.pinned (OpenSpec.upto routeWaysSpec)

/-- 'batchlinelaw13.RouteParts', WHERE WHAT IT READS IS OF BULK AT MOST 1048576: true; the input reads as it did. -/
def routePartsUptoRow : OpenClaim := { program := "ytemkjjlpggmolaa", sum := "2fe43ce4380419b45069ebfda657c48ffb10a1b07405ebef957e6d651ef36fc1", func := "batchline/batchlinelaw13.RouteParts", spec := "routeParts", unfollowed := true, recurses := true, apart := false, narrowed := true }
def RoutePartsUptoSaid : Prop := routePartsUptoRow.holds Try.pinned (OpenSpec.upto routePartsSpec)

/-- 'batchlinelaw13.RouteAnswers', WHERE WHAT IT READS IS OF BULK AT MOST 1048576: true; the input reads as it did. -/
def routeAnswersUptoRow : OpenClaim := { program := "ytemkjjlpggmolaa", sum := "2fe43ce4380419b45069ebfda657c48ffb10a1b07405ebef957e6d651ef36fc1", func := "batchline/batchlinelaw13.RouteAnswers", spec := "routeAnswers", unfollowed := true, recurses := true, apart := false, narrowed := true }
def RouteAnswersUptoSaid : Prop := routeAnswersUptoRow.holds Try.pinned (OpenSpec.upto routeAnswersSpec)

end Rows
end Go.Proofs.Ytemkjjlpggmolaa
