/-
  No cell of these rows narrows 'for every input' (looked for: loops, veiled, ifaces, maps, wideKeys, modest, calm, conditions, laid).
  DERIVED. THE GIVEN ROWS OF THIS SEAT. 9 by the template 'for every input the law returns true; each argument reads behind the call as it read before'; 0 by the template 'total and deterministic' (their statements: YtiaenojpbiahgaaTotals.lean).
  GIVEN WITH THE SEED: the statements are not yours to turn. If you find one false, say at which input.
  Laid BY PROGRAM, IN A SANDBOX (cutbox-rows.mjs): the forced cells as the released guide's own fill.sh prints them over the translation d038ec0fe28aa1b3… (all of the seat's roots in one cut). By AI agents, Wed Nov 11 2026. No macro, syntax, notation, axiom, sorry.
-/
import Derived.Test.YtiaenojpbiahgaaChecked
import GoSem.Claim
import GoSem.ClaimJoined
import GoSem.ClaimMapViews
import Derived.JoinedTies
import Derived.KernelRfl
namespace Go.Proofs.Ytiaenojpbiahgaa
/- THE CELL 'sum', in the pinned program and in every row, IS THE sha256 OF THE DUMP (.gsa) THAT YtiaenojpbiahgaaProg.lean LOADS. Nothing in Lean hashes anything: it is a label: what it is worth is what the hold of that sum in a sandbox is worth. -/
noncomputable def Try.pinned : Pinned := { name := "ytiaenojpbiahgaa", sum := "d038ec0fe28aa1b3d697f0a4961f10d189254b9dc820ac948194bf10de322acb", checked := Try.checked }
namespace Rows
def none {H : Type} : Left H := { results := [], args := [] }

/-- 'batchlinelaw42.TroubleBetween': WHATEVER THE INPUT: true; the input reads as it did. -/
def troubleBetweenSpec : ChangeSpec := { name := "troubleBetween", fn := fun _ => fun
  | [d1, d2] => { results := [.lit (.bool true)], args := [d1, d2] }
  | _ => none }
def troubleBetweenRow : OpenClaim := { program := "ytiaenojpbiahgaa", sum := "d038ec0fe28aa1b3d697f0a4961f10d189254b9dc820ac948194bf10de322acb", func := "batchline/batchlinelaw42.TroubleBetween", spec := "troubleBetween", unfollowed := true, recurses := true, apart := false }
def TroubleBetweenSaid : Prop := troubleBetweenRow.holds Try.pinned (OpenSpec.ofChange troubleBetweenSpec)

/-- ITS FALSE NEIGHBOUR: 'it returns false'. Refute it at one input. -/
def troubleBetweenWrong : ChangeSpec := { name := "troubleBetween", fn := fun _ => fun
  | [d1, d2] => { results := [.lit (.bool false)], args := [d1, d2] }
  | _ => none }
def TroubleBetweenWrongFalsely : Prop := troubleBetweenRow.holds Try.pinned (OpenSpec.ofChange troubleBetweenWrong)

/-- 'batchlinelaw42.TroubleMade': WHATEVER THE INPUT: true; the input reads as it did. -/
def troubleMadeSpec : ChangeSpec := { name := "troubleMade", fn := fun _ => fun
  | [d1, d2, d3, d4, d5] => { results := [.lit (.bool true)], args := [d1, d2, d3, d4, d5] }
  | _ => none }
def troubleMadeRow : OpenClaim := { program := "ytiaenojpbiahgaa", sum := "d038ec0fe28aa1b3d697f0a4961f10d189254b9dc820ac948194bf10de322acb", func := "batchline/batchlinelaw42.TroubleMade", spec := "troubleMade", unfollowed := true, recurses := true, apart := false }
def TroubleMadeSaid : Prop := troubleMadeRow.holds Try.pinned (OpenSpec.ofChange troubleMadeSpec)

/-- ITS FALSE NEIGHBOUR: 'it returns false'. Refute it at one input. -/
def troubleMadeWrong : ChangeSpec := { name := "troubleMade", fn := fun _ => fun
  | [d1, d2, d3, d4, d5] => { results := [.lit (.bool false)], args := [d1, d2, d3, d4, d5] }
  | _ => none }
def TroubleMadeWrongFalsely : Prop := troubleMadeRow.holds Try.pinned (OpenSpec.ofChange troubleMadeWrong)

/-- 'batchlinelaw42.TroubleParts': WHATEVER THE INPUT: true; the input reads as it did. -/
def troublePartsSpec : ChangeSpec := { name := "troubleParts", fn := fun _ => fun
  | [d1, d2] => { results := [.lit (.bool true)], args := [d1, d2] }
  | _ => none }
def troublePartsRow : OpenClaim := { program := "ytiaenojpbiahgaa", sum := "d038ec0fe28aa1b3d697f0a4961f10d189254b9dc820ac948194bf10de322acb", func := "batchline/batchlinelaw42.TroubleParts", spec := "troubleParts", unfollowed := true, recurses := true, apart := false }
def TroublePartsSaid : Prop := troublePartsRow.holds Try.pinned (OpenSpec.ofChange troublePartsSpec)

/-- ITS FALSE NEIGHBOUR: 'it returns false'. Refute it at one input. -/
def troublePartsWrong : ChangeSpec := { name := "troubleParts", fn := fun _ => fun
  | [d1, d2] => { results := [.lit (.bool false)], args := [d1, d2] }
  | _ => none }
def TroublePartsWrongFalsely : Prop := troublePartsRow.holds Try.pinned (OpenSpec.ofChange troublePartsWrong)

/-- 'batchlinelaw16.FlowOrders': WHATEVER THE INPUT: true; the input reads as it did. -/
def flowOrdersSpec : ChangeSpec := { name := "flowOrders", fn := fun _ => fun
  | [d] => { results := [.lit (.bool true)], args := [d] }
  | _ => none }
def flowOrdersRow : OpenClaim := { program := "ytiaenojpbiahgaa", sum := "d038ec0fe28aa1b3d697f0a4961f10d189254b9dc820ac948194bf10de322acb", func := "batchline/batchlinelaw16.FlowOrders", spec := "flowOrders", unfollowed := true, recurses := true, apart := false }
def FlowOrdersSaid : Prop := flowOrdersRow.holds Try.pinned (OpenSpec.ofChange flowOrdersSpec)

/-- ITS FALSE NEIGHBOUR: 'it returns false'. Refute it at one input. -/
def flowOrdersWrong : ChangeSpec := { name := "flowOrders", fn := fun _ => fun
  | [d] => { results := [.lit (.bool false)], args := [d] }
  | _ => none }
def FlowOrdersWrongFalsely : Prop := flowOrdersRow.holds Try.pinned (OpenSpec.ofChange flowOrdersWrong)

/-- 'batchlinelaw16.FlowRest': WHATEVER THE INPUT: true; the input reads as it did. -/
def flowRestSpec : ChangeSpec := { name := "flowRest", fn := fun _ => fun
  | [d1, d2] => { results := [.lit (.bool true)], args := [d1, d2] }
  | _ => none }
def flowRestRow : OpenClaim := { program := "ytiaenojpbiahgaa", sum := "d038ec0fe28aa1b3d697f0a4961f10d189254b9dc820ac948194bf10de322acb", func := "batchline/batchlinelaw16.FlowRest", spec := "flowRest", unfollowed := true, recurses := true, apart := false }
def FlowRestSaid : Prop := flowRestRow.holds Try.pinned (OpenSpec.ofChange flowRestSpec)

/-- ITS FALSE NEIGHBOUR: 'it returns false'. Refute it at one input. -/
def flowRestWrong : ChangeSpec := { name := "flowRest", fn := fun _ => fun
  | [d1, d2] => { results := [.lit (.bool false)], args := [d1, d2] }
  | _ => none }
def FlowRestWrongFalsely : Prop := flowRestRow.holds Try.pinned (OpenSpec.ofChange flowRestWrong)

/-- 'batchlinelaw16.FlowParts': WHATEVER THE INPUT: true; the input reads as it did. -/
def flowPartsSpec : ChangeSpec := { name := "flowParts", fn := fun _ => fun
  | [d1, d2] => { results := [.lit (.bool true)], args := [d1, d2] }
  | _ => none }
def flowPartsRow : OpenClaim := { program := "ytiaenojpbiahgaa", sum := "d038ec0fe28aa1b3d697f0a4961f10d189254b9dc820ac948194bf10de322acb", func := "batchline/batchlinelaw16.FlowParts", spec := "flowParts", unfollowed := true, recurses := true, apart := false }
def FlowPartsSaid : Prop := flowPartsRow.holds Try.pinned (OpenSpec.ofChange flowPartsSpec)

/-- ITS FALSE NEIGHBOUR: 'it returns false'. Refute it at one input. -/
def flowPartsWrong : ChangeSpec := { name := "flowParts", fn := fun _ => fun
  | [d1, d2] => { results := [.lit (.bool false)], args := [d1, d2] }
  | _ => none }
def FlowPartsWrongFalsely : Prop := flowPartsRow.holds Try.pinned (OpenSpec.ofChange flowPartsWrong)

/-- 'batchlinelaw16.FlowTurns': WHATEVER THE INPUT: true; the input reads as it did. -/
def flowTurnsSpec : ChangeSpec := { name := "flowTurns", fn := fun _ => fun
  | [d] => { results := [.lit (.bool true)], args := [d] }
  | _ => none }
def flowTurnsRow : OpenClaim := { program := "ytiaenojpbiahgaa", sum := "d038ec0fe28aa1b3d697f0a4961f10d189254b9dc820ac948194bf10de322acb", func := "batchline/batchlinelaw16.FlowTurns", spec := "flowTurns", unfollowed := true, recurses := true, apart := false }
def FlowTurnsSaid : Prop := flowTurnsRow.holds Try.pinned (OpenSpec.ofChange flowTurnsSpec)

/-- ITS FALSE NEIGHBOUR: 'it returns false'. Refute it at one input. -/
def flowTurnsWrong : ChangeSpec := { name := "flowTurns", fn := fun _ => fun
  | [d] => { results := [.lit (.bool false)], args := [d] }
  | _ => none }
def FlowTurnsWrongFalsely : Prop := flowTurnsRow.holds Try.pinned (OpenSpec.ofChange flowTurnsWrong)

/-- 'batchlinelaw16.FlowAnswers': WHATEVER THE INPUT: true; the input reads as it did. -/
def flowAnswersSpec : ChangeSpec := { name := "flowAnswers", fn := fun _ => fun
  | [d1, d2, d3, d4] => { results := [.lit (.bool true)], args := [d1, d2, d3, d4] }
  | _ => none }
def flowAnswersRow : OpenClaim := { program := "ytiaenojpbiahgaa", sum := "d038ec0fe28aa1b3d697f0a4961f10d189254b9dc820ac948194bf10de322acb", func := "batchline/batchlinelaw16.FlowAnswers", spec := "flowAnswers", unfollowed := true, recurses := true, apart := false }
def FlowAnswersSaid : Prop := flowAnswersRow.holds Try.pinned (OpenSpec.ofChange flowAnswersSpec)

/-- ITS FALSE NEIGHBOUR: 'it returns false'. Refute it at one input. -/
def flowAnswersWrong : ChangeSpec := { name := "flowAnswers", fn := fun _ => fun
  | [d1, d2, d3, d4] => { results := [.lit (.bool false)], args := [d1, d2, d3, d4] }
  | _ => none }
def FlowAnswersWrongFalsely : Prop := flowAnswersRow.holds Try.pinned (OpenSpec.ofChange flowAnswersWrong)

/-- 'batchlinelaw16.FlowBalances': WHATEVER THE INPUT: true; the input reads as it did. -/
def flowBalancesSpec : ChangeSpec := { name := "flowBalances", fn := fun _ => fun
  | [d] => { results := [.lit (.bool true)], args := [d] }
  | _ => none }
def flowBalancesRow : OpenClaim := { program := "ytiaenojpbiahgaa", sum := "d038ec0fe28aa1b3d697f0a4961f10d189254b9dc820ac948194bf10de322acb", func := "batchline/batchlinelaw16.FlowBalances", spec := "flowBalances", unfollowed := true, recurses := true, apart := false }
def FlowBalancesSaid : Prop := flowBalancesRow.holds Try.pinned (OpenSpec.ofChange flowBalancesSpec)

/-- ITS FALSE NEIGHBOUR: 'it returns false'. Refute it at one input. -/
def flowBalancesWrong : ChangeSpec := { name := "flowBalances", fn := fun _ => fun
  | [d] => { results := [.lit (.bool false)], args := [d] }
  | _ => none }
def FlowBalancesWrongFalsely : Prop := flowBalancesRow.holds Try.pinned (OpenSpec.ofChange flowBalancesWrong)

/- THE SECOND FORM. 'bulk': how many values and letters a reading holds, each counted each time it is reached (what is shared counts as often as it is met; a slice's spare places count too). A statement '..UptoSaid' is the law's where the arguments, and the package variables that the reading takes, are together of bulk at most 1048576: NARROWER than '..Said'. Prove '..Said' where nothing that the law and all that it calls make is longer than what came in: it says more and counts as full. Else prove '..UptoSaid'. A law counts once. -/
mutual
def uptoBulk {H : Type} : DataW H → Nat
  | .lit (.string bytes) => bytes.length + 1
  | .lit _ => 1
  | .nil => 1
  | .ptr d => uptoBulk d + 1
  | .slice elems spare => uptoBulkAll elems + uptoBulkAll spare + 1
  | .agg parts => uptoBulkAll parts + 1
  | .iface _ d => uptoBulk d + 1
  | .map entries => uptoBulkEntries entries + 1
  | .held _ => 1
def uptoBulkAll {H : Type} : List (DataW H) → Nat
  | [] => 0
  | d :: r => uptoBulk d + uptoBulkAll r
def uptoBulkEntries {H : Type} : List (Lit × DataW H) → Nat
  | [] => 0
  | x :: r => uptoBulkEntry x + uptoBulkEntries r
def uptoBulkEntry {H : Type} : Lit × DataW H → Nat
  | (.string bytes, d) => bytes.length + uptoBulk d + 1
  | (_, d) => uptoBulk d + 1
 end
def uptoSmall : (H : Type) → List (DataW H) → Bool := fun _ ds => decide (uptoBulkAll ds ≤ 1048576)
def OpenSpec.upto (s : _root_.Go.ChangeSpec) : _root_.Go.OpenSpec := { _root_.Go.OpenSpec.ofChange s with cond := some uptoSmall }

/-- 'batchlinelaw42.TroubleBetween', WHERE WHAT IT READS IS OF BULK AT MOST 1048576: true; the input reads as it did. -/
def troubleBetweenUptoRow : OpenClaim := { program := "ytiaenojpbiahgaa", sum := "d038ec0fe28aa1b3d697f0a4961f10d189254b9dc820ac948194bf10de322acb", func := "batchline/batchlinelaw42.TroubleBetween", spec := "troubleBetween", unfollowed := true, recurses := true, apart := false, narrowed := true }
def TroubleBetweenUptoSaid : Prop := troubleBetweenUptoRow.holds Try.pinned (OpenSpec.upto troubleBetweenSpec)

/-- 'batchlinelaw42.TroubleMade', WHERE WHAT IT READS IS OF BULK AT MOST 1048576: true; the input reads as it did. -/
def troubleMadeUptoRow : OpenClaim := { program := "ytiaenojpbiahgaa", sum := "d038ec0fe28aa1b3d697f0a4961f10d189254b9dc820ac948194bf10de322acb", func := "batchline/batchlinelaw42.TroubleMade", spec := "troubleMade", unfollowed := true, recurses := true, apart := false, narrowed := true }
def TroubleMadeUptoSaid : Prop := troubleMadeUptoRow.holds Try.pinned (OpenSpec.upto troubleMadeSpec)

/-- 'batchlinelaw42.TroubleParts', WHERE WHAT IT READS IS OF BULK AT MOST 1048576: true; the input reads as it did. -/
def troublePartsUptoRow : OpenClaim := { program := "ytiaenojpbiahgaa", sum := "d038ec0fe28aa1b3d697f0a4961f10d189254b9dc820ac948194bf10de322acb", func := "batchline/batchlinelaw42.TroubleParts", spec := "troubleParts", unfollowed := true, recurses := true, apart := false, narrowed := true }
def TroublePartsUptoSaid : Prop := troublePartsUptoRow.holds Try.pinned (OpenSpec.upto troublePartsSpec)

/-- 'batchlinelaw16.FlowOrders', WHERE WHAT IT READS IS OF BULK AT MOST 1048576: true; the input reads as it did. -/
def flowOrdersUptoRow : OpenClaim := { program := "ytiaenojpbiahgaa", sum := "d038ec0fe28aa1b3d697f0a4961f10d189254b9dc820ac948194bf10de322acb", func := "batchline/batchlinelaw16.FlowOrders", spec := "flowOrders", unfollowed := true, recurses := true, apart := false, narrowed := true }
def FlowOrdersUptoSaid : Prop := flowOrdersUptoRow.holds Try.pinned (OpenSpec.upto flowOrdersSpec)

/-- 'batchlinelaw16.FlowRest', WHERE WHAT IT READS IS OF BULK AT MOST 1048576: true; the input reads as it did. -/
def flowRestUptoRow : OpenClaim := { program := "ytiaenojpbiahgaa", sum := "d038ec0fe28aa1b3d697f0a4961f10d189254b9dc820ac948194bf10de322acb", func := "batchline/batchlinelaw16.FlowRest", spec := "flowRest", unfollowed := true, recurses := true, apart := false, narrowed := true }
def FlowRestUptoSaid : Prop := flowRestUptoRow.holds Try.pinned (OpenSpec.upto flowRestSpec)

/-- 'batchlinelaw16.FlowParts', WHERE WHAT IT READS IS OF BULK AT MOST 1048576: true; the input reads as it did. -/
def flowPartsUptoRow : OpenClaim := { program := "ytiaenojpbiahgaa", sum := "d038ec0fe28aa1b3d697f0a4961f10d189254b9dc820ac948194bf10de322acb", func := "batchline/batchlinelaw16.FlowParts", spec := "flowParts", unfollowed := true, recurses := true, apart := false, narrowed := true }
def FlowPartsUptoSaid : Prop := flowPartsUptoRow.holds Try.pinned (OpenSpec.upto flowPartsSpec)

/-- 'batchlinelaw16.FlowTurns', WHERE WHAT IT READS IS OF BULK AT MOST 1048576: true; the input reads as it did. -/
def flowTurnsUptoRow : OpenClaim := { program := "ytiaenojpbiahgaa", sum := "d038ec0fe28aa1b3d697f0a4961f10d189254b9dc820ac948194bf10de322acb", func := "batchline/batchlinelaw16.FlowTurns", spec := "flowTurns", unfollowed := true, recurses := true, apart := false, narrowed := true }
def FlowTurnsUptoSaid : Prop := flowTurnsUptoRow.holds Try.pinned (OpenSpec.upto flowTurnsSpec)

/-- 'batchlinelaw16.FlowAnswers', WHERE WHAT IT READS IS OF BULK AT MOST 1048576: true; the input reads as it did. -/
def flowAnswersUptoRow : OpenClaim := { program := "ytiaenojpbiahgaa", sum := "d038ec0fe28aa1b3d697f0a4961f10d189254b9dc820ac948194bf10de322acb", func := "batchline/batchlinelaw16.FlowAnswers", spec := "flowAnswers", unfollowed := true, recurses := true, apart := false, narrowed := true }
def FlowAnswersUptoSaid : Prop := flowAnswersUptoRow.holds Try.pinned (OpenSpec.upto flowAnswersSpec)

/-- 'batchlinelaw16.FlowBalances', WHERE WHAT IT READS IS OF BULK AT MOST 1048576: true; the input reads as it did. -/
def flowBalancesUptoRow : OpenClaim := { program := "ytiaenojpbiahgaa", sum := "d038ec0fe28aa1b3d697f0a4961f10d189254b9dc820ac948194bf10de322acb", func := "batchline/batchlinelaw16.FlowBalances", spec := "flowBalances", unfollowed := true, recurses := true, apart := false, narrowed := true }
def FlowBalancesUptoSaid : Prop := flowBalancesUptoRow.holds Try.pinned (OpenSpec.upto flowBalancesSpec)

end Rows
end Go.Proofs.Ytiaenojpbiahgaa
