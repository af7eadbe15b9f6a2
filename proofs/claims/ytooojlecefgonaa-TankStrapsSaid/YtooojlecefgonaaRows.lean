/-
  No cell of these rows narrows 'for every input' (looked for: loops, veiled, ifaces, maps, wideKeys, modest, calm, conditions, laid).
  DERIVED. THE GIVEN ROWS OF THIS SEAT. 6 by the template 'for every input the law returns true; each argument reads behind the call as it read before'; 0 by the template 'total and deterministic' (their statements: YtooojlecefgonaaTotals.lean).
  GIVEN WITH THE SEED: the statements are not yours to turn. If you find one false, say at which input.
  Laid BY PROGRAM, IN A SANDBOX (cutbox-rows.mjs): the forced cells as the released guide's own fill.sh prints them over the translation 5ebb8a907302bae0… (all of the seat's roots in one cut). By AI agents, Wed Nov 11 2026. No macro, syntax, notation, axiom, sorry.
-/
import Derived.Test.YtooojlecefgonaaChecked
import GoSem.Claim
import GoSem.ClaimJoined
import GoSem.ClaimMapViews
import Derived.JoinedTies
import Derived.KernelRfl
namespace Go.Proofs.Ytooojlecefgonaa
/- THE CELL 'sum', in the pinned program and in every row, IS THE sha256 OF THE DUMP (.gsa) THAT YtooojlecefgonaaProg.lean LOADS. Nothing in Lean hashes anything: it is a label: what it is worth is what the hold of that sum in a sandbox is worth. -/
noncomputable def Try.pinned : Pinned := { name := "ytooojlecefgonaa", sum := "5ebb8a907302bae01f95e7b1dba51e64754feeeeea6afad24cf3b0cfd38873cc", checked := Try.checked }
namespace Rows
def none {H : Type} : Left H := { results := [], args := [] }

/-- 'batchlinelaw06.TankLevels': WHATEVER THE INPUT: true; the input reads as it did. -/
def tankLevelsSpec : ChangeSpec := { name := "tankLevels", fn := fun _ => fun
  | [d1, d2] => { results := [.lit (.bool true)], args := [d1, d2] }
  | _ => none }
def tankLevelsRow : OpenClaim := { program := "ytooojlecefgonaa", sum := "5ebb8a907302bae01f95e7b1dba51e64754feeeeea6afad24cf3b0cfd38873cc", func := "batchline/batchlinelaw06.TankLevels", spec := "tankLevels", unfollowed := true, recurses := true, apart := false }
def TankLevelsSaid : Prop := tankLevelsRow.holds Try.pinned (OpenSpec.ofChange tankLevelsSpec)

/-- ITS FALSE NEIGHBOUR: 'it returns false'. Refute it at one input. -/
def tankLevelsWrong : ChangeSpec := { name := "tankLevels", fn := fun _ => fun
  | [d1, d2] => { results := [.lit (.bool false)], args := [d1, d2] }
  | _ => none }
def TankLevelsWrongFalsely : Prop := tankLevelsRow.holds Try.pinned (OpenSpec.ofChange tankLevelsWrong)

/-- 'batchlinelaw06.TankRises': WHATEVER THE INPUT: true; the input reads as it did. -/
def tankRisesSpec : ChangeSpec := { name := "tankRises", fn := fun _ => fun
  | [d1, d2, d3] => { results := [.lit (.bool true)], args := [d1, d2, d3] }
  | _ => none }
def tankRisesRow : OpenClaim := { program := "ytooojlecefgonaa", sum := "5ebb8a907302bae01f95e7b1dba51e64754feeeeea6afad24cf3b0cfd38873cc", func := "batchline/batchlinelaw06.TankRises", spec := "tankRises", unfollowed := true, recurses := true, apart := false }
def TankRisesSaid : Prop := tankRisesRow.holds Try.pinned (OpenSpec.ofChange tankRisesSpec)

/-- ITS FALSE NEIGHBOUR: 'it returns false'. Refute it at one input. -/
def tankRisesWrong : ChangeSpec := { name := "tankRises", fn := fun _ => fun
  | [d1, d2, d3] => { results := [.lit (.bool false)], args := [d1, d2, d3] }
  | _ => none }
def TankRisesWrongFalsely : Prop := tankRisesRow.holds Try.pinned (OpenSpec.ofChange tankRisesWrong)

/-- 'batchlinelaw06.TankStraps': WHATEVER THE INPUT: true; the input reads as it did. -/
def tankStrapsSpec : ChangeSpec := { name := "tankStraps", fn := fun _ => fun
  | [d1, d2] => { results := [.lit (.bool true)], args := [d1, d2] }
  | _ => none }
def tankStrapsRow : OpenClaim := { program := "ytooojlecefgonaa", sum := "5ebb8a907302bae01f95e7b1dba51e64754feeeeea6afad24cf3b0cfd38873cc", func := "batchline/batchlinelaw06.TankStraps", spec := "tankStraps", unfollowed := true, recurses := true, apart := false }
def TankStrapsSaid : Prop := tankStrapsRow.holds Try.pinned (OpenSpec.ofChange tankStrapsSpec)

/-- ITS FALSE NEIGHBOUR: 'it returns false'. Refute it at one input. -/
def tankStrapsWrong : ChangeSpec := { name := "tankStraps", fn := fun _ => fun
  | [d1, d2] => { results := [.lit (.bool false)], args := [d1, d2] }
  | _ => none }
def TankStrapsWrongFalsely : Prop := tankStrapsRow.holds Try.pinned (OpenSpec.ofChange tankStrapsWrong)

/-- 'batchlinelaw06.TankMoves': WHATEVER THE INPUT: true; the input reads as it did. -/
def tankMovesSpec : ChangeSpec := { name := "tankMoves", fn := fun _ => fun
  | [d1, d2, d3] => { results := [.lit (.bool true)], args := [d1, d2, d3] }
  | _ => none }
def tankMovesRow : OpenClaim := { program := "ytooojlecefgonaa", sum := "5ebb8a907302bae01f95e7b1dba51e64754feeeeea6afad24cf3b0cfd38873cc", func := "batchline/batchlinelaw06.TankMoves", spec := "tankMoves", unfollowed := true, recurses := true, apart := false }
def TankMovesSaid : Prop := tankMovesRow.holds Try.pinned (OpenSpec.ofChange tankMovesSpec)

/-- ITS FALSE NEIGHBOUR: 'it returns false'. Refute it at one input. -/
def tankMovesWrong : ChangeSpec := { name := "tankMoves", fn := fun _ => fun
  | [d1, d2, d3] => { results := [.lit (.bool false)], args := [d1, d2, d3] }
  | _ => none }
def TankMovesWrongFalsely : Prop := tankMovesRow.holds Try.pinned (OpenSpec.ofChange tankMovesWrong)

/-- 'batchlinelaw06.TankAnswers': WHATEVER THE INPUT: true; the input reads as it did. -/
def tankAnswersSpec : ChangeSpec := { name := "tankAnswers", fn := fun _ => fun
  | [d1, d2, d3, d4] => { results := [.lit (.bool true)], args := [d1, d2, d3, d4] }
  | _ => none }
def tankAnswersRow : OpenClaim := { program := "ytooojlecefgonaa", sum := "5ebb8a907302bae01f95e7b1dba51e64754feeeeea6afad24cf3b0cfd38873cc", func := "batchline/batchlinelaw06.TankAnswers", spec := "tankAnswers", unfollowed := true, recurses := true, apart := false }
def TankAnswersSaid : Prop := tankAnswersRow.holds Try.pinned (OpenSpec.ofChange tankAnswersSpec)

/-- ITS FALSE NEIGHBOUR: 'it returns false'. Refute it at one input. -/
def tankAnswersWrong : ChangeSpec := { name := "tankAnswers", fn := fun _ => fun
  | [d1, d2, d3, d4] => { results := [.lit (.bool false)], args := [d1, d2, d3, d4] }
  | _ => none }
def TankAnswersWrongFalsely : Prop := tankAnswersRow.holds Try.pinned (OpenSpec.ofChange tankAnswersWrong)

/-- 'batchlinelaw06.TankRoom': WHATEVER THE INPUT: true; the input reads as it did. -/
def tankRoomSpec : ChangeSpec := { name := "tankRoom", fn := fun _ => fun
  | [d1, d2, d3] => { results := [.lit (.bool true)], args := [d1, d2, d3] }
  | _ => none }
def tankRoomRow : OpenClaim := { program := "ytooojlecefgonaa", sum := "5ebb8a907302bae01f95e7b1dba51e64754feeeeea6afad24cf3b0cfd38873cc", func := "batchline/batchlinelaw06.TankRoom", spec := "tankRoom", unfollowed := true, recurses := true, apart := false }
def TankRoomSaid : Prop := tankRoomRow.holds Try.pinned (OpenSpec.ofChange tankRoomSpec)

/-- ITS FALSE NEIGHBOUR: 'it returns false'. Refute it at one input. -/
def tankRoomWrong : ChangeSpec := { name := "tankRoom", fn := fun _ => fun
  | [d1, d2, d3] => { results := [.lit (.bool false)], args := [d1, d2, d3] }
  | _ => none }
def TankRoomWrongFalsely : Prop := tankRoomRow.holds Try.pinned (OpenSpec.ofChange tankRoomWrong)

/- THE SECOND FORM. 'bulk': how many values and letters a reading holds, each counted each time it is reached (what is shared counts as often as it is met; a slice's spare places count too). A statement '..UptoSaid' is the law's where the arguments, and the package variables that the reading takes, are together of bulk at most 1048576: NARROWER than '..Said'. Prove '..Said' where nothing that the law and all that it calls make is longer than what came in: it says more and counts as full. Else prove '..UptoSaid'. A law counts once. -/
mutual
def uptoBulk {H : Type} : DataW H → Nat
  | .lit (.string bytes) => bytes.length + 1
  | .lit _ => 1
  | .nil => 1
  | .ptr d => uptoBulk d + 1
  | .slice elems spare => uptoBulkAll elems + uptoBulkAll spare + 1
  | .agg parts => uptoBulkAll parts + 1
  | .iface _ d => uptoBulk d + 1
  | .map entries => uptoBulkEntries entries + 1
  | .held _ => 1
def uptoBulkAll {H : Type} : List (DataW H) → Nat
  | [] => 0
  | d :: r => uptoBulk d + uptoBulkAll r
def uptoBulkEntries {H : Type} : List (Lit × DataW H) → Nat
  | [] => 0
  | x :: r => uptoBulkEntry x + uptoBulkEntries r
def uptoBulkEntry {H : Type} : Lit × DataW H → Nat
  | (.string bytes, d) => bytes.length + uptoBulk d + 1
  | (_, d) => uptoBulk d + 1
 end
def uptoSmall : (H : Type) → List (DataW H) → Bool := fun _ ds => decide (uptoBulkAll ds ≤ 1048576)
def OpenSpec.upto (s : _root_.Go.ChangeSpec) : _root_.Go.OpenSpec := { _root_.Go.OpenSpec.ofChange s with cond := some uptoSmall }

/-- 'batchlinelaw06.TankLevels', WHERE WHAT IT READS IS OF BULK AT MOST 1048576: true; the input reads as it did. -/
def tankLevelsUptoRow : OpenClaim := { program := "ytooojlecefgonaa", sum := "5ebb8a907302bae01f95e7b1dba51e64754feeeeea6afad24cf3b0cfd38873cc", func := "batchline/batchlinelaw06.TankLevels", spec := "tankLevels", unfollowed := true, recurses := true, apart := false, narrowed := true }
def TankLevelsUptoSaid : Prop := tankLevelsUptoRow.holds Try.pinned (OpenSpec.upto tankLevelsSpec)

/-- 'batchlinelaw06.TankRises', WHERE WHAT IT READS IS OF BULK AT MOST 1048576: true; the input reads as it did. -/
def tankRisesUptoRow : OpenClaim := { program := "ytooojlecefgonaa", sum := "5ebb8a907302bae01f95e7b1dba51e64754feeeeea6afad24cf3b0cfd38873cc", func := "batchline/batchlinelaw06.TankRises", spec := "tankRises", unfollowed := true, recurses := true, apart := false, narrowed := true }
def TankRisesUptoSaid : Prop := tankRisesUptoRow.holds Try.pinned (OpenSpec.upto tankRisesSpec)

/-- 'batchlinelaw06.TankStraps', WHERE WHAT IT READS IS OF BULK AT MOST 1048576: true; the input reads as it did. -/
def tankStrapsUptoRow : OpenClaim := { program := "ytooojlecefgonaa", sum := "5ebb8a907302bae01f95e7b1dba51e64754feeeeea6afad24cf3b0cfd38873cc", func := "batchline/batchlinelaw06.TankStraps", spec := "tankStraps", unfollowed := true, recurses := true, apart := false, narrowed := true }
def TankStrapsUptoSaid : Prop := tankStrapsUptoRow.holds Try.pinned (OpenSpec.upto tankStrapsSpec)

/-- 'batchlinelaw06.TankMoves', WHERE WHAT IT READS IS OF BULK AT MOST 1048576: true; the input reads as it did. -/
def tankMovesUptoRow : OpenClaim := { program := "ytooojlecefgonaa", sum := "5ebb8a907302bae01f95e7b1dba51e64754feeeeea6afad24cf3b0cfd38873cc", func := "batchline/batchlinelaw06.TankMoves", spec := "tankMoves", unfollowed := true, recurses := true, apart := false, narrowed := true }
def TankMovesUptoSaid : Prop := tankMovesUptoRow.holds Try.pinned (OpenSpec.upto tankMovesSpec)

/-- 'batchlinelaw06.TankAnswers', WHERE WHAT IT READS IS OF BULK AT MOST 1048576: true; the input reads as it did. -/
def tankAnswersUptoRow : OpenClaim := { program := "ytooojlecefgonaa", sum := "5ebb8a907302bae01f95e7b1dba51e64754feeeeea6afad24cf3b0cfd38873cc", func := "batchline/batchlinelaw06.TankAnswers", spec := "tankAnswers", unfollowed := true, recurses := true, apart := false, narrowed := true }
def TankAnswersUptoSaid : Prop := tankAnswersUptoRow.holds Try.pinned (OpenSpec.upto tankAnswersSpec)

/-- 'batchlinelaw06.TankRoom', WHERE WHAT IT READS IS OF BULK AT MOST 1048576: true; the input reads as it did. -/
def tankRoomUptoRow : OpenClaim := { program := "ytooojlecefgonaa", sum := "5ebb8a907302bae01f95e7b1dba51e64754feeeeea6afad24cf3b0cfd38873cc", func := "batchline/batchlinelaw06.TankRoom", spec := "tankRoom", unfollowed := true, recurses := true, apart := false, narrowed := true }
def TankRoomUptoSaid : Prop := tankRoomUptoRow.holds Try.pinned (OpenSpec.upto tankRoomSpec)

end Rows
end Go.Proofs.Ytooojlecefgonaa
