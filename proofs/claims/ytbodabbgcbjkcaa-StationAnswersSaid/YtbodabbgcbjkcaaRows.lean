/-
  No cell of these rows narrows 'for every input' (looked for: loops, veiled, ifaces, maps, wideKeys, modest, calm, conditions, laid).
  DERIVED. THE GIVEN ROWS OF THIS SEAT. 11 by the template 'for every input the law returns true; each argument reads behind the call as it read before'; 0 by the template 'total and deterministic' (their statements: YtbodabbgcbjkcaaTotals.lean).
  GIVEN WITH THE SEED: the statements are not yours to turn. If you find one false, say at which input.
  Laid BY PROGRAM, IN A SANDBOX (cutbox-rows.mjs): the forced cells as the released guide's own fill.sh prints them over the translation 20735f42206380aa… (all of the seat's roots in one cut). By AI agents, Wed Nov 11 2026. No macro, syntax, notation, axiom, sorry.
-/
import Derived.Test.YtbodabbgcbjkcaaChecked
import GoSem.Claim
import GoSem.ClaimJoined
import GoSem.ClaimMapViews
import Derived.JoinedTies
import Derived.KernelRfl
namespace Go.Proofs.Ytbodabbgcbjkcaa
/- THE CELL 'sum', in the pinned program and in every row, IS THE sha256 OF THE DUMP (.gsa) THAT YtbodabbgcbjkcaaProg.lean LOADS. Nothing in Lean hashes anything: it is a label: what it is worth is what the hold of that sum in a sandbox is worth. -/
noncomputable def Try.pinned : Pinned := { name := "ytbodabbgcbjkcaa", sum := "20735f42206380aa698437ee4f58ee1f1f4f34ddacb33aa09ca8484c42578e63", checked := Try.checked }
namespace Rows
def none {H : Type} : Left H := { results := [], args := [] }

/-- 'batchlinelaw42.TroubleBetween': WHATEVER THE INPUT: true; the input reads as it did. -/
def troubleBetweenSpec : ChangeSpec := { name := "troubleBetween", fn := fun _ => fun
  | [d1, d2] => { results := [.lit (.bool true)], args := [d1, d2] }
  | _ => none }
def troubleBetweenRow : OpenClaim := { program := "ytbodabbgcbjkcaa", sum := "20735f42206380aa698437ee4f58ee1f1f4f34ddacb33aa09ca8484c42578e63", func := "batchline/batchlinelaw42.TroubleBetween", spec := "troubleBetween", unfollowed := true, recurses := true, apart := false }
def TroubleBetweenSaid : Prop := troubleBetweenRow.holds Try.pinned (OpenSpec.ofChange troubleBetweenSpec)

/-- ITS FALSE NEIGHBOUR: 'it returns false'. Refute it at one input. -/
def troubleBetweenWrong : ChangeSpec := { name := "troubleBetween", fn := fun _ => fun
  | [d1, d2] => { results := [.lit (.bool false)], args := [d1, d2] }
  | _ => none }
def TroubleBetweenWrongFalsely : Prop := troubleBetweenRow.holds Try.pinned (OpenSpec.ofChange troubleBetweenWrong)

/-- 'batchlinelaw42.TroubleAlone': WHATEVER THE INPUT: true; the input reads as it did. -/
def troubleAloneSpec : ChangeSpec := { name := "troubleAlone", fn := fun _ => fun
  | [d1, d2, d3, d4, d5, d6] => { results := [.lit (.bool true)], args := [d1, d2, d3, d4, d5, d6] }
  | _ => none }
def troubleAloneRow : OpenClaim := { program := "ytbodabbgcbjkcaa", sum := "20735f42206380aa698437ee4f58ee1f1f4f34ddacb33aa09ca8484c42578e63", func := "batchline/batchlinelaw42.TroubleAlone", spec := "troubleAlone", unfollowed := true, recurses := true, apart := false }
def TroubleAloneSaid : Prop := troubleAloneRow.holds Try.pinned (OpenSpec.ofChange troubleAloneSpec)

/-- ITS FALSE NEIGHBOUR: 'it returns false'. Refute it at one input. -/
def troubleAloneWrong : ChangeSpec := { name := "troubleAlone", fn := fun _ => fun
  | [d1, d2, d3, d4, d5, d6] => { results := [.lit (.bool false)], args := [d1, d2, d3, d4, d5, d6] }
  | _ => none }
def TroubleAloneWrongFalsely : Prop := troubleAloneRow.holds Try.pinned (OpenSpec.ofChange troubleAloneWrong)

/-- 'batchlinelaw07.MeterCounts': WHATEVER THE INPUT: true; the input reads as it did. -/
def meterCountsSpec : ChangeSpec := { name := "meterCounts", fn := fun _ => fun
  | [d1, d2] => { results := [.lit (.bool true)], args := [d1, d2] }
  | _ => none }
def meterCountsRow : OpenClaim := { program := "ytbodabbgcbjkcaa", sum := "20735f42206380aa698437ee4f58ee1f1f4f34ddacb33aa09ca8484c42578e63", func := "batchline/batchlinelaw07.MeterCounts", spec := "meterCounts", apart := false }
def MeterCountsSaid : Prop := meterCountsRow.holds Try.pinned (OpenSpec.ofChange meterCountsSpec)

/-- ITS FALSE NEIGHBOUR: 'it returns false'. Refute it at one input. -/
def meterCountsWrong : ChangeSpec := { name := "meterCounts", fn := fun _ => fun
  | [d1, d2] => { results := [.lit (.bool false)], args := [d1, d2] }
  | _ => none }
def MeterCountsWrongFalsely : Prop := meterCountsRow.holds Try.pinned (OpenSpec.ofChange meterCountsWrong)

/-- 'batchlinelaw07.MeterScales': WHATEVER THE INPUT: true; the input reads as it did. -/
def meterScalesSpec : ChangeSpec := { name := "meterScales", fn := fun _ => fun
  | [d1, d2, d3, d4] => { results := [.lit (.bool true)], args := [d1, d2, d3, d4] }
  | _ => none }
def meterScalesRow : OpenClaim := { program := "ytbodabbgcbjkcaa", sum := "20735f42206380aa698437ee4f58ee1f1f4f34ddacb33aa09ca8484c42578e63", func := "batchline/batchlinelaw07.MeterScales", spec := "meterScales", apart := false }
def MeterScalesSaid : Prop := meterScalesRow.holds Try.pinned (OpenSpec.ofChange meterScalesSpec)

/-- ITS FALSE NEIGHBOUR: 'it returns false'. Refute it at one input. -/
def meterScalesWrong : ChangeSpec := { name := "meterScales", fn := fun _ => fun
  | [d1, d2, d3, d4] => { results := [.lit (.bool false)], args := [d1, d2, d3, d4] }
  | _ => none }
def MeterScalesWrongFalsely : Prop := meterScalesRow.holds Try.pinned (OpenSpec.ofChange meterScalesWrong)

/-- 'batchlinelaw07.MeterOrder': WHATEVER THE INPUT: true; the input reads as it did. -/
def meterOrderSpec : ChangeSpec := { name := "meterOrder", fn := fun _ => fun
  | [d1, d2, d3, d4] => { results := [.lit (.bool true)], args := [d1, d2, d3, d4] }
  | _ => none }
def meterOrderRow : OpenClaim := { program := "ytbodabbgcbjkcaa", sum := "20735f42206380aa698437ee4f58ee1f1f4f34ddacb33aa09ca8484c42578e63", func := "batchline/batchlinelaw07.MeterOrder", spec := "meterOrder", apart := false }
def MeterOrderSaid : Prop := meterOrderRow.holds Try.pinned (OpenSpec.ofChange meterOrderSpec)

/-- ITS FALSE NEIGHBOUR: 'it returns false'. Refute it at one input. -/
def meterOrderWrong : ChangeSpec := { name := "meterOrder", fn := fun _ => fun
  | [d1, d2, d3, d4] => { results := [.lit (.bool false)], args := [d1, d2, d3, d4] }
  | _ => none }
def MeterOrderWrongFalsely : Prop := meterOrderRow.holds Try.pinned (OpenSpec.ofChange meterOrderWrong)

/-- 'batchlinelaw20.StationFalls': WHATEVER THE INPUT: true; the input reads as it did. -/
def stationFallsSpec : ChangeSpec := { name := "stationFalls", fn := fun _ => fun
  | [d1, d2, d3] => { results := [.lit (.bool true)], args := [d1, d2, d3] }
  | _ => none }
def stationFallsRow : OpenClaim := { program := "ytbodabbgcbjkcaa", sum := "20735f42206380aa698437ee4f58ee1f1f4f34ddacb33aa09ca8484c42578e63", func := "batchline/batchlinelaw20.StationFalls", spec := "stationFalls", unfollowed := true, recurses := true, apart := false }
def StationFallsSaid : Prop := stationFallsRow.holds Try.pinned (OpenSpec.ofChange stationFallsSpec)

/-- ITS FALSE NEIGHBOUR: 'it returns false'. Refute it at one input. -/
def stationFallsWrong : ChangeSpec := { name := "stationFalls", fn := fun _ => fun
  | [d1, d2, d3] => { results := [.lit (.bool false)], args := [d1, d2, d3] }
  | _ => none }
def StationFallsWrongFalsely : Prop := stationFallsRow.holds Try.pinned (OpenSpec.ofChange stationFallsWrong)

/-- 'batchlinelaw20.StationScales': WHATEVER THE INPUT: true; the input reads as it did. -/
def stationScalesSpec : ChangeSpec := { name := "stationScales", fn := fun _ => fun
  | [d1, d2] => { results := [.lit (.bool true)], args := [d1, d2] }
  | _ => none }
def stationScalesRow : OpenClaim := { program := "ytbodabbgcbjkcaa", sum := "20735f42206380aa698437ee4f58ee1f1f4f34ddacb33aa09ca8484c42578e63", func := "batchline/batchlinelaw20.StationScales", spec := "stationScales", unfollowed := true, recurses := true, apart := false }
def StationScalesSaid : Prop := stationScalesRow.holds Try.pinned (OpenSpec.ofChange stationScalesSpec)

/-- ITS FALSE NEIGHBOUR: 'it returns false'. Refute it at one input. -/
def stationScalesWrong : ChangeSpec := { name := "stationScales", fn := fun _ => fun
  | [d1, d2] => { results := [.lit (.bool false)], args := [d1, d2] }
  | _ => none }
def StationScalesWrongFalsely : Prop := stationScalesRow.holds Try.pinned (OpenSpec.ofChange stationScalesWrong)

/-- 'batchlinelaw20.StationAnswers': WHATEVER THE INPUT: true; the input reads as it did. -/
def stationAnswersSpec : ChangeSpec := { name := "stationAnswers", fn := fun _ => fun
  | [d1, d2, d3, d4] => { results := [.lit (.bool true)], args := [d1, d2, d3, d4] }
  | _ => none }
def stationAnswersRow : OpenClaim := { program := "ytbodabbgcbjkcaa", sum := "20735f42206380aa698437ee4f58ee1f1f4f34ddacb33aa09ca8484c42578e63", func := "batchline/batchlinelaw20.StationAnswers", spec := "stationAnswers", unfollowed := true, recurses := true, apart := false }
def StationAnswersSaid : Prop := stationAnswersRow.holds Try.pinned (OpenSpec.ofChange stationAnswersSpec)

/-- ITS FALSE NEIGHBOUR: 'it returns false'. Refute it at one input. -/
def stationAnswersWrong : ChangeSpec := { name := "stationAnswers", fn := fun _ => fun
  | [d1, d2, d3, d4] => { results := [.lit (.bool false)], args := [d1, d2, d3, d4] }
  | _ => none }
def StationAnswersWrongFalsely : Prop := stationAnswersRow.holds Try.pinned (OpenSpec.ofChange stationAnswersWrong)

/-- 'batchlinelaw20.StationRaises': WHATEVER THE INPUT: true; the input reads as it did. -/
def stationRaisesSpec : ChangeSpec := { name := "stationRaises", fn := fun _ => fun
  | [d1, d2, d3, d4] => { results := [.lit (.bool true)], args := [d1, d2, d3, d4] }
  | _ => none }
def stationRaisesRow : OpenClaim := { program := "ytbodabbgcbjkcaa", sum := "20735f42206380aa698437ee4f58ee1f1f4f34ddacb33aa09ca8484c42578e63", func := "batchline/batchlinelaw20.StationRaises", spec := "stationRaises", unfollowed := true, recurses := true, apart := false }
def StationRaisesSaid : Prop := stationRaisesRow.holds Try.pinned (OpenSpec.ofChange stationRaisesSpec)

/-- ITS FALSE NEIGHBOUR: 'it returns false'. Refute it at one input. -/
def stationRaisesWrong : ChangeSpec := { name := "stationRaises", fn := fun _ => fun
  | [d1, d2, d3, d4] => { results := [.lit (.bool false)], args := [d1, d2, d3, d4] }
  | _ => none }
def StationRaisesWrongFalsely : Prop := stationRaisesRow.holds Try.pinned (OpenSpec.ofChange stationRaisesWrong)

/-- 'batchlinelaw07.MeterAnswers': WHATEVER THE INPUT: true; the input reads as it did. -/
def meterAnswersSpec : ChangeSpec := { name := "meterAnswers", fn := fun _ => fun
  | [d1, d2, d3, d4, d5, d6] => { results := [.lit (.bool true)], args := [d1, d2, d3, d4, d5, d6] }
  | _ => none }
def meterAnswersRow : OpenClaim := { program := "ytbodabbgcbjkcaa", sum := "20735f42206380aa698437ee4f58ee1f1f4f34ddacb33aa09ca8484c42578e63", func := "batchline/batchlinelaw07.MeterAnswers", spec := "meterAnswers", apart := false }
def MeterAnswersSaid : Prop := meterAnswersRow.holds Try.pinned (OpenSpec.ofChange meterAnswersSpec)

/-- ITS FALSE NEIGHBOUR: 'it returns false'. Refute it at one input. -/
def meterAnswersWrong : ChangeSpec := { name := "meterAnswers", fn := fun _ => fun
  | [d1, d2, d3, d4, d5, d6] => { results := [.lit (.bool false)], args := [d1, d2, d3, d4, d5, d6] }
  | _ => none }
def MeterAnswersWrongFalsely : Prop := meterAnswersRow.holds Try.pinned (OpenSpec.ofChange meterAnswersWrong)

/-- 'batchlinelaw07.MeterVolumes': WHATEVER THE INPUT: true; the input reads as it did. -/
def meterVolumesSpec : ChangeSpec := { name := "meterVolumes", fn := fun _ => fun
  | [d] => { results := [.lit (.bool true)], args := [d] }
  | _ => none }
def meterVolumesRow : OpenClaim := { program := "ytbodabbgcbjkcaa", sum := "20735f42206380aa698437ee4f58ee1f1f4f34ddacb33aa09ca8484c42578e63", func := "batchline/batchlinelaw07.MeterVolumes", spec := "meterVolumes", apart := false }
def MeterVolumesSaid : Prop := meterVolumesRow.holds Try.pinned (OpenSpec.ofChange meterVolumesSpec)

/-- ITS FALSE NEIGHBOUR: 'it returns false'. Refute it at one input. -/
def meterVolumesWrong : ChangeSpec := { name := "meterVolumes", fn := fun _ => fun
  | [d] => { results := [.lit (.bool false)], args := [d] }
  | _ => none }
def MeterVolumesWrongFalsely : Prop := meterVolumesRow.holds Try.pinned (OpenSpec.ofChange meterVolumesWrong)

/- THE SECOND FORM. 'bulk': how many values and letters a reading holds, each counted each time it is reached (what is shared counts as often as it is met; a slice's spare places count too). A statement '..UptoSaid' is the law's where the arguments, and the package variables that the reading takes, are together of bulk at most 1048576: NARROWER than '..Said'. Prove '..Said' where nothing that the law and all that it calls make is longer than what came in: it says more and counts as full. Else prove '..UptoSaid'. A law counts once. -/
mutual
def uptoBulk {H : Type} : DataW H → Nat
  | .lit (.string bytes) => bytes.length + 1
  | .lit _ => 1
  | .nil => 1
  | .ptr d => uptoBulk d + 1
  | .slice elems spare => uptoBulkAll elems + uptoBulkAll spare + 1
  | .agg parts => uptoBulkAll parts + 1
  | .iface _ d => uptoBulk d + 1
  | .map entries => uptoBulkEntries entries + 1
  | .held _ => 1
def uptoBulkAll {H : Type} : List (DataW H) → Nat
  | [] => 0
  | d :: r => uptoBulk d + uptoBulkAll r
def uptoBulkEntries {H : Type} : List (Lit × DataW H) → Nat
  | [] => 0
  | x :: r => uptoBulkEntry x + uptoBulkEntries r
def uptoBulkEntry {H : Type} : Lit × DataW H → Nat
  | (.string bytes, d) => bytes.length + uptoBulk d + 1
  | (_, d) => uptoBulk d + 1
 end
def uptoSmall : (H : Type) → List (DataW H) → Bool := fun _ ds => decide (uptoBulkAll ds ≤ 1048576)
def OpenSpec.upto (s : _root_.Go.ChangeSpec) : _root_.Go.OpenSpec := { _root_.Go.OpenSpec.ofChange s with cond := some uptoSmall }

/-- 'batchlinelaw42.TroubleBetween', WHERE WHAT IT READS IS OF BULK AT MOST 1048576: true; the input reads as it did. -/
def troubleBetweenUptoRow : OpenClaim := { program := "ytbodabbgcbjkcaa", sum := "20735f42206380aa698437ee4f58ee1f1f4f34ddacb33aa09ca8484c42578e63", func := "batchline/batchlinelaw42.TroubleBetween", spec := "troubleBetween", unfollowed := true, recurses := true, apart := false, narrowed := true }
def TroubleBetweenUptoSaid : Prop := troubleBetweenUptoRow.holds Try.pinned (OpenSpec.upto troubleBetweenSpec)

/-- 'batchlinelaw42.TroubleAlone', WHERE WHAT IT READS IS OF BULK AT MOST 1048576: true; the input reads as it did. -/
def troubleAloneUptoRow : OpenClaim := { program := "ytbodabbgcbjkcaa", sum := "20735f42206380aa698437ee4f58ee1f1f4f34ddacb33aa09ca8484c42578e63", func := "batchline/batchlinelaw42.TroubleAlone", spec := "troubleAlone", unfollowed := true, recurses := true, apart := false, narrowed := true }
def TroubleAloneUptoSaid : Prop := troubleAloneUptoRow.holds Try.pinned (OpenSpec.upto troubleAloneSpec)

/-- 'batchlinelaw07.MeterCounts', WHERE WHAT IT READS IS OF BULK AT MOST 1048576: true; the input reads as it did. -/
def meterCountsUptoRow : OpenClaim := { program := "ytbodabbgcbjkcaa", sum := "20735f42206380aa698437ee4f58ee1f1f4f34ddacb33aa09ca8484c42578e63", func := "batchline/batchlinelaw07.MeterCounts", spec := "meterCounts", apart := false, narrowed := true }
def MeterCountsUptoSaid : Prop := meterCountsUptoRow.holds Try.pinned (OpenSpec.upto meterCountsSpec)

/-- 'batchlinelaw07.MeterScales', WHERE WHAT IT READS IS OF BULK AT MOST 1048576: true; the input reads as it did. -/
def meterScalesUptoRow : OpenClaim := { program := "ytbodabbgcbjkcaa", sum := "20735f42206380aa698437ee4f58ee1f1f4f34ddacb33aa09ca8484c42578e63", func := "batchline/batchlinelaw07.MeterScales", spec := "meterScales", apart := false, narrowed := true }
def MeterScalesUptoSaid : Prop := meterScalesUptoRow.holds Try.pinned (OpenSpec.upto meterScalesSpec)

/-- 'batchlinelaw07.MeterOrder', WHERE WHAT IT READS IS OF BULK AT MOST 1048576: true; the input reads as it did. -/
def meterOrderUptoRow : OpenClaim := { program := "ytbodabbgcbjkcaa", sum := "20735f42206380aa698437ee4f58ee1f1f4f34ddacb33aa09ca8484c42578e63", func := "batchline/batchlinelaw07.MeterOrder", spec := "meterOrder", apart := false, narrowed := true }
def MeterOrderUptoSaid : Prop := meterOrderUptoRow.holds Try.pinned (OpenSpec.upto meterOrderSpec)

/-- 'batchlinelaw20.StationFalls', WHERE WHAT IT READS IS OF BULK AT MOST 1048576: true; the input reads as it did. -/
def stationFallsUptoRow : OpenClaim := { program := "ytbodabbgcbjkcaa", sum := "20735f42206380aa698437ee4f58ee1f1f4f34ddacb33aa09ca8484c42578e63", func := "batchline/batchlinelaw20.StationFalls", spec := "stationFalls", unfollowed := true, recurses := true, apart := false, narrowed := true }
def StationFallsUptoSaid : Prop := stationFallsUptoRow.holds Try.pinned (OpenSpec.upto stationFallsSpec)

/-- 'batchlinelaw20.StationScales', WHERE WHAT IT READS IS OF BULK AT MOST 1048576: true; the input reads as it did. -/
def stationScalesUptoRow : OpenClaim := { program := "ytbodabbgcbjkcaa", sum := "20735f42206380aa698437ee4f58ee1f1f4f34ddacb33aa09ca8484c42578e63", func := "batchline/batchlinelaw20.StationScales", spec := "stationScales", unfollowed := true, recurses := true, apart := false, narrowed := true }
def StationScalesUptoSaid : Prop := stationScalesUptoRow.holds Try.pinned (OpenSpec.upto stationScalesSpec)

/-- 'batchlinelaw20.StationAnswers', WHERE WHAT IT READS IS OF BULK AT MOST 1048576: true; the input reads as it did. -/
def stationAnswersUptoRow : OpenClaim := { program := "ytbodabbgcbjkcaa", sum := "20735f42206380aa698437ee4f58ee1f1f4f34ddacb33aa09ca8484c42578e63", func := "batchline/batchlinelaw20.StationAnswers", spec := "stationAnswers", unfollowed := true, recurses := true, apart := false, narrowed := true }
def StationAnswersUptoSaid : Prop := stationAnswersUptoRow.holds Try.pinned (OpenSpec.upto stationAnswersSpec)

/-- 'batchlinelaw20.StationRaises', WHERE WHAT IT READS IS OF BULK AT MOST 1048576: true; the input reads as it did. -/
def stationRaisesUptoRow : OpenClaim := { program := "ytbodabbgcbjkcaa", sum := "20735f42206380aa698437ee4f58ee1f1f4f34ddacb33aa09ca8484c42578e63", func := "batchline/batchlinelaw20.StationRaises", spec := "stationRaises", unfollowed := true, recurses := true, apart := false, narrowed := true }
def StationRaisesUptoSaid : Prop := stationRaisesUptoRow.holds Try.pinned (OpenSpec.upto stationRaisesSpec)

/-- 'batchlinelaw07.MeterAnswers', WHERE WHAT IT READS IS OF BULK AT MOST 1048576: true; the input reads as it did. -/
def meterAnswersUptoRow : OpenClaim := { program := "ytbodabbgcbjkcaa", sum := "20735f42206380aa698437ee4f58ee1f1f4f34ddacb33aa09ca8484c42578e63", func := "batchline/batchlinelaw07.MeterAnswers", spec := "meterAnswers", apart := false, narrowed := true }
def MeterAnswersUptoSaid : Prop := meterAnswersUptoRow.holds Try.pinned (OpenSpec.upto meterAnswersSpec)

/-- 'batchlinelaw07.MeterVolumes', WHERE WHAT IT READS IS OF BULK AT MOST 1048576: true; the input reads as it did. -/
def meterVolumesUptoRow : OpenClaim := { program := "ytbodabbgcbjkcaa", sum := "20735f42206380aa698437ee4f58ee1f1f4f34ddacb33aa09ca8484c42578e63", func := "batchline/batchlinelaw07.MeterVolumes", spec := "meterVolumes", apart := false, narrowed := true }
def MeterVolumesUptoSaid : Prop := meterVolumesUptoRow.holds Try.pinned (OpenSpec.upto meterVolumesSpec)

end Rows
end Go.Proofs.Ytbodabbgcbjkcaa
