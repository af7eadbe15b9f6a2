/- RouteAnswers: Hints Rt8 CodeRW Base Src Args Bridge Rt9 Raw Vz. -/
import Derived.Test.YtadjhfjiimgddaaYr17
import Derived.Test.YtadjhfjiimgddaaYr16
import Derived.Test.YtadjhfjiimgddaaYr11
import Derived.Test.YtadjhfjiimgddaaYr12
import Derived.Test.YtadjhfjiimgddaaYr3
import Derived.Test.YtadjhfjiimgddaaProg
import Derived.WalkKit
import Derived.WalkSpells
import Derived.WalkLawsBesides
import Derived.Deep.QuietTactic
import Derived.BigQuiet
import Derived.Lib.Hide
import Derived.Handy
import Derived.OpenShut
import Derived.Test.YtadjhfjiimgddaaRows
import Derived.Test.YtadjhfjiimgddaaYr4
import Derived.Test.YtadjhfjiimgddaaYr9
import Derived.Test.YtadjhfjiimgddaaYr8
import Derived.Deep.Fields
import Derived.Test.YtadjhfjiimgddaaYr5
set_option linter.defProp false
set_option linter.unusedSectionVars false
set_option linter.unusedSimpArgs false
set_option linter.unusedVariables false
set_option maxRecDepth 100000
/- What runs of functions must know of their loops (printed by a program). -/
namespace Go.Proofs.Ytadjhfjiimgddaa
open Go
def hints : List (FuncId × Hint) := [
 (3, ⟨[([1, 2, 9, 10, 53, 54, 55], []), ([1, 2, 9, 10, 12, 53, 54, 55, 77, 78, 79], []), ([1, 2, 9, 10, 12, 53, 54, 55, 168, 169, 170], [])], false, []⟩),
 (4, ⟨[([1, 5, 6, 7, 8], []), ([6, 9, 10, 12, 13, 14], [])], false, []⟩),
 (5, ⟨[([1, 2, 7, 8, 9, 10, 11, 12], [])], false, []⟩),
 (6, ⟨[([1, 2, 3, 4, 13, 14, 15, 78, 79, 80], []), ([1, 2, 3, 4, 13, 14, 15, 17, 78, 79, 80, 86, 87, 88], []), ([1, 2, 3, 4, 13, 14, 15, 17, 19, 78, 79, 80, 86, 87, 88, 105, 106, 107], []), ([1, 2, 3, 4, 13, 14, 15, 17, 19, 78, 79, 80, 86, 87, 88, 105, 106, 107, 215, 216, 217], [])], false, []⟩),
 (9, ⟨[([0, 2, 3, 4, 5], [])], false, []⟩),
 (11, ⟨[([1, 3, 22, 23, 24], [])], false, []⟩),
 (12, ⟨[([1, 22, 23, 24], [])], false, []⟩),
 (21, ⟨[([1, 2, 8, 9], [])], false, []⟩),
 (26, ⟨[([0, 1, 2, 7], [])], false, []⟩),
 (29, ⟨[([1, 3, 4, 6, 12, 13, 14, 15, 60, 61], []), ([3, 4, 6, 12, 13, 14, 15, 80, 81, 82], []), ([3, 4, 6, 12, 13, 14, 15, 20, 21, 22, 23, 24, 80, 81, 82, 87, 88, 89], []), ([3, 4, 6, 12, 13, 14, 15, 20, 21, 22, 23, 24, 80, 81, 82, 146, 147, 148], []), ([3, 4, 6, 12, 13, 14, 15, 23, 24, 31, 80, 81, 82, 209, 210, 211], []), ([3, 4, 6, 12, 13, 14, 15, 23, 31, 80, 81, 82, 224, 225, 226], []), ([12, 13, 14, 15, 272, 273], []), ([12, 13, 15, 295, 296], [])], false, []⟩),
 (31, ⟨[([1, 14, 15, 16], [])], false, []⟩),
 (32, ⟨[([0, 2, 3, 4], []), ([0, 2, 3, 5, 6], []), ([0, 2, 3, 5, 7], []), ([0, 2, 3, 5, 9], [])], false, []⟩),
 (33, ⟨[([0, 3, 4, 5, 6], []), ([0, 3, 4, 5, 7, 8], []), ([0, 3, 4, 5, 7, 8, 9, 10, 11, 12, 13], []), ([0, 3, 4, 5, 7, 8, 9, 10, 11, 12, 13, 90, 91, 92], []), ([0, 3, 4, 5, 7, 8, 9, 10, 11, 12, 13, 16, 139, 140, 141], []), ([0, 3, 4, 5, 7, 8, 11, 239, 240, 241], [])], false, []⟩),
 (36, ⟨[([0, 3, 4, 5, 6], [])], false, []⟩),
 (41, ⟨[([2, 3, 4, 5, 10, 15, 16, 17], []), ([3, 4, 5, 10, 49, 50], []), ([3, 4, 5, 10, 14, 49, 50, 53, 54], [])], false, []⟩),
 (42, ⟨[([2, 3, 4, 5, 12], []), ([2, 3, 4, 5, 13, 14], []), ([2, 3, 4, 5, 13, 14, 15, 16], [])], false, []⟩),
 (45, ⟨[([0, 1, 5], [])], false, []⟩),
 (50, ⟨[([0, 3, 5, 6], [])], false, []⟩),
 (51, ⟨[([3, 4, 10, 12, 13, 14], []), ([3, 4, 10, 12, 13, 14, 44, 45], [])], false, []⟩),
 (52, ⟨[([1, 2, 3, 4, 11, 12], []), ([1, 2, 3, 4, 11, 12, 13, 50, 51], []), ([1, 2, 3, 4, 11, 12, 13, 14, 50, 51, 54, 55, 56], [])], false, []⟩),
 (57, ⟨[([0, 1, 12, 13], [])], false, []⟩),
 (58, ⟨[([0, 1, 12, 13], [])], false, []⟩),
 (59, ⟨[([2, 7, 8, 21, 22, 23], [])], false, []⟩),
 (60, ⟨[([1, 2, 22, 23, 24], []), ([1, 2, 9, 10, 44, 45, 46], [])], false, []⟩),
 (61, ⟨[([6, 8, 21, 22], [])], false, []⟩),
 (62, ⟨[([1, 2, 7, 18, 19], [])], false, []⟩),
 (67, ⟨[([0, 19, 20], [])], false, []⟩),
 (68, ⟨[([0, 3], [])], false, []⟩),
 (72, ⟨[([1, 2, 5], [])], false, []⟩),
 (74, ⟨[([1, 5, 6], [])], false, []⟩),
 (76, ⟨[([0, 3, 9, 10, 11], [])], false, []⟩),
 (77, ⟨[([0, 3, 6, 7], [])], false, []⟩),
 (81, ⟨[([3, 31, 32], [])], false, []⟩),
 (85, ⟨[([3, 6, 7, 8], [])], false, []⟩),
 (86, ⟨[([1, 5, 6, 19, 20, 21], []), ([1, 5, 6, 8, 9, 10, 19, 20, 21], []), ([1, 5, 6, 8, 9, 19, 20, 21, 43, 44], []), ([5, 71, 72], [])], false, []⟩),
 (87, ⟨[([0, 3, 4], [])], false, []⟩),
 (89, ⟨[([0, 8, 9, 10, 11], [])], false, []⟩),
 (91, ⟨[([1, 2, 3, 13, 14], []), ([1, 2, 3, 31, 32], [])], false, []⟩),
 (92, ⟨[([2, 7, 8, 9, 10], []), ([2, 7, 8, 9, 10], []), ([2, 7, 8, 9, 10, 11, 13], [])], false, []⟩),
 (95, ⟨[([1, 9, 10], [])], false, []⟩),
 (96, ⟨[([2, 3, 5, 21, 22, 23], [])], false, []⟩),
 (97, ⟨[([1, 51, 52, 53], []), ([1, 5, 65, 66], []), ([1, 5, 65, 66, 69, 70, 71], []), ([1, 80, 81], []), ([1, 89, 90], []), ([1, 12, 13, 89, 90], []), ([1, 14, 117, 118, 119], []), ([1, 14, 137, 138, 139], []), ([1, 14, 150, 151, 152], []), ([1, 163, 164, 165], []), ([1, 174, 175, 176], []), ([1, 186, 187, 188], [])], false, []⟩),
 (100, ⟨[([2, 3, 45, 46, 47], []), ([2, 3, 70, 71, 72], []), ([2, 3, 85, 86], [])], false, []⟩),
 (102, ⟨[([0, 1, 12, 13], [])], false, []⟩),
 (103, ⟨[([0, 1, 5], [])], false, []⟩),
 (104, ⟨[([0, 1, 9, 10, 11], [])], false, []⟩),
 (106, ⟨[([2, 5, 6], []), ([2, 5, 6, 7, 38, 39], [])], false, []⟩),
 (110, ⟨[([1, 2, 3, 7, 17, 18], []), ([1, 3, 7, 9], []), ([1, 3, 7, 9, 36, 37, 38], [])], false, []⟩),
 (112, ⟨[([5, 10, 11, 12], [])], false, []⟩),
 (113, ⟨[([7, 8, 15, 16], [])], false, []⟩),
 (119, ⟨[([0, 1, 12, 13], [])], false, []⟩),
 (124, ⟨[([2, 3, 40, 41, 42], [])], false, []⟩),
 (127, ⟨[([1, 2, 20, 21], []), ([1, 2, 32, 33], [])], false, []⟩),
 (128, ⟨[([2, 3, 5, 6], []), ([2, 3, 5, 6, 7, 20, 21], []), ([2, 3, 5, 6, 7, 8, 9, 20, 21, 30, 31, 32], [])], false, []⟩),
 (129, ⟨[([0, 1, 5, 8, 9], [])], false, []⟩),
 (130, ⟨[([1, 6, 7, 11, 12, 13], [])], false, []⟩),
 (131, ⟨[([1, 2, 4, 8, 10, 11, 12], []), ([1, 2, 4, 8, 10, 11, 12, 13], [])], false, []⟩),
 (133, ⟨[([1, 2, 3, 14, 15, 16], []), ([1, 2, 3, 29, 30, 31], []), ([2, 3, 44, 45, 46], [])], false, []⟩),
 (136, ⟨[([1, 10, 11], []), ([1, 4, 10, 11, 14, 15, 16], []), ([1, 29, 30, 31], [])], false, []⟩),
 (137, ⟨[([1, 3, 11, 12, 13], []), ([1, 3, 26, 27, 28], []), ([1, 3, 39, 40, 41], [])], false, []⟩),
 (140, ⟨[([1, 2, 3, 14, 15, 16], []), ([1, 2, 3, 29, 30, 31], []), ([2, 3, 44, 45, 46], [])], false, []⟩),
 (141, ⟨[([0, 6, 7], []), ([0, 3, 4, 6, 7], [])], false, []⟩),
 (142, ⟨[([1, 51, 52, 53], [])], false, []⟩),
 (143, ⟨[([1, 2, 5], []), ([1, 2, 6], [])], false, []⟩),
 (144, ⟨[([2, 3, 4, 8, 9, 17, 18, 19], []), ([2, 4, 8, 9, 64, 65, 66], [])], false, []⟩),
 (147, ⟨[([7, 8], [])], false, []⟩),
 (148, ⟨[([0, 1, 7, 8], [])], false, []⟩),
 (149, ⟨[([0, 1, 7, 8], [])], false, []⟩),
 (153, ⟨[([2, 3, 4, 5, 11, 12, 13], []), ([3, 4, 5, 30, 31, 32], [])], false, []⟩),
 (154, ⟨[([2, 3, 5, 6, 7], []), ([2, 3, 5, 6, 7, 28, 29, 30], [])], false, []⟩),
 (155, ⟨[([0, 1, 7, 8], [])], false, []⟩),
 (156, ⟨[([1, 2, 3, 6, 8], [])], false, []⟩),
 (161, ⟨[([0, 1, 7, 8], [])], false, []⟩),
 (162, ⟨[([0, 1, 7, 8], [])], false, []⟩),
 (163, ⟨[([0, 1, 7, 8], [])], false, []⟩),
 (167, ⟨[([1, 29, 30, 31], [])], false, []⟩),
 (173, ⟨[([0, 1, 7, 8], [])], false, []⟩),
 (177, ⟨[([0, 1, 7, 8], [])], false, []⟩),
 (178, ⟨[([0, 1, 7, 8], [])], false, []⟩)]
def ClF (i : Nm) (o : List Bool) (g : Nat) (l : List (Nat × D)) : List (Nat × D) := (0, .ptr i 0 0 0) :: (3, .ptr (i.1 + 1, 3) 0 0 0) :: (5, .own (i.1 + 1, 1000) g 0 o.length) :: l
def ClH (i : Nm) (L : List (List D)) (at' : Int) (n : Net) (o : List Bool) (g : Nat) : Hp := ((Hp.none.put (i.1 + 1, 1000) ⟨g, 1, o.map bRow⟩).put (i.1 + 1, 3) ⟨0, 6, [netD n]⟩).put i (sE L at')
def ClI (i : Nm) (L : List (List D)) (n : Net) : Nat → St → Prop := fun k s => ∃ at' o g, SrcOk L at' ∧ o.length + k = n.segs.length ∧ s = ⟨fr (ClF i o g [(6, di o.length)]), ClH i L at' n o g⟩
def ClPost (n : Net) (c : List Bool) : Prop := c.length = n.segs.length
set_option maxHeartbeats 8000000 in
theorem closed_c (n : Net) (hl : n.segs.length ≤ 1000) : SrcC Try.prog 50 [n.enc] (ClPost n) (fun c => .sl (c.map bRow)) := by
 intro i L at' nn ho
 obtain ⟨code, h1, h2⟩ := c50_ok
 refine callsA_of T1_ok mixed (N := fun t => (i.1 + 1, t)) Try.func50 h1 h2 r50_ok [i] false js_one js_one' (by simp [Try.f50]) ?_
 simp (maxSteps:=500000) only [↓vp, vv, ↓reduceIte, simprocAttr, c50, T1, selI, ho, Net.enc]
 rw [vc_loop]
 refine ⟨ClI i L n, ⟨n.segs.length, _, (weak_own 5 (i.1 + 1, 1000) 1 (by simp only [↓vp, vv, ↓reduceIte, simprocAttr, ]) (by simp only [↓vp, vv, ↓reduceIte, simprocAttr, ])).trans (weak_eqA [] [i, (i.1 + 1, 3), (i.1 + 1, 1000)] (ClF i [] 0 [(6, di 0)]) (by refine ⟨?_, ?_, ?_, by simp, ?_⟩ <;> (simp only [↓vp, vv, ↓reduceIte, simprocAttr, coverS, refsF, ClF, ClH, netD, bRow] <;> try rfl))), at', [], 0, ho, by simp, rfl⟩, ?_⟩
 rintro k s ⟨at1, o, g, o1, hk, rfl⟩
 have w1 := idx_next (j := o.length) (by omega)
 by_cases hj : o.length < n.segs.length
 ·have hj' : (o.length : Int) < n.segs.length := by omega
  have y1 : (o.length + 1) * 1 ≤ 140737488355328 := by omega
  have y2 : o.length + 1 ≤ 4611686018427387904 := by omega
  simp (maxSteps:=500000) only [↓vp, vv, ↓reduceIte, simprocAttr, c50_2, c50_1, T1, selI, ClF, ClH, netD, o1, hj', y1, y2, w1]
  intro a1 x hx
  exact ⟨k - 1, _, by omega, (weak_eqA [] [i, (i.1 + 1, 3), (i.1 + 1, 1000)] (ClF i (o ++ [x == 1]) (g + 1) [(6, di (o ++ [x == 1]).length)]) (by refine ⟨?_, ?_, ?_, by simp, ?_⟩ <;> (simp only [↓vp, vv, ↓reduceIte, simprocAttr, coverS, refsF, ClF, ClH, netD, bRow, w1, List.map_append, List.length_append, List.length_cons, List.length_nil] <;> try rfl))), a1.1, o ++ [x == 1], g + 1, a1.2, by simp; omega, rfl⟩
 ·have hj' : ¬ (o.length : Int) < n.segs.length := by omega
  have tk : (o.map bRow).take o.length = o.map bRow := List.take_of_length_le (by simp)
  simp (maxSteps:=500000) only [↓vp, vv, ↓reduceIte, simprocAttr, c50_2, c50_3, r50, T1, selI, ClF, ClH, netD, o1, hj', tk]
  exact ⟨fun x _ d hd => by rw [List.mem_singleton.1 hd]; rfl, at1, o, o1, show o.length = n.segs.length by omega, rfl, rfl⟩
def exN : Net := ⟨[⟨#[97]⟩, ⟨#[98]⟩, ⟨#[99]⟩], [⟨⟨#[120]⟩, 0, 1, 10, 0, 0, [⟨0, 0, 0⟩, ⟨10, 0, 0⟩]⟩, ⟨⟨#[121]⟩, 0, 1, 11, 0, 0, [⟨0, 0, 0⟩, ⟨11, 0, 0⟩]⟩, ⟨⟨#[122]⟩, 2, 1, 12, 0, 0, [⟨0, 0, 0⟩, ⟨12, 0, 0⟩]⟩], [], [], 0, 0⟩
theorem f49_ok : fnOk Try.prog 49 = true := by kernel_rfl
theorem f104_ok : fnOk Try.prog 104 = true := by kernel_rfl
theorem exN_c (nn : Nm) : CallsA Try.prog 104 [] Hp.none nn (Pu exN.enc Hp.none) := run_c mixed hints 200 30 (by kernel_rfl)
theorem exN_sz : NetSz exN := ⟨by decide, by decide, by decide, by decide, by decide⟩
theorem exN_ck : checkI exN = 0 := by kernel_rfl
theorem exN_way : wayD exN [true, false, false] 0 2 = .tup [.sl ([(1, false), (2, true)].map hRow), di 0] := by kernel_rfl
theorem exN_len : lenR exN [(1, false), (2, true)] = (23, 0) := by kernel_rfl
theorem exN_cut : cutB exN [false, false, false] 2 = true := by kernel_rfl
def c49 : C := (.seq (.ops false [oP 0 (.mv (cB false))]) (.seq (.ops false [oP 8 (.call 104 []), oP 9 (.bsl 1 3 [(.v (.bool false))] [(0, (cB true)), (1, (cB false)), (2, (cB false))]), oP 10 (.call 51 [(.t 8), (.t 9), (cI 0), (cI 2)]), oM 7 10, oP 11 (.ext (.t 7) 0), oP 12 (.ext (.t 7) 1), oM 1 11, oM 2 12]) (.seq (.ops false [oP 14 (.call 104 []), oM 15 1,
 oB 16 (.call 59 [(.t 14), (.t 15)]), oM 13 16, oP 17 (.ext (.t 13) 0), oP 18 (.ext (.t 13) 1), oM 3 17, oM 4 18]) (.seq (.ops true [oP 20 (.call 104 []), oP 21 (.mks 1 1 [(.v (.bool false))] (cI 3)), oE 22 (.call 55 [(.t 20), (.t 21), (cI 2)]) [1, 0], oA 19 (.mv (.t 22)) [0, 1, 2], oA 23 (.ext (.t 19) 0) [2, 1, 0, 3], oA 24 (.ext (.t 19) 1) [2, 1, 0, 3],
 oA 5 (.mv (.t 23)) [3, 1, 0, 2, 4], oA 6 (.mv (.t 24)) [4, 3, 2, 1, 0, 6, 5]]) (.seq (.ops false [oM 25 2, oP 26 (.bin .eql (.t 25) (cI 0)), oM 27 26, oG 28 27 true (.mv (.t 1)), oG 29 27 true (.bld [(.v (.int .i64 0)), (.v (.bool false))] [(0, (1, (cI 1)))]), oG 30 27 true (.bld [(.v (.int .i64 0)), (.v (.bool false))] [(0, (1, (cI 2))), (1, (1, (cB true)))]),
 oG 31 27 true (.bsl 2 2 [(.v (.int .i64 0)), (.v (.bool false))] [(0, (.t 29)), (1, (.t 30))]), oD 32 27 true (.call 57 [(.t 28), (.t 31)]) [], oP 33 (.pick (.t 27) (.t 32) (cB false)), oM 34 33, oG 35 34 true (.mv (.t 4)), oG 36 34 true (.bin .eql (.t 35) (cI 0)), oP 37 (.pick (.t 34) (.t 36) (cB false)), oM 38 37, oG 39 38 true (.mv (.t 3)), oG 40 38 true (.bin .eql (.t 39)
 (cI 23)), oP 41 (.pick (.t 38) (.t 40) (cB false)), oM 42 41, oG 43 42 true (.mv (.t 6)), oG 44 42 true (.bin .eql (.t 43) (cI 0)), oP 45 (.pick (.t 42) (.t 44) (cB false)), oM 46 45, oG 47 46 true (.mv (.t 5)), oP 48 (.pick (.t 46) (.t 47) (cB false)), oM 0 48]) .ret)))))
def r49 : List RV := [(.tmp 0)]
theorem c49_ok : ∃ code, Try.f49.body = some code ∧ compC Try.prog Try.f49.ntmps code = some (C.strip c49) := ⟨_, rfl, by kernel_rfl⟩
theorem r49_ok : compRes Try.prog Try.f49.results.toList = some r49 := by kernel_rfl
end Go.Proofs.Ytadjhfjiimgddaa

/- Small plain notions for walks over worlds: 'Only': no old block but one has changed; 'Kept': no old block has changed. No program in sight. -/
namespace Go.Proofs.Ytadjhfjiimgddaa
open Go.RowKit
abbrev Kept (w w' : World) : Prop := Below w.heap.size w w'
theorem Kept.refl (w : World) : Kept w w := Below.refl _ _
theorem Kept.trans {a b c : World} (h : Kept a b) (k : Kept b c) : Kept a c := Below.trans h (Below.mono k h.size)
theorem Kept.alloc {a w : World} (h : Kept a w) (o : Obj) : Kept a (w.alloc o) := Below.alloc h h.size o
theorem Kept.drew {a w : World} (h : Kept a w) : Kept a w.drew := Below.drew h
theorem Kept.setCell {a w : World} (h : Kept a w) {p : Addr} (hp : a.heap.size ≤ p.block) (u : Value) : Kept a (w.setCell p u) := Below.setCell h hp u
structure Only (bs : Nat) (w w' : World) : Prop where
  os : w'.os = w.os
  tape : w'.tape = w.tape
  output : w'.output = w.output
  size : w.heap.size ≤ w'.heap.size
  block : ∀ k, k < w.heap.size → k ≠ bs → w'.heap[k]? = w.heap[k]?
theorem Only.refl (bs : Nat) (w : World) : Only bs w w := ⟨rfl, rfl, rfl, Nat.le_refl _, fun _ _ _ => rfl⟩
theorem Only.trans {bs : Nat} {a b c : World} (h : Only bs a b) (k : Only bs b c) : Only bs a c :=
  ⟨k.os.trans h.os, k.tape.trans h.tape, k.output.trans h.output, Nat.le_trans h.size k.size, fun i hi hn => (k.block i (Nat.lt_of_lt_of_le hi h.size) hn).trans (h.block i hi hn)⟩
theorem Only.of_kept {bs : Nat} {w w' : World} (h : Kept w w') : Only bs w w' := ⟨h.os, h.tape, h.output, h.size, fun k hk _ => h.block k hk⟩
theorem Only.kept {bs : Nat} {a w w' : World} (h : Kept a w) (k : Only bs w w') (hb : a.heap.size ≤ bs) : Kept a w' :=
  ⟨k.os.trans h.os, k.tape.trans h.tape, k.output.trans h.output, Nat.le_trans h.size k.size, fun i hi => (k.block i (Nat.lt_of_lt_of_le hi h.size) (by omega)).trans (h.block i hi)⟩
theorem Only.alloc {bs : Nat} {a w : World} (h : Only bs a w) (o : Obj) : Only bs a (w.alloc o) := h.trans (.of_kept ((Kept.refl w).alloc o))
theorem Only.drew {bs : Nat} {a w : World} (h : Only bs a w) : Only bs a w.drew := ⟨h.os, h.tape, h.output, h.size, h.block⟩
theorem Only.setCell {bs : Nat} {a w : World} (h : Only bs a w) {p : Addr} (hp : p.block = bs ∨ a.heap.size ≤ p.block) (u : Value) : Only bs a (w.setCell p u) :=
  ⟨h.os, h.tape, h.output, by have := h.size; simpa [World.setCell] using this, fun k hk hn => by rw [Below.heap_setCell _ _ _ _ (by omega)]; exact h.block k hk hn⟩
def farCell (w : World) (b o : Nat) : Option Value := w.cell? ⟨b, o, none⟩
def farFree (w : World) (b o : Nat) : Bool := w.frozen? ⟨b, o, none⟩
theorem kcell {w w' : World} (hb : Kept w w') : (∀ b o, w'.cell? ⟨b, o, none⟩ = if b < w.heap.size then w.cell? ⟨b, o, none⟩ else farCell w' b o) ∧ (∀ b o, w'.frozen? ⟨b, o, none⟩ = if b < w.heap.size then w.frozen? ⟨b, o, none⟩ else farFree w' b o) :=
  ⟨fun b o => by split; · exact Below.cell hb (p := ⟨b, o, none⟩) ‹_›
                 · rfl,
   fun b o => by split; · exact Below.frozen hb (p := ⟨b, o, none⟩) ‹_›
                 · rfl⟩
theorem ocell {bs : Nat} {w w' : World} (hb : Only bs w w') : (∀ b o, w'.cell? ⟨b, o, none⟩ = if b < w.heap.size ∧ b ≠ bs then w.cell? ⟨b, o, none⟩ else farCell w' b o) ∧ (∀ b o, w'.frozen? ⟨b, o, none⟩ = if b < w.heap.size ∧ b ≠ bs then w.frozen? ⟨b, o, none⟩ else farFree w' b o) :=
  ⟨fun b o => by split; · exact World.cell?_of_block (w := w) (hb.block b (by omega) (by omega))
                 · rfl,
   fun b o => by split; · exact World.frozen?_of_block (w := w) (hb.block b (by omega) (by omega))
                 · rfl⟩
@[go_sem] theorem cell_alloc_ite (w : World) (c : Array Value) (t : TypeId) (fr : Nat × Nat) (n i : Nat) : (w.alloc (.cells c t fr)).cell? ⟨n, i, none⟩ = if n < w.heap.size then w.cell? ⟨n, i, none⟩ else if n = w.heap.size then c[i]? else farCell (w.alloc (.cells c t fr)) n i := by
  split
  · exact World.cell?_alloc_lt _ _ _ ‹_›
  split
  · subst n
    show (match (w.heap.push _)[w.heap.size]? with | some (.cells c _ _) => _ | _ => _) = _
    simp
  · rfl
@[go_sem] theorem free_alloc_ite (w : World) (c : Array Value) (t : TypeId) (n i : Nat) : (w.alloc (.cells c t)).frozen? ⟨n, i, none⟩ = if n < w.heap.size then w.frozen? ⟨n, i, none⟩ else if n = w.heap.size then false else farFree (w.alloc (.cells c t)) n i := by
  split
  · exact World.frozen?_alloc_past _ _ _ ‹_›
  split
  · exact World.frozen?_alloc_at _ _ _ _ ‹_›
  · rfl
@[go_sem] theorem cell_set_ite (w : World) (b o n i : Nat) (v : Value) : (w.setCell ⟨b, o, none⟩ v).cell? ⟨n, i, none⟩ = if b = n ∧ o = i then (w.cell? ⟨n, i, none⟩).map (fun _ => v) else w.cell? ⟨n, i, none⟩ := by
  split
  · obtain ⟨rfl, rfl⟩ := ‹_ ∧ _›
    cases hc : w.cell? ⟨b, o, none⟩ with
    | some u => exact World.cell?_setCell_same _ _ _ hc
    | none =>
      simp only [World.cell?, World.setCell, Array.getElem?_modify, if_pos] at hc ⊢
      cases hh : w.heap[b]? with
      | none => simp
      | some x =>
        rw [hh] at hc
        cases x <;> simp at hc ⊢
        omega
  · exact World.cell?_setCell_other _ _ _ _ (fun e => by injection e with e1 e2; exact (‹¬ (b = n ∧ o = i)› ⟨e1, e2⟩).elim)
theorem kcell1 {w w' : World} (hb : Kept w w') {b : Nat} (h : b < w.heap.size) (o : Nat) : w'.cell? ⟨b, o, none⟩ = w.cell? ⟨b, o, none⟩ := Below.cell hb (p := ⟨b, o, none⟩) h
theorem ocell1 {bs : Nat} {w w' : World} (hb : Only bs w w') {b : Nat} (h : b < w.heap.size) (hn : b ≠ bs) (o : Nat) : w'.cell? ⟨b, o, none⟩ = w.cell? ⟨b, o, none⟩ := World.cell?_of_block (w := w) (hb.block b h hn)
structure KW (w : World) where
  it : World
  kept : Kept w it
structure OW (bs : Nat) (w : World) where
  it : World
  only : Only bs w it
instance (w : World) : Nonempty (KW w) := ⟨⟨w, Kept.refl w⟩⟩
instance (bs : Nat) (w : World) : Nonempty (OW bs w) := ⟨⟨w, Only.refl bs w⟩⟩
@[go_sem] theorem kw_cell {w : World} (k : KW w) (b o : Nat) : k.it.cell? ⟨b, o, none⟩ = if b < w.heap.size then w.cell? ⟨b, o, none⟩ else farCell k.it b o := (kcell k.kept).1 b o
@[go_sem] theorem ow_cell {bs : Nat} {w : World} (k : OW bs w) (b o : Nat) : k.it.cell? ⟨b, o, none⟩ = if b < w.heap.size ∧ b ≠ bs then w.cell? ⟨b, o, none⟩ else farCell k.it b o := (ocell k.only).1 b o
theorem wp_region_kw {P : Program} {id : Nat} {Q : Exit → Act → World → Prop} {a : Act} {w : World} {l : List Oper} (hm : P.follows .mixedOrders = true) (hB : Region.lexB .any l.toArray = true)
    (h : wpQuiet P l.toArray (fun w' => ∃ k : KW w, w' = k.it) (fun a' => ∀ w', (∃ k : KW w, w' = k.it) → Q .normal a' w') l a) : (Code.region id l.toArray true).wp P Q a w :=
  wp_region_quiet (C := fun w' => ∃ k : KW w, w' = k.it) hm hB ⟨⟨w.drew, (Kept.refl w).drew⟩, rfl⟩ (by simpa using h)
def Ret (v : Value) (w : World) (e : Ending) (w' : World) : Prop := e = .returned v ∧ Kept w w'
theorem heap_new (w : World) (o : Obj) : (w.alloc o).heap[w.heap.size]? = some o := by
  show (w.heap.push o)[_]? = _
  simp
def Box (w : World) (b : Nat) (c : Array Value) : Prop := ∃ t, w.heap[b]? = some (.cells c t (0, 0))
theorem Box.cell {w : World} {b : Nat} {c : Array Value} (h : Box w b c) (i : Nat) : w.cell? ⟨b, i, none⟩ = c[i]? := by
  obtain ⟨t, h⟩ := h
  simp [World.cell?, h]
theorem Box.lt {w : World} {b : Nat} {c : Array Value} (h : Box w b c) : b < w.heap.size := by
  obtain ⟨t, h⟩ := h
  rcases Nat.lt_or_ge b w.heap.size with hl | hl
  · exact hl
  · rw [Array.getElem?_eq_none hl] at h; cases h
theorem Box.kept {w w' : World} {b : Nat} {c : Array Value} (h : Box w b c) (k : Kept w w') : Box w' b c := by
  have hl := h.lt
  obtain ⟨t, h⟩ := h
  exact ⟨t, by rw [k.block b hl]; exact h⟩
theorem Box.only {w w' : World} {b bs : Nat} {c : Array Value} (h : Box w b c) (k : Only bs w w') (hn : b ≠ bs) : Box w' b c := by
  have hl := h.lt
  obtain ⟨t, h⟩ := h
  exact ⟨t, by rw [k.block b hl hn]; exact h⟩
theorem Box.new {w : World} {b : Nat} {c : Array Value} {t : TypeId} (hb : b = w.heap.size) : Box (w.alloc (.cells c t)) b c := ⟨t, by subst hb; exact heap_new w _⟩
theorem Box.old {w : World} {b : Nat} {c : Array Value} (h : Box w b c) (o : Obj) : Box (w.alloc o) b c := h.kept ((Kept.refl w).alloc o)
theorem Box.drew {w : World} {b : Nat} {c : Array Value} (h : Box w b c) : Box w.drew b c := h
theorem Box.set {w : World} {b i : Nat} {c c' : Array Value} {v : Value} (h : Box w b c) (hc : c' = c.setIfInBounds i v) : Box (w.setCell ⟨b, i, none⟩ v) b c' := by
  obtain ⟨t, h⟩ := h
  refine ⟨t, ?_⟩
  subst hc
  simp [World.setCell, Array.getElem?_modify, h]
theorem Box.other {w : World} {b : Nat} {c : Array Value} {p : Addr} {v : Value} (h : Box w b c) (hn : b ≠ p.block) : Box (w.setCell p v) b c := by
  obtain ⟨t, h⟩ := h
  exact ⟨t, by rw [Below.heap_setCell _ _ _ _ hn]; exact h⟩
def I64 (n : Int) : Prop := -9223372036854775808 ≤ n ∧ n ≤ 9223372036854775807
def IsSrc (base : Nat) (w : World) (bs : Nat) : Prop :=
  ∃ (a : Option Addr) (len cap at' : Nat) (t : TypeId), base ≤ bs ∧ bs < w.heap.size ∧ len ≤ 2000 ∧ at' ≤ len ∧
    w.heap[bs]? = some (.cells #[.slice a len cap, .int .i64 at'] t (0, 0)) ∧
    (0 < len → ∃ b o, a = some ⟨b, o, none⟩ ∧ b < base ∧ ∀ i, i < len → ∃ n : Int, I64 n ∧ w.cell? ⟨b, o + i, none⟩ = some (.int .i64 n))
theorem IsSrc.lt {base : Nat} {w : World} {bs : Nat} (h : IsSrc base w bs) : base ≤ bs ∧ bs < w.heap.size := by
  obtain ⟨a, len, cap, at', t, h1, h2, _⟩ := h
  exact ⟨h1, h2⟩
theorem IsSrc.keep {base : Nat} {w w' : World} {bs : Nat} (h : IsSrc base w bs) (hs : w.heap.size ≤ w'.heap.size) (hb : w'.heap[bs]? = w.heap[bs]?) (hl : ∀ k, k < base → w'.heap[k]? = w.heap[k]?) : IsSrc base w' bs := by
  obtain ⟨a, len, cap, at', t, h1, h2, h3, h4, h5, h6⟩ := h
  refine ⟨a, len, cap, at', t, h1, by omega, h3, h4, by rw [hb]; exact h5, fun hp => ?_⟩
  obtain ⟨b, o, e, hbb, hc⟩ := h6 hp
  refine ⟨b, o, e, hbb, fun i hi => ?_⟩
  obtain ⟨n, hn, hcell⟩ := hc i hi
  exact ⟨n, hn, by rw [World.cell?_of_block (w := w) (hl b hbb)]; exact hcell⟩
theorem IsSrc.kept {base : Nat} {w w' : World} {bs : Nat} (h : IsSrc base w bs) (k : Kept w w') : IsSrc base w' bs :=
  h.keep k.size (k.block _ h.lt.2) (fun i hi => k.block i (by have := h.lt; omega))
theorem IsSrc.only {base : Nat} {w w' : World} {bs b2 : Nat} (h : IsSrc base w bs) (k : Only b2 w w') (hn : b2 ≠ bs) (hb : base ≤ b2) : IsSrc base w' bs :=
  h.keep k.size (k.block _ h.lt.2 (Ne.symm hn)) (fun i hi => k.block i (by have := h.lt; omega) (by omega))
theorem IsSrc.heap {base : Nat} {w w' : World} {bs : Nat} (h : IsSrc base w bs) (e : w'.heap = w.heap) : IsSrc base w' bs :=
  h.keep (by rw [e]; exact Nat.le_refl _) (by rw [e]) (fun k _ => by rw [e])
theorem IsSrc.alloc {base : Nat} {w : World} {bs : Nat} (h : IsSrc base w bs) (o : Obj) : IsSrc base (w.alloc o) bs := h.kept ((Kept.refl w).alloc o)
theorem IsSrc.drew {base : Nat} {w : World} {bs : Nat} (h : IsSrc base w bs) : IsSrc base w.drew bs := h.kept (Kept.refl w).drew
theorem IsSrc.setCell {base : Nat} {w : World} {bs : Nat} (h : IsSrc base w bs) {p : Addr} (hn : p.block ≠ bs) (hp : base ≤ p.block) (u : Value) : IsSrc base (w.setCell p u) bs :=
  h.keep (by simp [World.setCell]) (Below.heap_setCell _ _ _ _ (by omega)) (fun k hk => Below.heap_setCell _ _ _ _ (by omega))
end Go.Proofs.Ytadjhfjiimgddaa

/- Walks of the reader of numbers: batchlinekeep.Mod, Src.Raw, Src.N, Src.Range, Src.Pick. -/
namespace Go.Proofs.Ytadjhfjiimgddaa
open Go.RowKit
def RowOf (w : World) (b o len : Nat) (Q : Value → Prop) : Prop := ∀ i, i < len → ∃ v, Q v ∧ w.cell? ⟨b, o + i, none⟩ = some v
theorem RowOf.only {w w' : World} {b o len bs : Nat} {Q : Value → Prop} (h : RowOf w b o len Q) (k : Only bs w w') (hb : b < w.heap.size) (hn : b ≠ bs) : RowOf w' b o len Q := fun i hi => by
 obtain ⟨v, hv, hc⟩ := h i hi
 exact ⟨v, hv, by rw [ocell1 k hb hn]; exact hc⟩
theorem RowOf.new {w : World} {n k : Nat} {c : Array Value} {t : TypeId} {fr : Nat × Nat} {Q : Value → Prop} (hn : n = w.heap.size) (hk : k = c.size) (h : ∀ v ∈ c, Q v) : RowOf (w.alloc (.cells c t fr)) n 0 k Q := fun i hi => by
 subst hn hk
 refine ⟨c[i], h _ (Array.getElem_mem hi), ?_⟩
 rw [cell_alloc_ite, if_neg (by omega), if_pos rfl]
 simp [hi]
def IntIs (P : Int → Prop) (v : Value) : Prop := ∃ n, P n ∧ v = .int .i64 n
def ArgInts (w : World) (a : Option Addr) (len cap : Nat) : Prop :=
 len ≤ cap ∧ cap ≤ maxLen ∧ (0 < len → ∃ b o, a = some ⟨b, o, none⟩ ∧ b < w.heap.size ∧ RowOf w b o len (IntIs I64))
def IsRow (k : IntKind) (w : World) (a : Option Addr) (len cap : Nat) (zs : List Int) : Prop :=
 (a = none ∧ len = 0 ∧ cap = 0 ∧ zs = []) ∨
 ∃ x, a = some x ∧ len ≤ cap ∧ cap ≤ maxLen ∧ zs.length = cap ∧ (∀ i, i < zs.length → w.cell? (x.add i) = some (.int k (zs.getD i 0))) ∧ ∀ n ∈ zs, (Lit.int k n).wf = true
theorem argInts_of {w : World} {a : Option Addr} {len cap : Nat} {zs : List Int} (h : IsRow .i64 w a len cap zs) : ArgInts w a len cap := by
 rcases h with ⟨rfl, rfl, rfl, _⟩ | ⟨x, rfl, h1, h2, h3, h4, h5⟩
 ·exact ⟨Nat.le_refl _, Nat.zero_le _, fun h => absurd h (by omega)⟩
 ·refine ⟨h1, h2, fun hp => ?_⟩
  obtain ⟨b, o, rfl, hc⟩ := ints_at h4 (by omega)
  refine ⟨b, o, rfl, ?_, fun i hi => ?_⟩
  ·rcases Nat.lt_or_ge b w.heap.size with h | h
   ·exact h
   ·exfalso
    have hc0 := hc 0 (by omega)
    simp only [World.cell?] at hc0
    rw [Array.getElem?_eq_none h] at hc0
    simp at hc0
  ·refine ⟨_, ⟨zs.getD i 0, ?_, rfl⟩, hc i (by omega)⟩
   have hm : zs.getD i 0 ∈ zs := by
    rw [List.getD_eq_getElem?_getD, List.getElem?_eq_getElem (by omega)]
    exact List.getElem_mem _
   exact bounds_i64 (h5 _ hm)
end Go.Proofs.Ytadjhfjiimgddaa

/- A slice of ints that came in stays one where no old block changes. -/
namespace Go.Proofs.Ytadjhfjiimgddaa
open Go.RowKit
theorem ArgInts.kept {w w' : World} {a : Option Addr} {len cap : Nat} (h : ArgInts w a len cap) (k : Kept w w') : ArgInts w' a len cap := by
 obtain ⟨h1, h2, h3⟩ := h
 refine ⟨h1, h2, fun hp => ?_⟩
 obtain ⟨b, o, e, hb, hr⟩ := h3 hp
 refine ⟨b, o, e, Nat.lt_of_lt_of_le hb k.size, fun i hi => ?_⟩
 obtain ⟨v, hv, hc⟩ := hr i hi
 exact ⟨v, hv, by rw [kcell1 k hb]; exact hc⟩
theorem RowOf.drew {w : World} {b o len : Nat} {Q : Value → Prop} (h : RowOf w b o len Q) : RowOf w.drew b o len Q := h
theorem ints_data {w : World} {a : Option Addr} {len cap : Nat} (h : ArgInts w a len cap) : ∃ (ns : List Int) (Im : Nat → Prop), (∀ n ∈ ns, InI n) ∧ (∀ b, Im b → b < w.heap.size) ∧ RelP Im w.heap (.sl (ns.map fun n => [di n])) (.slice a len cap) := by
 obtain ⟨h1, h2, h3⟩ := h
 rcases Nat.eq_zero_or_pos len with h0 | h0
 ·subst h0
  exact ⟨[], fun _ => False, fun n hn => (by cases hn), fun b hb => hb.elim, .sl0 a cap⟩
 ·obtain ⟨b, o, rfl, hb, hr⟩ := h3 h0
  have hv : ∀ i, i < len → ∃ n, I64 n ∧ hc w.heap b (o + i) = some (.int .i64 n) := fun i hi => by
   obtain ⟨v, ⟨n, hn, rfl⟩, hcell⟩ := hr i hi
   exact ⟨n, hn, by rw [← hc_cell]; exact hcell⟩
  let f : Nat → Int := fun i => match hc w.heap b (o + i) with
   | some (.int .i64 n) => n
   | _ => 0
  have hf : ∀ i, i < len → hc w.heap b (o + i) = some (.int .i64 (f i)) ∧ I64 (f i) := fun i hi => by
   obtain ⟨n, hn, e⟩ := hv i hi
   have : f i = n := by show (match hc w.heap b (o + i) with | some (.int .i64 n) => n | _ => 0) = n; rw [e]
   rw [this]
   exact ⟨e, hn⟩
  refine ⟨(List.range len).map f, fun b' => b' = b, fun n hn => ?_, fun b' hb' => by rw [hb']; exact hb, ?_⟩
  ·obtain ⟨i, hi, rfl⟩ := List.mem_map.1 hn
   exact (hf i (List.mem_range.1 hi)).2
  ·refine .sl1 _ b o len cap 1 (fun i _ => .int .i64 (f i)) (by simp) h1 (fun r hr => ?_) rfl (fun i j hi hj => ?_) (fun i j hi hj => ?_)
   ·obtain ⟨n, _, rfl⟩ := List.mem_map.1 hr
    rfl
   ·obtain rfl : j = 0 := by omega
    rw [show o + i * 1 + 0 = o + i by omega]
    exact ⟨(hf i hi).1, rfl⟩
   ·have hi' : i < len := by simpa using hi
    have e : ((((List.range len).map f).map fun n => [di n])[i]'hi) = [di (f i)] := by simp
    have hj' : j = 0 := by
     have : j < [di (f i)].length := by rw [← e]; exact hj
     simpa using this
    subst hj'
    have e2 : (((((List.range len).map f).map fun n => [di n])[i]'hi)[0]'hj) = di (f i) := by simp
    rw [e2]
    exact .v _
theorem kept_of {P : Program} {R : D → Hp → Prop} {Im Im' : Nat → Prop} {p p' : Pl} {w w' : World} {e : Ending} {v : D} {H' : Hp} {u : Value} {nn : Nm} (L : Left P Hp.none nn R Im p w e w' Im' p' v H' u) : Kept w w' := by
 have X := L.relE 0
 exact ⟨X.os, X.tape, X.output, X.size, fun b hb => X.block b hb fun ⟨i, e, hi, _⟩ => by cases hi⟩
theorem gl_none (Im : Nat → Prop) (h : Array Obj) : GlOk Im h := fun g f hg => by cases hg
def selN0 (ok : Net → List Bool → Prop) (out : Net → List Bool → D) : List D → Option (Prop × D)
 | [.agg a, .sl rows] => match netOf1 a, lsOf boolOf1 rows with
  | some n, some c => some (ok n c, out n c)
  | _, _ => Option.none
 | _ => Option.none
theorem tc_n0 {f : FuncId} {T : Tbl} {ok : Net → List Bool → Prop} {out : Net → List Bool → D} (hf : fnOk Try.prog f = true) (h : ∀ n c, ok n c → ∀ nn, CallsA Try.prog f [n.enc, .sl (c.map bRow)] Hp.none nn (Pu (out n c) Hp.none)) (hT : TblOk Try.prog T) : TblOk Try.prog (tc f (rowPu (selN0 ok out)) T) :=
 tc_pu hf (fun args pre d hs hp nn => by
  unfold selN0 at hs
  split at hs
  ·split at hs
   ·rename_i e1 e2
    cases hs
    rw [netOf1_eq e1, lsOf_eq (fun r x => boolOf1_eq) e2]
    exact h _ _ hp nn
   ·cases hs
  ·cases hs) hT
def selN1 (ok : Net → List Bool → Int → Prop) (out : Net → List Bool → Int → D) : List D → Option (Prop × D)
 | [.agg a, .sl rows, .v (.int .i64 k)] => match netOf1 a, lsOf boolOf1 rows with
  | some n, some c => some (ok n c k, out n c k)
  | _, _ => Option.none
 | _ => Option.none
theorem tc_n1 {f : FuncId} {T : Tbl} {ok : Net → List Bool → Int → Prop} {out : Net → List Bool → Int → D} (hf : fnOk Try.prog f = true) (h : ∀ n c k, ok n c k → ∀ nn, CallsA Try.prog f [n.enc, .sl (c.map bRow), di k] Hp.none nn (Pu (out n c k) Hp.none)) (hT : TblOk Try.prog T) : TblOk Try.prog (tc f (rowPu (selN1 ok out)) T) :=
 tc_pu hf (fun args pre d hs hp nn => by
  unfold selN1 at hs
  split at hs
  ·split at hs
   ·rename_i e1 e2
    cases hs
    rw [netOf1_eq e1, lsOf_eq (fun r x => boolOf1_eq) e2]
    exact h _ _ _ hp nn
   ·cases hs
  ·cases hs) hT
def selN2 (ok : Net → List Bool → Int → Int → Prop) (out : Net → List Bool → Int → Int → D) : List D → Option (Prop × D)
 | [.agg a, .sl rows, .v (.int .i64 k), .v (.int .i64 t)] => match netOf1 a, lsOf boolOf1 rows with
  | some n, some c => some (ok n c k t, out n c k t)
  | _, _ => Option.none
 | _ => Option.none
theorem tc_n2 {f : FuncId} {T : Tbl} {ok : Net → List Bool → Int → Int → Prop} {out : Net → List Bool → Int → Int → D} (hf : fnOk Try.prog f = true) (h : ∀ n c k t, ok n c k t → ∀ nn, CallsA Try.prog f [n.enc, .sl (c.map bRow), di k, di t] Hp.none nn (Pu (out n c k t) Hp.none)) (hT : TblOk Try.prog T) : TblOk Try.prog (tc f (rowPu (selN2 ok out)) T) :=
 tc_pu hf (fun args pre d hs hp nn => by
  unfold selN2 at hs
  split at hs
  ·split at hs
   ·rename_i e1 e2
    cases hs
    rw [netOf1_eq e1, lsOf_eq (fun r x => boolOf1_eq) e2]
    exact h _ _ _ _ hp nn
   ·cases hs
  ·cases hs) hT
def selLen : List D → Option (Prop × D)
 | [.agg a, .sl rows] => match netOf1 a, lsOf hopOf1 rows with
  | some n, some w => some (NetSz n ∧ w.length ≤ 1000, .tup [di (lenR n w).1, di (lenR n w).2])
  | _, _ => Option.none
 | _ => Option.none
theorem tc_len {T : Tbl} (hT : TblOk Try.prog T) : TblOk Try.prog (tc 59 (rowPu selLen) T) :=
 tc_pu f59_ok (fun args pre d hs hp nn => by
  unfold selLen at hs
  split at hs
  ·split at hs
   ·rename_i e1 e2
    cases hs
    rw [netOf1_eq e1, lsOf_eq (fun r x => hopOf1_eq) e2]
    exact Length_c _ hp.1 _ hp.2 nn
   ·cases hs
  ·cases hs) hT
def selSm : List D → Option (Prop × D)
 | [.sl r, .sl s] => match lsOf hopOf1 r, lsOf hopOf1 s with
  | some a, some b => some (a.length ≤ 1000000 ∧ b.length ≤ 1000000, db (decide (a = b)))
  | _, _ => Option.none
 | _ => Option.none
theorem tc_sm {T : Tbl} (hT : TblOk Try.prog T) : TblOk Try.prog (tc 57 (rowPu selSm) T) :=
 tc_pu f57_ok (fun args pre d hs hp nn => by
  unfold selSm at hs
  split at hs
  ·split at hs
   ·rename_i e1 e2
    cases hs
    rw [lsOf_eq (fun r x => hopOf1_eq) e1, lsOf_eq (fun r x => hopOf1_eq) e2]
    exact SameH_c _ _ hp nn
   ·cases hs
  ·cases hs) hT
def selClo : List D → Option (Prop × (List Bool → Prop))
 | [.agg r] => match netOf1 r with
  | some n => some (n.segs.length ≤ 1000, ClPost n)
  | Option.none => Option.none
 | _ => Option.none
theorem tc_clo {T : Tbl} (hT : TblOk Try.prog T) : TblOk Try.prog (tc 50 (rowSrc selClo (fun c => .sl (c.map bRow))) T) :=
 tc_src f50_ok (fun args pre post h hp => by
  unfold selClo at h
  split at h
  ·split at h
   ·rename_i n e1
    cases h
    rw [netOf1_eq e1]
    exact ⟨⟨List.replicate n.segs.length false, by unfold ClPost; simp⟩, closed_c n hp⟩
   ·cases h
  ·cases h) hT
structure WyPre (n : Net) (c : List Bool) (a t : Int) : Prop where
 v : RtV n c
 a : 0 ≤ a ∧ a < n.nodes.length
 t : 0 ≤ t ∧ t < n.nodes.length
structure CuPre (n : Net) (c : List Bool) (k : Int) : Prop where
 v : RtV n c
 k : 0 ≤ k ∧ k < n.segs.length
def TRa : Tbl := tc 51 (rowPu (selN2 WyPre fun n c a t => wayD n c a.toNat t.toNat)) (tc 59 (rowPu selLen) (tc 55 (rowPu (selN1 CuPre fun n c k => .tup [db (cutB n c k.toNat), di 0])) (tc 57 (rowPu selSm) T0)))
theorem tc_way {T : Tbl} (hT : TblOk Try.prog T) : TblOk Try.prog (tc 51 (rowPu (selN2 WyPre fun n c a t => wayD n c a.toNat t.toNat)) T) := tc_n2 f51_ok (fun n c a t h nn => by
 have := way_c n c h.v a.toNat t.toNat (by have := h.a; omega) (by have := h.t; omega) nn
 rw [show ((a.toNat : Nat) : Int) = a by have := h.a; omega, show ((t.toNat : Nat) : Int) = t by have := h.t; omega] at this
 exact this) hT
theorem tc_cut {T : Tbl} (hT : TblOk Try.prog T) : TblOk Try.prog (tc 55 (rowPu (selN1 CuPre fun n c k => .tup [db (cutB n c k.toNat), di 0])) T) := tc_n1 f55_ok (fun n c k h nn => by
 have := Cuts_c n c h.v k.toNat (by have := h.k; omega) nn
 rw [show ((k.toNat : Nat) : Int) = k by have := h.k; omega] at this
 exact this) hT
theorem TRa_ok : TblOk Try.prog TRa := tc_way (tc_len (tc_cut (tc_sm (T0_ok _))))
def selEx : List D → Option (Prop × D)
 | [] => some (True, exN.enc)
 | _ => Option.none
def TRb : Tbl := tc 104 (rowPu selEx) TRa
theorem TRb_ok : TblOk Try.prog TRb := tc_pu f104_ok (fun args pre d h hp nn => by
 unfold selEx at h
 split at h
 ·cases h; exact exN_c nn
 ·cases h) TRa_ok
set_option maxHeartbeats 4000000 in
theorem awake13_c (nn : Nm) : CallsA Try.prog 49 [] Hp.none nn (Pu (db true) Hp.none) := by
 obtain ⟨code, h1, h2⟩ := c49_ok
 refine callsA_of TRb_ok mixed (N := fun t => (0, t)) Try.func49 h1 h2 r49_ok [] false js_nil js_nil' (by simp [Try.f49]) ?_
 have hn : ∀ n : Net, netOf1 [D.sl (n.nodes.map nmRow), .sl (n.segs.map Seg.row), .sl (n.ports.map Port.row), .sl (n.sts.map Stn.row), di n.vap, di n.set] = some n := netOf1_row
 have he : selEx [] = some (True, .agg (netD exN)) := rfl
 have hw := exN_way
 have hl := exN_len
 have hc := exN_cut
 have p1 : WyPre exN [true, false, false] 0 2 := ⟨⟨exN_sz, exN_ck, rfl⟩, by decide, by decide⟩
 have p2 : CuPre exN [false, false, false] 2 := ⟨⟨exN_sz, exN_ck, rfl⟩, by decide⟩
 have p3 := exN_sz
 have b1 : lsOf boolOf1 [[db true], [db false], [db false]] = some [true, false, false] := rfl
 have b2 : lsOf boolOf1 [[db false], [db false], [db false]] = some [false, false, false] := rfl
 have b3 : lsOf hopOf1 [[di 1, db false], [di 2, db true]] = some [(1, false), (2, true)] := rfl
 generalize exN = n at hn he hw hl hc p1 p2 p3
 simp (maxSteps:=500000) only [↓vp, vv, ↓reduceIte, simprocAttr, c49, r49, r49, TRb, TRa, netD, selN2, selN1, selLen, selSm, he, hn, hw, hl, hc, p1, p2, p3, b1, b2, b3, hRow, List.map_cons, List.map_nil, Pu]
end Go.Proofs.Ytadjhfjiimgddaa

/- Networks, plans and lists that came in: what a program's reader reads of them is data. -/
namespace Go.Proofs.Ytadjhfjiimgddaa
open Go Go.ChangeShapes Go.WideShapes Go.Deep
def ImW (w : World) : Nat → Prop := fun b => b < w.heap.size
def RW (w : World) (d : D) (u : Value) : Prop := one u = true ∧ RelP (ImW w) w.heap d u
def RWs (w : World) (ds : List D) (us : List Value) : Prop := ∀ (j : Nat) (d : D) (u : Value), ds[j]? = some d → us[j]? = some u → RW w d u
theorem RWs.nil {w : World} {us : List Value} : RWs w [] us := fun j d u hd => by simp at hd
theorem RWs.cons {w : World} {d : D} {u : Value} {ds : List D} {us : List Value} (h : RW w d u) (t : RWs w ds us) : RWs w (d :: ds) (u :: us) := fun j d' u' hd hu => by
 cases j with
 | zero => simp at hd hu; subst hd hu; exact h
 | succ j => exact t j d' u' (by simpa using hd) (by simpa using hu)
theorem RW.v {w : World} {u : Value} (h : one u = true) : RW w (.v u) u := ⟨h, .v u⟩
def Arg (w : World) (d : D) (v : Value) : Prop := ∀ p : Pl, Rel (ImW w) p Hp.none w.heap d v
theorem RW.arg {w : World} {d : D} {u : Value} (h : RW w d u) : Arg w d u := fun _ => .p h.2
theorem list_of {α : Type} {Q : Nat → α → Prop} : ∀ n : Nat, (∀ i, i < n → ∃ a, Q i a) → ∃ l : List α, l.length = n ∧ ∀ i a, l[i]? = some a → Q i a
 | 0, _ => ⟨[], rfl, fun i a h => by simp at h⟩
 | n + 1, h => by
  obtain ⟨l, hl, hq⟩ := list_of n fun i hi => h i (by omega)
  obtain ⟨a, ha⟩ := h n (by omega)
  refine ⟨l ++ [a], by simp [hl], fun i b hb => ?_⟩
  rcases Nat.lt_or_ge i n with hi | hi
  ·rw [List.getElem?_append_left (by omega)] at hb
   exact hq i b hb
  ·rw [List.getElem?_append_right (by omega)] at hb
   have : i - l.length = 0 := by
    rcases Nat.eq_zero_or_pos (i - l.length) with h | h
    ·exact h
    ·rw [List.getElem?_eq_none (by simp; omega)] at hb; cases hb
   rw [this] at hb
   obtain rfl : a = b := by simpa using hb
   obtain rfl : i = n := by omega
   exact ha
theorem cell_at {w : World} {a : Addr} {v : Value} (h : w.cell? a = some v) : a.spot = none ∧ a.block < w.heap.size := by
 unfold World.cell? at h
 split at h
 ·rename_i hb
  split at h
  ·cases h
  ·rename_i hs
   exact ⟨by simpa using hs, (Array.getElem?_eq_some_iff.1 hb).1⟩
 ·cases h
section
variable {H : Type} {enc : TypeId × Value → H} {P : Program} {w : World} {base : Nat} {spare : Nat → Bool} {held : Bool}
theorem cells_get {a : Addr} {n : Nat} {us : List Value} (h : w.cells? base a n = some us) : us.length = n ∧ ∀ i, i < n → w.cell? (a.add i) = us[i]? := by
 unfold World.cells? at h
 split at h
 ·exact ⟨by simpa using mapM_some_length h, fun i hi => mapM_some_get h i i (by simp [hi])⟩
 ·cases h
theorem dec_fields {t : TypeId} {fs : Array Field} {fuel : Nat} {cs : List Value} {x : DataW H × List MemPlace} (hs : P.underlying t = some (.struct fs)) (hone : oneCellFields P fs = true) (h : DataW.trod enc P w base spare held fuel t cs = some x) :
  cs.length = P.cellsOf t ∧ ∃ n, ∀ (j : Nat) (f : Field) (u : Value), fs[j]? = some f → cs[j]? = some u → ∃ y, DataW.trod enc P w base spare held n f.type [u] = some y := by
 obtain ⟨xs, n, _, _, hl, hx, hg⟩ := DataW.trod_struct hs h
 refine ⟨hl, n, fun j f u hj hu => ?_⟩
 obtain ⟨o, k⟩ := hone_of hone j f hj
 have hjl : j < fs.size := (Array.getElem?_eq_some_iff.1 hj).1
 have h1 := hg j f hj
 rw [o, k] at h1
 have hcs : (cs.drop j).take 1 = [u] := by
  obtain ⟨hjv, rfl⟩ := List.getElem?_eq_some_iff.1 hu
  rw [List.drop_eq_getElem_cons hjv]
  rfl
 refine ⟨xs[j]'(by omega), ?_⟩
 rw [← hcs, ← List.getElem?_eq_getElem]
 exact h1
def Dec (enc : TypeId × Value → H) (P : Program) (w : World) (base : Nat) (spare : Nat → Bool) (held : Bool) {α : Type} (e : TypeId) (row : α → List D) (sz : Nat) : Prop :=
 ∀ (n : Nat) (us : List Value) (y : DataW H × List MemPlace), DataW.trod enc P w base spare held n e us = some y → ∃ a : α, us.length = sz ∧ (row a).length = sz ∧ RWs w (row a) us
theorem dec_slice {α : Type} {row : α → List D} {sz : Nat} {t e : TypeId} (ht : P.underlying t = some (.slice e)) (hsz : P.cellsOf e = sz) (h0 : 0 < sz) (hel : Dec enc P w base spare held e row sz) : Dec enc P w base spare held t (fun l : List α => [D.sl (l.map row)]) 1 := by
 intro fuel cs x h
 rcases DataW.trod_slice ht h with ⟨rfl, _⟩ | ⟨a, len, cap, elems, rest, n, _, rfl, _, hb, hl, hm, hlen, hget, _, _⟩
 ·exact ⟨[], rfl, rfl, .cons ⟨rfl, .sl0 none 0⟩ .nil⟩
 rcases Nat.eq_zero_or_pos len with z | hp
 ·subst z
  exact ⟨[], rfl, rfl, .cons ⟨rfl, .sl0 _ _⟩ .nil⟩
 have each : ∀ i, i < len → ∃ a' : α, ∃ us : List Value, us.length = sz ∧ (∀ j, j < sz → w.cell? ((a.add (i * sz)).add j) = us[j]?) ∧ (row a').length = sz ∧ RWs w (row a') us := by
  intro i hi
  have h1 := hget i hi
  rw [List.getElem?_eq_getElem (by omega), Option.bind_eq_some_iff] at h1
  obtain ⟨us, hc, ht'⟩ := h1
  rw [hsz] at hc
  obtain ⟨c1, c2⟩ := cells_get hc
  obtain ⟨a', e1, e2, e3⟩ := hel _ _ _ ht'
  exact ⟨a', us, c1, c2, e2, e3⟩
 obtain ⟨hs, hbl⟩ : a.spot = none ∧ a.block < w.heap.size := by
  obtain ⟨_, us, u1, u2, _, _⟩ := each 0 hp
  have := u2 0 h0
  rw [List.getElem?_eq_getElem (by omega)] at this
  have k := cell_at this
  simpa [Addr.add] using k
 obtain ⟨b, o, s⟩ := a
 dsimp only at hs hbl
 subst hs
 obtain ⟨l, hll, hq⟩ := list_of len each
 have hat : ∀ i j, w.cell? (((⟨b, o, none⟩ : Addr).add (i * sz)).add j) = hc w.heap b (o + i * sz + j) := fun i j => by
  have e : (((⟨b, o, none⟩ : Addr).add (i * sz)).add j) = ⟨b, o + i * sz + j, none⟩ := by
   unfold Addr.add
   by_cases h1 : j = 0 <;> by_cases h2 : i * sz = 0 <;> simp only [h1, h2, if_true, if_false, Nat.add_zero]
  rw [← hc_cell, e]
 refine ⟨l, rfl, rfl, .cons ⟨rfl, .sl1 (l.map row) b o len cap sz (fun i j => (hc w.heap b (o + i * sz + j)).getD (.bool false)) (by simp [hll]) hl (fun r hr => ?_) hbl (fun i j hi hj => ?_) (fun i j hi hj => ?_)⟩ .nil⟩
 ·obtain ⟨a', ha, rfl⟩ := List.mem_map.1 hr
  obtain ⟨i, hi⟩ := List.getElem?_of_mem ha
  obtain ⟨_, _, _, h3, _⟩ := hq i a' hi
  exact h3
 ·obtain ⟨us, u1, u2, u3, u4⟩ := hq i l[i] (List.getElem?_eq_getElem (by omega))
  have h1 := u2 j hj
  rw [hat, List.getElem?_eq_getElem (by omega)] at h1
  have h2 := u4 j _ _ (List.getElem?_eq_getElem (by omega)) (List.getElem?_eq_getElem (by omega : j < us.length))
  rw [h1]
  exact ⟨rfl, h2.1⟩
 ·have hi' : i < l.length := by simpa using hi
  obtain ⟨us, u1, u2, u3, u4⟩ := hq i l[i] (List.getElem?_eq_getElem (by omega))
  have e : ((l.map row)[i]'hi) = row l[i] := by simp
  have hj' : j < (row l[i]).length := by rw [← e]; exact hj
  have h1 := u2 j (by omega)
  rw [hat, List.getElem?_eq_getElem (by omega)] at h1
  have h2 := u4 j _ _ (List.getElem?_eq_getElem hj') (List.getElem?_eq_getElem (by omega : j < us.length))
  rw [h1]
  have e2 : (((l.map row)[i]'hi)[j]'hj) = (row l[i])[j] := by simp
  rw [e2]
  exact h2.2
theorem dec_arg {α : Type} {row : α → List D} {sz : Nat} {t : TypeId} {v : Value} {d : DataW H} {p : List MemPlace} (hel : Dec enc P w base spare held t row sz) {cs : Array Value} (hv : v = .agg cs) (h : DataW.Trod enc P w base spare held t v d p) : ∃ a : α, Arg w (.agg (row a)) v := by
 subst hv
 obtain ⟨fuel, hf⟩ := h
 obtain ⟨a, h1, h2, h3⟩ := hel _ _ _ hf
 have hc : (Value.agg cs).cells.toList = cs.toList := rfl
 rw [hc] at h1 h3
 refine ⟨a, fun p => .agg _ _ (by rw [h2, ← h1]; simp) (fun j u hu => ?_) (fun j d u hd hu => ?_)⟩
 ·have hj : j < (row a).length := by
   have := (Array.getElem?_eq_some_iff.1 hu).1
   rw [h2, ← h1]
   simpa using this
  exact (h3 j _ u (List.getElem?_eq_getElem hj) (by simpa using hu)).1
 ·exact .p (h3 j d u hd (by simpa using hu)).2
theorem dec_arg1 {α : Type} {row : α → D} {t : TypeId} {v : Value} {d : DataW H} {p : List MemPlace} (hel : Dec enc P w base spare held t (fun a => [row a]) 1) (hv : v.cells.toList = [v]) (h : DataW.Trod enc P w base spare held t v d p) : ∃ a : α, Arg w (row a) v := by
 obtain ⟨fuel, hf⟩ := h
 obtain ⟨a, h1, h2, h3⟩ := hel _ _ _ hf
 rw [hv] at h3
 exact ⟨a, (h3 0 _ _ rfl rfl).arg⟩
end
section
variable {H : Type} {enc : TypeId × Value → H} {w : World} {base : Nat} {spare : Nat → Bool} {held : Bool}
theorem dec_int : Dec enc Try.prog w base spare held 3 iRow 1 := fun n us y h => by
 obtain ⟨k, rfl, _, _⟩ := DataW.trod_int Try.underlying3 h
 exact ⟨k, rfl, rfl, .cons (.v rfl) .nil⟩
theorem dec_bool : Dec enc Try.prog w base spare held 4 bRow 1 := fun n us y h => by
 obtain ⟨k, rfl, _⟩ := DataW.trod_bool Try.underlying4 h
 exact ⟨k, rfl, rfl, .cons (.v rfl) .nil⟩
theorem dec_str : Dec enc Try.prog w base spare held 9 nmRow 1 := fun n us y h => by
 obtain ⟨k, rfl, _, _⟩ := DataW.trod_string Try.underlying9 h
 exact ⟨k, rfl, rfl, .cons (.v rfl) .nil⟩
theorem dec_bools : Dec enc Try.prog w base spare held 62 (fun l : List Bool => [D.sl (l.map bRow)]) 1 := dec_slice Try.underlying62 (by kernel_rfl) (by omega) dec_bool
theorem dec_strs : Dec enc Try.prog w base spare held 41 (fun l : List ByteArray => [D.sl (l.map nmRow)]) 1 := dec_slice Try.underlying41 (by kernel_rfl) (by omega) dec_str
theorem lst2 {α : Type} {l : List α} (h : l.length = 2) : ∃ a b, l = [a, b] := match l, h with | [a, b], _ => ⟨a, b, rfl⟩
theorem lst3 {α : Type} {l : List α} (h : l.length = 3) : ∃ a b c, l = [a, b, c] := match l, h with | [a, b, c], _ => ⟨a, b, c, rfl⟩
theorem lst5 {α : Type} {l : List α} (h : l.length = 5) : ∃ a b c d e, l = [a, b, c, d, e] := match l, h with | [a, b, c, d, e], _ => ⟨a, b, c, d, e, rfl⟩
theorem lst6 {α : Type} {l : List α} (h : l.length = 6) : ∃ a b c d e f, l = [a, b, c, d, e, f] := match l, h with | [a, b, c, d, e, f], _ => ⟨a, b, c, d, e, f, rfl⟩
theorem lst7 {α : Type} {l : List α} (h : l.length = 7) : ∃ a b c d e f g, l = [a, b, c, d, e, f, g] := match l, h with | [a, b, c, d, e, f, g], _ => ⟨a, b, c, d, e, f, g, rfl⟩
theorem rw_int {n : Nat} {u : Value} {y : DataW H × List MemPlace} (h : DataW.trod enc Try.prog w base spare held n 3 [u] = some y) : ∃ k, RW w (di k) u := by
 obtain ⟨k, _, _, r⟩ := dec_int n [u] y h
 exact ⟨k, r 0 _ _ rfl rfl⟩
theorem rw_str {n : Nat} {u : Value} {y : DataW H × List MemPlace} (h : DataW.trod enc Try.prog w base spare held n 9 [u] = some y) : ∃ k, RW w (ds k) u := by
 obtain ⟨k, _, _, r⟩ := dec_str n [u] y h
 exact ⟨k, r 0 _ _ rfl rfl⟩
theorem rw_sl {α : Type} {row : α → List D} {t : TypeId} (hd : Dec enc Try.prog w base spare held t (fun l : List α => [D.sl (l.map row)]) 1) {n : Nat} {u : Value} {y : DataW H × List MemPlace} (h : DataW.trod enc Try.prog w base spare held n t [u] = some y) : ∃ l : List α, RW w (.sl (l.map row)) u := by
 obtain ⟨k, _, _, r⟩ := hd n [u] y h
 exact ⟨k, r 0 _ _ rfl rfl⟩
theorem dec_pt : Dec enc Try.prog w base spare held 117 Pt.row 3 := fun n us y h => by
 obtain ⟨hl, m, hf⟩ := dec_fields Try.underlying117 (by kernel_rfl) h
 rw [show Try.prog.cellsOf 117 = 3 by kernel_rfl] at hl
 obtain ⟨u0, u1, u2, rfl⟩ := lst3 hl
 obtain ⟨_, q0⟩ := hf 0 _ u0 rfl rfl
 obtain ⟨_, q1⟩ := hf 1 _ u1 rfl rfl
 obtain ⟨_, q2⟩ := hf 2 _ u2 rfl rfl
 obtain ⟨k0, r0⟩ := rw_int q0
 obtain ⟨k1, r1⟩ := rw_int q1
 obtain ⟨k2, r2⟩ := rw_int q2
 exact ⟨⟨k0, k1, k2⟩, rfl, rfl, .cons r0 (.cons r1 (.cons r2 .nil))⟩
theorem dec_pts : Dec enc Try.prog w base spare held 51 (fun l : List Pt => [D.sl (l.map Pt.row)]) 1 := dec_slice Try.underlying51 (by kernel_rfl) (by omega) dec_pt
theorem dec_seg : Dec enc Try.prog w base spare held 53 Seg.row 7 := fun n us y h => by
 obtain ⟨hl, m, hf⟩ := dec_fields Try.underlying53 (by kernel_rfl) h
 rw [show Try.prog.cellsOf 53 = 7 by kernel_rfl] at hl
 obtain ⟨u0, u1, u2, u3, u4, u5, u6, rfl⟩ := lst7 hl
 obtain ⟨_, q0⟩ := hf 0 _ u0 rfl rfl
 obtain ⟨_, q1⟩ := hf 1 _ u1 rfl rfl
 obtain ⟨_, q2⟩ := hf 2 _ u2 rfl rfl
 obtain ⟨_, q3⟩ := hf 3 _ u3 rfl rfl
 obtain ⟨_, q4⟩ := hf 4 _ u4 rfl rfl
 obtain ⟨_, q5⟩ := hf 5 _ u5 rfl rfl
 obtain ⟨_, q6⟩ := hf 6 _ u6 rfl rfl
 obtain ⟨k0, r0⟩ := rw_str q0
 obtain ⟨k1, r1⟩ := rw_int q1
 obtain ⟨k2, r2⟩ := rw_int q2
 obtain ⟨k3, r3⟩ := rw_int q3
 obtain ⟨k4, r4⟩ := rw_int q4
 obtain ⟨k5, r5⟩ := rw_int q5
 obtain ⟨k6, r6⟩ := rw_sl dec_pts q6
 exact ⟨⟨k0, k1, k2, k3, k4, k5, k6⟩, rfl, rfl, .cons r0 (.cons r1 (.cons r2 (.cons r3 (.cons r4 (.cons r5 (.cons r6 .nil))))))⟩
theorem dec_port : Dec enc Try.prog w base spare held 119 Port.row 3 := fun n us y h => by
 obtain ⟨hl, m, hf⟩ := dec_fields Try.underlying119 (by kernel_rfl) h
 rw [show Try.prog.cellsOf 119 = 3 by kernel_rfl] at hl
 obtain ⟨u0, u1, u2, rfl⟩ := lst3 hl
 obtain ⟨_, q0⟩ := hf 0 _ u0 rfl rfl
 obtain ⟨_, q1⟩ := hf 1 _ u1 rfl rfl
 obtain ⟨_, q2⟩ := hf 2 _ u2 rfl rfl
 obtain ⟨k0, r0⟩ := rw_str q0
 obtain ⟨k1, r1⟩ := rw_int q1
 obtain ⟨k2, r2⟩ := rw_int q2
 exact ⟨⟨k0, k1, k2⟩, rfl, rfl, .cons r0 (.cons r1 (.cons r2 .nil))⟩
theorem dec_stn : Dec enc Try.prog w base spare held 134 Stn.row 5 := fun n us y h => by
 obtain ⟨hl, m, hf⟩ := dec_fields Try.underlying134 (by kernel_rfl) h
 rw [show Try.prog.cellsOf 134 = 5 by kernel_rfl] at hl
 obtain ⟨u0, u1, u2, u3, u4, rfl⟩ := lst5 hl
 obtain ⟨_, q0⟩ := hf 0 _ u0 rfl rfl
 obtain ⟨_, q1⟩ := hf 1 _ u1 rfl rfl
 obtain ⟨_, q2⟩ := hf 2 _ u2 rfl rfl
 obtain ⟨_, q3⟩ := hf 3 _ u3 rfl rfl
 obtain ⟨_, q4⟩ := hf 4 _ u4 rfl rfl
 obtain ⟨k0, r0⟩ := rw_str q0
 obtain ⟨k1, r1⟩ := rw_int q1
 obtain ⟨k2, r2⟩ := rw_int q2
 obtain ⟨k3, r3⟩ := rw_int q3
 obtain ⟨k4, r4⟩ := rw_int q4
 exact ⟨⟨k0, k1, k2, k3, k4⟩, rfl, rfl, .cons r0 (.cons r1 (.cons r2 (.cons r3 (.cons r4 .nil))))⟩
theorem dec_net : Dec enc Try.prog w base spare held 46 netD 6 := fun n us y h => by
 obtain ⟨hl, m, hf⟩ := dec_fields Try.underlying46 (by kernel_rfl) h
 rw [show Try.prog.cellsOf 46 = 6 by kernel_rfl] at hl
 obtain ⟨u0, u1, u2, u3, u4, u5, rfl⟩ := lst6 hl
 obtain ⟨_, q0⟩ := hf 0 _ u0 rfl rfl
 obtain ⟨_, q1⟩ := hf 1 _ u1 rfl rfl
 obtain ⟨_, q2⟩ := hf 2 _ u2 rfl rfl
 obtain ⟨_, q3⟩ := hf 3 _ u3 rfl rfl
 obtain ⟨_, q4⟩ := hf 4 _ u4 rfl rfl
 obtain ⟨_, q5⟩ := hf 5 _ u5 rfl rfl
 obtain ⟨k0, r0⟩ := rw_sl dec_strs q0
 obtain ⟨k1, r1⟩ := rw_sl (dec_slice Try.underlying42 (by kernel_rfl) (by omega) dec_seg) q1
 obtain ⟨k2, r2⟩ := rw_sl (dec_slice Try.underlying43 (by kernel_rfl) (by omega) dec_port) q2
 obtain ⟨k3, r3⟩ := rw_sl (dec_slice Try.underlying44 (by kernel_rfl) (by omega) dec_stn) q3
 obtain ⟨k4, r4⟩ := rw_int q4
 obtain ⟨k5, r5⟩ := rw_int q5
 exact ⟨⟨k0, k1, k2, k3, k4, k5⟩, rfl, rfl, .cons r0 (.cons r1 (.cons r2 (.cons r3 (.cons r4 (.cons r5 .nil)))))⟩
end
def Args (w : World) (ds : List D) (us : List Value) : Prop := ds.length = us.length ∧ ∀ (j : Nat) (d : D) (u : Value), ds[j]? = some d → us[j]? = some u → Arg w d u
theorem Args.nil {w : World} : Args w [] [] := ⟨rfl, fun j d u hd => by simp at hd⟩
theorem Args.cons {w : World} {d : D} {u : Value} {ds : List D} {us : List Value} (h : Arg w d u) (t : Args w ds us) : Args w (d :: ds) (u :: us) := ⟨by simp [t.1], fun j d' u' hd hu => by
 cases j with
 | zero => simp at hd hu; subst hd hu; exact h
 | succ j => exact t.2 j d' u' (by simpa using hd) (by simpa using hu)⟩
theorem Arg.v {w : World} (u : Value) : Arg w (.v u) u := fun _ => .p (.v u)
theorem arg_ints {w : World} {a : Option Addr} {len cap : Nat} (h : ArgInts w a len cap) : ∃ ns : List Int, (∀ n ∈ ns, InI n) ∧ Arg w (.sl (ns.map fun n => [di n])) (.slice a len cap) := by
 obtain ⟨ns, Im, h1, h2, h3⟩ := ints_data h
 exact ⟨ns, h1, fun _ => .p (h3.mono h2 fun b _ => rfl)⟩
theorem law_anyG {f : FuncId} {w : World} {ds : List D} {us : List Value} (hg : GlOk (ImW w) w.heap) (ha : Args w ds us) (hc : CallsA Try.prog f ds Hp.none (0, 0) (Pu (db true) Hp.none)) : Calls Try.prog f us.toArray w (Ret (.bool true) w) := by
 refine (hc w (ImW w) (fun _ => (0, 0)) us.toArray (by simpa using ha.1) (fun j d u hd hu => ?_) ⟨fun i e hi => (by cases hi), fun i j e e' hi => (by cases hi), fun b hb => hb⟩ (fun k _ => rfl) hg).mono ?_
 ·exact ha.2 j d u hd (by simpa using hu) _
 ·rintro e w' ⟨Im', p', v, H', u, L⟩
  obtain ⟨rfl, rfl⟩ := L.post
  have := rel_v L.rel
  subst this
  exact ⟨L.end_, kept_of L⟩
theorem law_any {f : FuncId} {w : World} {ds : List D} {us : List Value} (ha : Args w ds us) (hc : CallsA Try.prog f ds Hp.none (0, 0) (Pu (db true) Hp.none)) : Calls Try.prog f us.toArray w (Ret (.bool true) w) := law_anyG (gl_none _ _) ha hc
theorem hp_at (i : Nm) (e : En) (l : List (Nm × En)) (j : Nm) : hp ((i, e) :: l) j = if j = i then some e else hp l j := by rw [hp_cons]; rfl
theorem hp_no (j : Nm) : hp [] j = Option.none := rfl
theorem weak_restr {J : List Nm} {F : Fr} {H : Hp} (js : List Nm) (h2 : ∀ t, (F t).refsIn js = true) (h3 : ClosedH H js js) (h4 : ∀ i ∈ J, i ∈ js) : Weak J ⟨F, H⟩ ⟨F, H.restr js⟩ := by
 intro E hE Im p a w hR
 refine ⟨Im, p, hR.sz, fun t => (hR.fr t).restr (h2 t), hR.hp.restr h3, hR.en.restr js, ⟨hR.gr.im, hR.gr.blk, fun i e hi => ?_⟩, hR.df⟩
 dsimp only
 rw [restr_in (h4 i (hE i e hi))]
 exact hR.gr.ids i e hi
def frzP (ks : List Nm) (H : Hp) : Hp := fun i => (H.kills ks i).map (frzRows ks H)
theorem frzP_at (ks : List Nm) (H : Hp) (i : Nm) : frzP ks H i = (H.kills ks i).map (frzRows ks H) := rfl
theorem frzP_eq (ks : List Nm) (h : List (Nm × En)) : hp (frzH ks (hp h) (killsL h ks)) = frzP ks (hp h) := by
 funext i
 rw [frzP_at, ← killsL_eq]
 exact frzH_at ks (hp h) i _
theorem weak_fz {J : List Nm} (ks js : List Nm) {l l' : List (Nat × D)} {h : List (Nm × En)} {H' : Hp} (c1 : listB (fun q => okKd ks (hp h) q.2) l = true) (c2 : listB (fun q => listB (fun r => listB (okK ks (hp h)) r) q.2.rows) h = true) (c3 : frzF ks (hp h) l = l')
  (c4 : (frzP ks (hp h)).restr js = H') (c5 : refsF js l' = true) (c6 : ClosedH (frzP ks (hp h)) js js) (c7 : ∀ i ∈ J, i ∈ js) : Weak J ⟨fr l, hp h⟩ ⟨fr l', H'⟩ := by
 have w := freeze_weak J ks ⟨false, l, h⟩
 have e1 : (⟨false, l, h⟩ : SL).st = ⟨fr l, hp h⟩ := by simp only [SL.st, frB_fr]
 have e2 : (freeze ks ⟨false, l, h⟩).st = ⟨fr l', frzP ks (hp h)⟩ := by
  unfold freeze
  dsimp only
  rw [c1, c2]
  simp only [Bool.and_self, cond_true, SL.st, frB_fr, c3, frzP_eq]
 rw [e1, e2] at w
 refine w.trans ?_
 rw [← c4]
 exact weak_restr js (fun t => refsF_at c5 t) c6 c7
theorem listB_m {α β : Type} (p : β → Bool) (f : α → β) (h : ∀ x, p (f x) = true) : ∀ l : List α, listB p (l.map f) = true
 | [] => rfl
 | x :: l => by rw [List.map_cons, listB, h x, listB_m p f h l]; rfl
def rowV (r : List D) : Bool := r.all fun d => match d with | .v _ => true | .sl _ => true | _ => false
theorem rowV_ok {r : List D} (h : rowV r = true) (ks : List Nm) (H : Hp) : listB D.plain r = true ∧ listB (okK ks H) r = true ∧ r.map (lendK ks H) = r := by
 induction r with
 | nil => exact ⟨rfl, rfl, rfl⟩
 | cons d r ih =>
  unfold rowV at h
  rw [List.all_cons, Bool.and_eq_true] at h
  obtain ⟨a, b, c⟩ := ih h.2
  cases d with
  | v x => exact ⟨by rw [listB, a]; rfl, by rw [listB, b]; rfl, by rw [List.map_cons, c]; rfl⟩
  | sl x => exact ⟨by rw [listB, a]; rfl, by rw [listB, b]; rfl, by rw [List.map_cons, c]; rfl⟩
  | _ => cases h.1
theorem rows_pl {α : Type} (f : α → List D) (h : ∀ x, rowV (f x) = true) (l : List α) : listB (fun r => listB D.plain r) (l.map f) = true := listB_m _ _ (fun x => (rowV_ok (h x) [] Hp.none).1) l
theorem rows_ok {α : Type} (f : α → List D) (h : ∀ x, rowV (f x) = true) (ks : List Nm) (H : Hp) (l : List α) : listB (fun r => listB (okK ks H) r) (l.map f) = true := listB_m _ _ (fun x => (rowV_ok (h x) ks H).2.1) l
theorem frzRows_at (ks : List Nm) (H : Hp) (g sz : Nat) (rows : List (List D)) : frzRows ks H ⟨g, sz, rows⟩ = ⟨g, sz, rows.map fun r => r.map (lendK ks H)⟩ := rfl
def vz := And.intro @hp_at (And.intro @hp_no (And.intro @frzP_at @frzRows_at))
end Go.Proofs.Ytadjhfjiimgddaa
