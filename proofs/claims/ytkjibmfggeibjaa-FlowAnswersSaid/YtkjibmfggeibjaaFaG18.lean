/- FlowAnswers: Hints AwF FlP FaW CodeFT Base Src Args Bridge FtT. -/
import Derived.Test.YtkjibmfggeibjaaFaG17
import Derived.Test.YtkjibmfggeibjaaFaG4
import Derived.Test.YtkjibmfggeibjaaFaG16
import Derived.Test.YtkjibmfggeibjaaFaG13
import Derived.Test.YtkjibmfggeibjaaFaG15
import Derived.Test.YtkjibmfggeibjaaFaG3
import Derived.Test.YtkjibmfggeibjaaProg
import Derived.WalkKit
import Derived.WalkSpells
import Derived.WalkLawsBesides
import Derived.Deep.QuietTactic
import Derived.BigQuiet
import Derived.Lib.Hide
import Derived.Handy
import Derived.OpenShut
import Derived.Test.YtkjibmfggeibjaaRows
import Derived.Test.YtkjibmfggeibjaaFaG14
/- What runs of functions must know of their loops (printed by a program). -/
namespace Go.Proofs.Ytkjibmfggeibjaa
open Go
def hints : List (FuncId × Hint) := [
  (5, ⟨[([1, 5, 6, 8, 10, 11], [])], false, []⟩),
  (6, ⟨[([1, 5, 6, 7, 8], []), ([6, 9, 10, 12, 13, 14], [])], false, []⟩),
  (7, ⟨[([1, 2, 7, 8, 9, 10, 11, 12], [])], false, []⟩),
  (8, ⟨[([1, 5, 6, 7, 8, 9, 10, 11], [])], false, []⟩),
  (9, ⟨[([2, 5, 9, 10, 11, 79, 80, 81], []), ([2, 5, 9, 10, 11, 13, 79, 80, 81, 97, 98, 99], []), ([2, 5, 9, 10, 11, 13, 15, 79, 80, 81, 97, 98, 99, 165, 166, 167], [])], false, []⟩),
  (10, ⟨[([1, 2, 3, 4, 13, 14, 15, 78, 79, 80], []), ([1, 2, 3, 4, 13, 14, 15, 17, 78, 79, 80, 86, 87, 88], []), ([1, 2, 3, 4, 13, 14, 15, 17, 19, 78, 79, 80, 86, 87, 88, 105, 106, 107], []), ([1, 2, 3, 4, 13, 14, 15, 17, 19, 78, 79, 80, 86, 87, 88, 105, 106, 107, 215, 216, 217], [])], false, []⟩),
  (15, ⟨[([2, 3, 4, 5, 10, 15, 16, 17], []), ([3, 4, 5, 10, 49, 50], []), ([3, 4, 5, 10, 14, 49, 50, 53, 54], [])], false, []⟩),
  (19, ⟨[([0, 2, 3, 4], []), ([0, 2, 3, 5, 6], []), ([0, 2, 3, 5, 7], []), ([0, 2, 3, 5, 9], [])], false, []⟩),
  (20, ⟨[([0, 3, 4, 5, 6], []), ([0, 3, 4, 5, 7, 8], []), ([0, 3, 4, 5, 7, 8, 9, 10, 11, 12, 13], []), ([0, 3, 4, 5, 7, 8, 9, 10, 11, 12, 13, 90, 91, 92], []), ([0, 3, 4, 5, 7, 8, 9, 10, 11, 12, 13, 16, 139, 140, 141], []), ([0, 3, 4, 5, 7, 8, 11, 239, 240, 241], [])], false, []⟩),
  (22, ⟨[([0, 1, 5], [])], false, []⟩),
  (28, ⟨[([0, 1, 2, 7], [])], false, []⟩),
  (31, ⟨[([1, 3, 4, 6, 12, 13, 14, 15, 60, 61], []), ([3, 4, 6, 12, 13, 14, 15, 80, 81, 82], []), ([3, 4, 6, 12, 13, 14, 15, 20, 21, 22, 23, 24, 80, 81, 82, 87, 88, 89], []), ([3, 4, 6, 12, 13, 14, 15, 20, 21, 22, 23, 24, 80, 81, 82, 146, 147, 148], []), ([3, 4, 6, 12, 13, 14, 15, 23, 24, 31, 80, 81, 82, 209, 210, 211], []), ([3, 4, 6, 12, 13, 14, 15, 23, 31, 80, 81, 82, 224, 225, 226], []), ([12, 13, 14, 15, 272, 273], []), ([12, 13, 15, 295, 296], [])], false, []⟩),
  (32, ⟨[([1, 14, 15, 16], [])], false, []⟩),
  (34, ⟨[([0, 3, 4, 5, 6], [])], false, []⟩),
  (38, ⟨[([2, 3, 4, 5, 12], []), ([2, 3, 4, 5, 13, 14], []), ([2, 3, 4, 5, 13, 14, 15, 16], [])], false, []⟩),
  (43, ⟨[([0, 3, 4, 5, 6], []), ([0, 3, 4, 5, 7], [])], false, []⟩),
  (49, ⟨[([1, 2, 3, 13, 14], []), ([1, 2, 3, 31, 32], [])], false, []⟩),
  (50, ⟨[([2, 3, 4, 5, 32, 33], []), ([2, 3, 4, 5, 55, 56], [])], false, []⟩),
  (53, ⟨[([8, 9, 19, 20, 21], [])], false, []⟩),
  (54, ⟨[([8, 9, 19, 20, 21], [])], false, []⟩),
  (55, ⟨[([2, 3, 40, 41, 42], [])], false, []⟩),
  (56, ⟨[([2, 3, 45, 46, 47], []), ([2, 3, 70, 71, 72], []), ([2, 3, 85, 86], [])], false, []⟩),
  (57, ⟨[([0, 1, 12, 13], [])], false, []⟩),
  (61, ⟨[([0, 3, 5, 6], [])], false, []⟩),
  (62, ⟨[([3, 4, 10, 12, 13, 14], []), ([3, 4, 10, 12, 13, 14, 44, 45], [])], false, []⟩),
  (63, ⟨[([1, 2, 3, 4, 11, 12], []), ([1, 2, 3, 4, 11, 12, 13, 50, 51], []), ([1, 2, 3, 4, 11, 12, 13, 14, 50, 51, 54, 55, 56], [])], false, []⟩),
  (68, ⟨[([0, 1, 12, 13], [])], false, []⟩),
  (69, ⟨[([2, 7, 8, 21, 22, 23], [])], false, []⟩),
  (70, ⟨[([1, 2, 22, 23, 24], []), ([1, 2, 9, 10, 44, 45, 46], [])], false, []⟩),
  (71, ⟨[([6, 8, 21, 22], [])], false, []⟩),
  (72, ⟨[([1, 2, 7, 18, 19], [])], false, []⟩),
  (74, ⟨[([1, 9, 10], [])], false, []⟩),
  (75, ⟨[([2, 3, 5, 21, 22, 23], [])], false, []⟩),
  (81, ⟨[([0, 8, 9, 10, 11], [])], false, []⟩),
  (83, ⟨[([2, 7, 8, 9, 10], []), ([2, 7, 8, 9, 10], []), ([2, 7, 8, 9, 10, 11, 13], [])], false, []⟩),
  (85, ⟨[([0, 1, 5], [])], false, []⟩),
  (88, ⟨[([0, 1, 12, 13], [])], false, []⟩),
  (89, ⟨[([0, 3, 9, 10, 11], [])], false, []⟩),
  (90, ⟨[([0, 3, 6, 7], [])], false, []⟩),
  (91, ⟨[([3, 31, 32], [])], false, []⟩),
  (94, ⟨[([3, 6, 7, 8], [])], false, []⟩),
  (95, ⟨[([1, 5, 6, 19, 20, 21], []), ([1, 5, 6, 8, 9, 10, 19, 20, 21], []), ([1, 5, 6, 8, 9, 19, 20, 21, 43, 44], []), ([5, 71, 72], [])], false, []⟩),
  (96, ⟨[([0, 3, 4], [])], false, []⟩),
  (99, ⟨[([1, 51, 52, 53], []), ([1, 5, 65, 66], []), ([1, 5, 65, 66, 69, 70, 71], []), ([1, 80, 81], []), ([1, 89, 90], []), ([1, 12, 13, 89, 90], []), ([1, 14, 117, 118, 119], []), ([1, 14, 137, 138, 139], []), ([1, 14, 150, 151, 152], []), ([1, 163, 164, 165], []), ([1, 174, 175, 176], []), ([1, 186, 187, 188], [])], false, []⟩),
  (103, ⟨[([6, 7, 10, 24, 25, 26], [])], false, []⟩),
  (104, ⟨[([1, 2, 3, 4], []), ([1, 2, 3, 5], [])], false, []⟩),
  (105, ⟨[([2, 4, 7, 23, 24, 25], [])], false, []⟩),
  (106, ⟨[([1, 2, 4, 8, 9], [])], false, []⟩),
  (110, ⟨[([11, 35, 36, 37], [])], false, []⟩),
  (111, ⟨[([11, 12, 13], [])], false, []⟩),
  (112, ⟨[([10, 11, 12, 13, 14], [])], false, []⟩),
  (113, ⟨[([7, 18, 19, 20], [])], false, []⟩),
  (114, ⟨[([3, 7, 8], [])], false, []⟩),
  (115, ⟨[([0, 1, 5], [])], false, []⟩),
  (116, ⟨[([0, 1, 5], [])], false, []⟩),
  (117, ⟨[([0, 1, 12, 13, 14], [])], false, []⟩),
  (118, ⟨[([2, 3, 5, 6, 7], []), ([2, 3, 5, 6, 7, 28, 29, 30], [])], false, []⟩),
  (119, ⟨[([2, 3, 5, 6], []), ([2, 3, 5, 6, 7, 20, 21], []), ([2, 3, 5, 6, 7, 8, 9, 20, 21, 30, 31, 32], [])], false, []⟩),
  (123, ⟨[([2, 3, 4, 5, 11, 12, 13], []), ([3, 4, 5, 30, 31, 32], [])], false, []⟩),
  (124, ⟨[([2, 3, 4, 8, 9, 17, 18, 19], []), ([2, 4, 8, 9, 64, 65, 66], [])], false, []⟩),
  (125, ⟨[([0, 1, 9, 10, 11], [])], false, []⟩),
  (127, ⟨[([2, 5, 6], []), ([2, 5, 6, 7, 38, 39], [])], false, []⟩),
  (131, ⟨[([1, 2, 3, 7, 17, 18], []), ([1, 3, 7, 9], []), ([1, 3, 7, 9, 36, 37, 38], [])], false, []⟩),
  (133, ⟨[([5, 10, 11, 12], [])], false, []⟩),
  (134, ⟨[([7, 8, 15, 16], [])], false, []⟩),
  (140, ⟨[([0, 1, 12, 13], [])], false, []⟩),
  (142, ⟨[([1, 2, 3, 14, 15, 16], []), ([1, 2, 3, 29, 30, 31], []), ([2, 3, 44, 45, 46], [])], false, []⟩),
  (145, ⟨[([0, 19, 20], [])], false, []⟩),
  (146, ⟨[([1, 10, 11], []), ([1, 4, 10, 11, 14, 15, 16], []), ([1, 29, 30, 31], [])], false, []⟩),
  (147, ⟨[([1, 3, 11, 12, 13], []), ([1, 3, 26, 27, 28], []), ([1, 3, 39, 40, 41], [])], false, []⟩),
  (151, ⟨[([1, 2, 4, 8, 10, 11, 12], []), ([1, 2, 4, 8, 10, 11, 12, 13], [])], false, []⟩),
  (153, ⟨[([1, 2, 20, 21], []), ([1, 2, 32, 33], [])], false, []⟩),
  (154, ⟨[([0, 1, 5, 8, 9], [])], false, []⟩),
  (155, ⟨[([1, 6, 7, 11, 12, 13], [])], false, []⟩),
  (157, ⟨[([1, 2, 3, 14, 15, 16], []), ([1, 2, 3, 29, 30, 31], []), ([2, 3, 44, 45, 46], [])], false, []⟩),
  (158, ⟨[([0, 3], [])], false, []⟩),
  (159, ⟨[([0, 6, 7], []), ([0, 3, 4, 6, 7], [])], false, []⟩),
  (160, ⟨[([1, 51, 52, 53], [])], false, []⟩),
  (161, ⟨[([1, 2, 5], []), ([1, 2, 6], [])], false, []⟩),
  (162, ⟨[([3, 6, 7, 8], [])], false, []⟩),
  (163, ⟨[([2, 13, 14, 15], [])], false, []⟩),
  (168, ⟨[([1, 5], [])], false, []⟩),
  (172, ⟨[([0, 1, 7, 8], [])], false, []⟩),
  (175, ⟨[([7, 8], [])], false, []⟩),
  (176, ⟨[([0, 1, 7, 8], [])], false, []⟩),
  (177, ⟨[([0, 1, 7, 8], [])], false, []⟩),
  (180, ⟨[([0, 1, 7, 8], [])], false, []⟩),
  (182, ⟨[([0, 1, 7, 8], [])], false, []⟩),
  (183, ⟨[([0, 1, 7, 8], [])], false, []⟩),
  (187, ⟨[([1, 29, 30, 31], [])], false, []⟩),
  (193, ⟨[([0, 1, 7, 8], [])], false, []⟩),
  (194, ⟨[([1, 2, 3, 6, 8], [])], false, []⟩),
  (199, ⟨[([0, 1, 7, 8], [])], false, []⟩),
  (200, ⟨[([0, 1, 7, 8], [])], false, []⟩)]
end Go.Proofs.Ytkjibmfggeibjaa

/- Flow: the sanity check of the laws, run. -/
namespace Go.Proofs.Ytkjibmfggeibjaa
open Go
set_option linter.unusedVariables false
set_option linter.unusedSimpArgs false
set_option maxRecDepth 100000

theorem f48_ok : fnOk Try.prog 48 = true := by kernel_rfl
theorem awake16_c (nn : Nm) : CallsA Try.prog 48 [] Hp.none nn (Pu (db true) Hp.none) := run_c mixed hints 200 30 (by kernel_rfl)
end Go.Proofs.Ytkjibmfggeibjaa

/- What laws about plans call. -/
namespace Go.Proofs.Ytkjibmfggeibjaa
open Go
set_option linter.unusedVariables false
set_option linter.unusedSimpArgs false
set_option maxRecDepth 100000

end Go.Proofs.Ytkjibmfggeibjaa

/- Flow: contracts for every network and every plan that can be counted. -/
namespace Go.Proofs.Ytkjibmfggeibjaa
open Go
set_option linter.unusedVariables false
set_option linter.unusedSimpArgs false
set_option maxRecDepth 100000

def PreP (_ : Net) (p : Pln) : Prop := PlnSz p
theorem fck_lim {n : Net} {p : Pln} (h : limB n = false) : fckI n p = 4 := by unfold fckI; rw [chk_lim h]; rfl
def TFw0 : Tbl := tc 74 (rowPu (selNetW (fun _ => True) fun n => di (checkI n))) T0
theorem TFw0_ok : TblOk Try.prog TFw0 := tc_netw f74_ok (fun n _ nn => check_w n nn) (T0_ok _)
set_option maxHeartbeats 4000000 in
theorem fcheck_w (n : Net) (p : Pln) (hq : PreP n p) (nn : Nm) : CallsA Try.prog 55 [n.enc, p.enc] Hp.none nn (Pu (di (fckI n p)) Hp.none) := by
  cases a1 : limB n with
  | true => exact fcheck_c n p (sz_of_lim a1) hq nn
  | false =>
    obtain ⟨code, h1, h2⟩ := c55_ok
    refine callsA_of TFw0_ok mixed (N := fun t => (0, t)) Try.func55 h1 h2 r55_ok [] false js_nil js_nil' (by simp [Try.f55]) ?_
    have hn1 : netOf1 [D.sl (n.nodes.map nmRow), .sl (n.segs.map Seg.row), .sl (n.ports.map Port.row), .sl (n.sts.map Stn.row), di n.vap, di n.set] = some n := netOf1_row n
    have hc := chk_lim a1
    have hf := fck_lim (p := p) a1
    simp (config := { maxSteps := 500000 }) only [↓vp, vv, implies_true, forall_const, undef, InI, ↓reduceIte, simprocAttr, c55, r55, c55_1, c55_2, c55_3, c55_4, c55_5, c55_6, c55_7, c55_8, c55_9, TFw0, selNetW, Net.enc, Pln.enc, netD, plnD, hn1, hc, hf, Pu]
def TFw1 : Tbl := tc 55 (rowPu (selNP PreP fun n p => di (fckI n p))) T0
theorem TFw1_ok : TblOk Try.prog TFw1 := tc_np f55_ok (fun n p h nn => fcheck_w n p h nn) (T0_ok _)
set_option maxHeartbeats 4000000 in
theorem fOrder_w (n : Net) (p : Pln) (hq : PreP n p) (nn : Nm) : CallsA Try.prog 51 [n.enc, p.enc] Hp.none nn (Pu (.tup [.sl ((ordR n p).map nRow), di (fckI n p)]) Hp.none) := by
  cases a1 : limB n with
  | true => exact fOrder_c n p ⟨sz_of_lim a1, hq⟩ nn
  | false =>
    obtain ⟨code, h1, h2⟩ := c51_ok
    refine callsA_of TFw1_ok mixed (N := fun t => (0, t)) Try.func51 h1 h2 r51_ok [] false js_nil js_nil' (by simp [Try.f51]) ?_
    have hn1 : netOf1 [D.sl (n.nodes.map nmRow), .sl (n.segs.map Seg.row), .sl (n.ports.map Port.row), .sl (n.sts.map Stn.row), di n.vap, di n.set] = some n := netOf1_row n
    have hp1 : plnOf1 [D.sl (p.rates.map iRow), .sl (p.ports.map iRow), .sl (p.pumps.map bRow)] = some p := plnOf1_row p
    have hf := fck_lim (p := p) a1
    have hr : ordR n p = [] := if_neg (by rw [hf]; decide)
    simp (config := { maxSteps := 500000 }) only [↓vp, vv, implies_true, forall_const, undef, InI, ↓reduceIte, simprocAttr, c51, r51, c51_1, TFw1, selNP, Net.enc, Pln.enc, netD, plnD, hn1, hp1, hq, hf, hr, Pu]
set_option maxHeartbeats 4000000 in
theorem fThrough_w (n : Net) (p : Pln) (k : Int) (hq : PreP n p) (nn : Nm) : CallsA Try.prog 58 [n.enc, p.enc, di k] Hp.none nn (Pu (.tup [di (thrI n p k).1, di (thrI n p k).2]) Hp.none) := by
  cases a1 : limB n with
  | true => exact fThrough_c n p k ⟨sz_of_lim a1, hq⟩ nn
  | false =>
    obtain ⟨code, h1, h2⟩ := c58_ok
    refine callsA_of TFw1_ok mixed (N := fun t => (0, t)) Try.func58 h1 h2 r58_ok [] false js_nil js_nil' (by simp [Try.f58]) ?_
    have hn1 : netOf1 [D.sl (n.nodes.map nmRow), .sl (n.segs.map Seg.row), .sl (n.ports.map Port.row), .sl (n.sts.map Stn.row), di n.vap, di n.set] = some n := netOf1_row n
    have hp1 : plnOf1 [D.sl (p.rates.map iRow), .sl (p.ports.map iRow), .sl (p.pumps.map bRow)] = some p := plnOf1_row p
    have hf := fck_lim (p := p) a1
    have hr : thrI n p k = (0, 4) := by unfold thrI; rw [if_neg (by rw [hf]; decide), hf]
    simp (config := { maxSteps := 500000 }) only [↓vp, vv, implies_true, forall_const, undef, InI, ↓reduceIte, simprocAttr, c58, r58, c58_1, c58_2, TFw1, selNP, Net.enc, Pln.enc, netD, plnD, hn1, hp1, hq, hf, hr, Pu]
set_option maxHeartbeats 4000000 in
theorem fFeeds_w (n : Net) (p : Pln) (hq : PreP n p) (nn : Nm) : CallsA Try.prog 53 [n.enc, p.enc] Hp.none nn (Pu (.tup [di (feedI n p).1, di (feedI n p).2, di (fckI n p)]) Hp.none) := by
  cases a1 : limB n with
  | true => exact fFeeds_c n p ⟨sz_of_lim a1, hq⟩ nn
  | false =>
    obtain ⟨code, h1, h2⟩ := c53_ok
    refine callsA_of TFw1_ok mixed (N := fun t => (0, t)) Try.func53 h1 h2 r53_ok [] false js_nil js_nil' (by simp [Try.f53]) ?_
    have hn1 : netOf1 [D.sl (n.nodes.map nmRow), .sl (n.segs.map Seg.row), .sl (n.ports.map Port.row), .sl (n.sts.map Stn.row), di n.vap, di n.set] = some n := netOf1_row n
    have hp1 : plnOf1 [D.sl (p.rates.map iRow), .sl (p.ports.map iRow), .sl (p.pumps.map bRow)] = some p := plnOf1_row p
    have hf := fck_lim (p := p) a1
    have hr : feedI n p = (0, 0) := if_neg (by rw [hf]; decide)
    simp (config := { maxSteps := 500000 }) only [↓vp, vv, implies_true, forall_const, undef, InI, ↓reduceIte, simprocAttr, c53, r53, c53_1, c53_2, c53_3, c53_4, TFw1, selNP, Net.enc, Pln.enc, netD, plnD, hn1, hp1, hq, hf, hr, Pu]
def TFw2 : Tbl := tc 99 (rowPu (selNetW (fun _ => True) fun n => di (checkI n))) T0
theorem TFw2_ok : TblOk Try.prog TFw2 := tc_netw f99_ok (fun n _ nn => rcheck_w n nn) (T0_ok _)
set_option maxHeartbeats 4000000 in
theorem rchk16_w (n : Net) (p : Pln) (hq : PreP n p) (nn : Nm) : CallsA Try.prog 56 [n.enc, p.enc] Hp.none nn (Pu (di (fckI n p)) Hp.none) := by
  cases a1 : limB n with
  | true => exact rchk16_c n p (sz_of_lim a1) hq nn
  | false =>
    obtain ⟨code, h1, h2⟩ := c56_ok
    refine callsA_of TFw2_ok mixed (N := fun t => (0, t)) Try.func56 h1 h2 r56_ok [] false js_nil js_nil' (by simp [Try.f56]) ?_
    have hn1 : netOf1 [D.sl (n.nodes.map nmRow), .sl (n.segs.map Seg.row), .sl (n.ports.map Port.row), .sl (n.sts.map Stn.row), di n.vap, di n.set] = some n := netOf1_row n
    have hc := chk_lim a1
    have hf := fck_lim (p := p) a1
    simp (config := { maxSteps := 500000 }) only [↓vp, vv, implies_true, forall_const, undef, InI, ↓reduceIte, simprocAttr, c56, r56, c56_1, c56_10, c56_11, c56_12, c56_13, c56_14, c56_15, c56_2, c56_3, c56_4, c56_5, c56_6, c56_7, c56_8, c56_9, TFw2, selNetW, Net.enc, Pln.enc, netD, plnD, hn1, hc, hf, Pu]
def TFw3 : Tbl := tc 56 (rowPu (selNP PreP fun n p => di (fckI n p))) (tc 124 (rowPu selS16) (tc 119 (rowPu (selNP OrdIn fun n p => .sl ((ordB n p).map nRow))) T0))
theorem TFw3_ok : TblOk Try.prog TFw3 := tc_np f56_ok (fun n p h nn => rchk16_w n p h nn) (tc_pu f124_ok (fun args pre d hs hp nn => by
  unfold selS16 at hs
  split at hs
  · split at hs
    · rename_i e1 e2
      cases hs
      rw [netOf1_eq e1, plnOf1_eq e2]
      exact rsums_c _ _ hp.1 _ hp.2 nn
    · cases hs
  · cases hs) (tc_np f119_ok (fun n p h nn => rorder_c n p h nn) (T0_ok _)))
set_option maxHeartbeats 4000000 in
theorem rOrder_w (n : Net) (p : Pln) (hq : PreP n p) (nn : Nm) : CallsA Try.prog 52 [n.enc, p.enc] Hp.none nn (Pu (.tup [.sl ((ordR n p).map nRow), di (fckI n p)]) Hp.none) := by
  obtain ⟨code, h1, h2⟩ := c52_ok
  refine callsA_of TFw3_ok mixed (N := fun t => (0, t)) Try.func52 h1 h2 r52_ok [] false js_nil js_nil' (by simp [Try.f52]) ?_
  have hn1 : netOf1 [D.sl (n.nodes.map nmRow), .sl (n.segs.map Seg.row), .sl (n.ports.map Port.row), .sl (n.sts.map Stn.row), di n.vap, di n.set] = some n := netOf1_row n
  have hp1 : plnOf1 [D.sl (p.rates.map iRow), .sl (p.ports.map iRow), .sl (p.pumps.map bRow)] = some p := plnOf1_row p
  by_cases a0 : fckI n p = 0
  · have hv := fck0 a0
    have ho : OrdIn n p := ⟨by have := hv.net.nl; omega, by have := hv.net.sl; omega, hv.rl, hv.ord.2.2.2⟩
    have hr : ordR n p = ordB n p := if_pos a0
    simp (config := { maxSteps := 500000 }) only [↓vp, vv, implies_true, forall_const, undef, InI, ↓reduceIte, simprocAttr, c52, r52, c52_1, TFw3, selNP, Net.enc, Pln.enc, netD, plnD, hn1, hp1, hq, ho, a0, bne_self_eq_false, hr, Pu]
  · have b0 : (fckI n p != 0) = true := by simp [a0]
    have hr : ordR n p = [] := if_neg a0
    simp (config := { maxSteps := 500000 }) only [↓vp, vv, implies_true, forall_const, undef, InI, ↓reduceIte, simprocAttr, c52, r52, c52_1, TFw3, selNP, Net.enc, Pln.enc, netD, plnD, hn1, hp1, hq, b0, hr, Pu]
set_option maxHeartbeats 4000000 in
theorem rThrough_w (n : Net) (p : Pln) (k : Int) (hq : PreP n p) (nn : Nm) : CallsA Try.prog 59 [n.enc, p.enc, di k] Hp.none nn (Pu (.tup [di (thrI n p k).1, di (thrI n p k).2]) Hp.none) := by
  obtain ⟨code, h1, h2⟩ := c59_ok
  refine callsA_of TFw3_ok mixed (N := fun t => (0, t)) Try.func59 h1 h2 r59_ok [] false js_nil js_nil' (by simp [Try.f59]) ?_
  have hn1 : netOf1 [D.sl (n.nodes.map nmRow), .sl (n.segs.map Seg.row), .sl (n.ports.map Port.row), .sl (n.sts.map Stn.row), di n.vap, di n.set] = some n := netOf1_row n
  have hp1 : plnOf1 [D.sl (p.rates.map iRow), .sl (p.ports.map iRow), .sl (p.pumps.map bRow)] = some p := plnOf1_row p
  by_cases a0 : fckI n p = 0
  · have hv := fck0 a0
    have hf := hv.fl
    by_cases a1 : k < 0
    · simp (config := { maxSteps := 500000 }) only [↓vp, vv, implies_true, forall_const, undef, InI, ↓reduceIte, simprocAttr, c59, r59, c59_1, c59_2, TFw3, selNP, Net.enc, Pln.enc, netD, plnD, hn1, hp1, hq, a0, bne_self_eq_false, a1, decide_true, decide_false, thrI, Pu]
    · by_cases a2 : (n.nodes.length : Int) ≤ k
      · simp (config := { maxSteps := 500000 }) only [↓vp, vv, implies_true, forall_const, undef, InI, ↓reduceIte, simprocAttr, c59, r59, c59_1, c59_2, TFw3, selNP, Net.enc, Pln.enc, netD, plnD, hn1, hp1, hq, a0, bne_self_eq_false, a1, a2, decide_true, decide_false, thrI, Pu]
      · have a3 : 0 ≤ k := by omega
        simp (config := { maxSteps := 500000 }) only [↓vp, vv, implies_true, forall_const, undef, InI, ↓reduceIte, simprocAttr, c59, r59, c59_1, c59_2, TFw3, selNP, selS16, Net.enc, Pln.enc, netD, plnD, hn1, hp1, hq, hf, a0, bne_self_eq_false, a1, a2, a3, decide_true, decide_false, thrI, Pu]
  · have b0 : (fckI n p != 0) = true := by simp [a0]
    simp (config := { maxSteps := 500000 }) only [↓vp, vv, implies_true, forall_const, undef, InI, ↓reduceIte, simprocAttr, c59, r59, c59_1, c59_2, TFw3, selNP, Net.enc, Pln.enc, netD, plnD, hn1, hp1, hq, a0, b0, thrI, Pu]
set_option maxHeartbeats 4000000 in
theorem rFeeds_w (n : Net) (p : Pln) (hq : PreP n p) (nn : Nm) : CallsA Try.prog 54 [n.enc, p.enc] Hp.none nn (Pu (.tup [di (feedI n p).1, di (feedI n p).2, di (fckI n p)]) Hp.none) := by
  obtain ⟨code, h1, h2⟩ := c54_ok
  refine callsA_of TFw3_ok mixed (N := fun t => (0, t)) Try.func54 h1 h2 r54_ok [] false js_nil js_nil' (by simp [Try.f54]) ?_
  have hn1 : netOf1 [D.sl (n.nodes.map nmRow), .sl (n.segs.map Seg.row), .sl (n.ports.map Port.row), .sl (n.sts.map Stn.row), di n.vap, di n.set] = some n := netOf1_row n
  have hp1 : plnOf1 [D.sl (p.rates.map iRow), .sl (p.ports.map iRow), .sl (p.pumps.map bRow)] = some p := plnOf1_row p
  by_cases a0 : fckI n p = 0
  · have hv := fck0 a0
    have hpl := hv.pl
    have hql := hv.net.ql
    simp (config := { maxSteps := 500000 }) only [↓vp, vv, implies_true, forall_const, undef, InI, ↓reduceIte, simprocAttr, c54, r54, c54_1, c54_2, c54_3, c54_4, TFw3, selNP, Net.enc, Pln.enc, netD, plnD, hn1, hp1, hq, a0, bne_self_eq_false]
    refine rng_loop p.ports.length (fun j => ⟨fr [(8, di (sumI posI (p.ports.take j))), (9, di (sumI negI (p.ports.take j))), (19, .sl (p.ports.map iRow)), (20, di p.ports.length), (21, di j)], Hp.none⟩) (fun _ => True) (weak0 (by simp (config := { maxSteps := 500000 }) only [↓vp, vv, implies_true, forall_const, undef, InI, ↓reduceIte, simprocAttr, coverS, sumI]) (by simp (config := { maxSteps := 500000 }) only [↓vp, vv, implies_true, forall_const, undef, InI, ↓reduceIte, simprocAttr, refsF])) trivial (fun j hj _ => ?_) (fun _ => ?_)
    · have hj' : (j : Int) < p.ports.length := by omega
      have hn := idx_nn j
      have w1 := idx_next (j := j) (by omega)
      have hg := iRow_at p.ports j hj
      have e1 := sum_take posI p.ports j hj
      have e2 := sum_take negI p.ports j hj
      have hb := hv.pb _ (List.getElem_mem hj)
      have hs := sum_b (R := p.ports.take j) fun r hr => hv.pb r (List.mem_of_mem_take hr)
      have hlt : (p.ports.take j).length = j := by rw [List.length_take]; omega
      rw [hlt] at hs
      have hpb := pos_b _ hb
      generalize p.ports[j] = r at hg e1 e2 hb hpb
      have wn : IntKind.i64.wrap (0 - r) = -r := by rw [wrap_i (by omega)]; omega
      have m1 : (if 0 < r then r else 0) = posI r := rfl
      have m2 : (if 0 < -r then -r else 0) = negI r := rfl
      have w2 : IntKind.i64.wrap (sumI posI (p.ports.take j) + posI r) = sumI posI (p.ports.take (j + 1)) := by rw [e1]; exact wrap_i (by omega)
      have w3 : IntKind.i64.wrap (sumI negI (p.ports.take j) + negI r) = sumI negI (p.ports.take (j + 1)) := by rw [e2]; exact wrap_i (by omega)
      simp (config := { maxSteps := 500000 }) only [↓vp, vv, implies_true, forall_const, undef, InI, ↓reduceIte, simprocAttr, c54, r54, c54_1, c54_2, c54_3, c54_4, hj', hn, Int.toNat_natCast, hg, w1, wn, m1, m2, w2, w3]
      exact rng_next hj (weak0 (by simp (config := { maxSteps := 500000 }) only [↓vp, vv, implies_true, forall_const, undef, InI, ↓reduceIte, simprocAttr, coverS, w1, w2, w3]) (by simp (config := { maxSteps := 500000 }) only [↓vp, vv, implies_true, forall_const, undef, InI, ↓reduceIte, simprocAttr, refsF])) trivial
    · have hf : feedI n p = (sumI posI p.ports, sumI negI p.ports) := if_pos a0
      simp (config := { maxSteps := 500000 }) only [↓vp, vv, implies_true, forall_const, undef, InI, ↓reduceIte, simprocAttr, c54, r54, c54_1, c54_2, c54_3, c54_4, Int.lt_irrefl, List.take_length, hf, a0, Pu]
  · have b0 : (fckI n p != 0) = true := by simp [a0]
    have hf : feedI n p = (0, 0) := if_neg a0
    simp (config := { maxSteps := 500000 }) only [↓vp, vv, implies_true, forall_const, undef, InI, ↓reduceIte, simprocAttr, c54, r54, c54_1, c54_2, c54_3, c54_4, TFw3, selNP, Net.enc, Pln.enc, netD, plnD, hn1, hp1, hq, b0, hf, Pu]
end Go.Proofs.Ytkjibmfggeibjaa
/- Compiled code of some functions (printed by a program), each checked by the kernel. -/
namespace Go.Proofs.Ytkjibmfggeibjaa
open Go
set_option maxRecDepth 100000
def c50_1 : C := (.seq (.block 1 (.seq (.ops false [oP 35 (.mv (.t 33)), oP 6 (.mv (.t 35))]) (.ops true [oP 36 (.fa 0 (.t 5)), oA 37 (.ld 1 false (.t 36)) [0], oP 38 (.fa 0 (.t 2)), oA 39 (.ld 1 false (.t 38)) [2], oP 40 (.mv (.t 6)), oA 41 (.iaS 1 (.t 39) (.t 40)) [2, 4, 3], oA 42 (.ld 1 false (.t 41)) [3, 4, 2, 5], oP 43 (.fa 0 (.t 3)), oA 44 (.ld 1 false (.t 43)) [7], oP 45 (.mv (.t 6)), oA 46 (.iaS 1 (.t 44)
  (.t 45)) [7, 9, 8], oA 47 (.ld 1 false (.t 46)) [8, 9, 7, 10], oA 48 (.bin .add (.t 42) (.t 47)) [10, 7, 9, 8, 5, 2, 4, 3, 11, 6], oA 49 (.bsl 1 1 [(.v (.int .i64 0))] [(0, (.t 48))]) [6, 11, 3, 4, 2, 5, 8, 9, 7, 10, 12], oA 50 (.app 1 8 (.t 37) (.t 49)) [12, 10, 7, 9, 8, 5, 2, 4, 3, 11, 6, 0, 13, 1], oA 51 (.fa 0 (.t 5)) [14, 13, 12, 11, 10, 9, 8, 7, 6, 5, 4, 3, 2, 1, 0], ⟨Option.none,
  Option.none, (.st 1 (.t 51) (.t 50)), 0, [13, 12, 11, 10, 9, 8, 7, 6, 5, 4, 3, 2, 1, 0, 14, 15], false⟩]))) (.ops false [oP 52 (.bin .add (.t 33) (cI 1)), oP 33 (.mv (.t 52))]))
def c50_2 : C := (.seq (.ops false [oP 34 (.bin .lss (.t 33) (.t 32))]) (.seq (.cond (.t 34) .skip (.exit 0)) c50_1))
def c50_3 : C := (.seq (.block 3 (.seq (.ops false [oP 58 (.mv (.t 56)), oP 7 (.mv (.t 58))]) (.ops true [oP 59 (.fa 1 (.t 5)), oA 60 (.ld 1 false (.t 59)) [0], oP 61 (.fa 1 (.t 2)), oA 62 (.ld 1 false (.t 61)) [2], oP 63 (.mv (.t 7)), oA 64 (.iaS 1 (.t 62) (.t 63)) [2, 4, 3], oA 65 (.ld 1 false (.t 64)) [3, 4, 2, 5], oP 66 (.fa 1 (.t 3)), oA 67 (.ld 1 false (.t 66)) [7], oP 68 (.mv (.t 7)), oA 69 (.iaS 1 (.t 67)
  (.t 68)) [7, 9, 8], oA 70 (.ld 1 false (.t 69)) [8, 9, 7, 10], oA 71 (.bin .add (.t 65) (.t 70)) [10, 7, 9, 8, 5, 2, 4, 3, 11, 6], oA 72 (.bsl 1 1 [(.v (.int .i64 0))] [(0, (.t 71))]) [6, 11, 3, 4, 2, 5, 8, 9, 7, 10, 12], oA 73 (.app 1 8 (.t 60) (.t 72)) [12, 10, 7, 9, 8, 5, 2, 4, 3, 11, 6, 0, 13, 1], oA 74 (.fa 1 (.t 5)) [14, 13, 12, 11, 10, 9, 8, 7, 6, 5, 4, 3, 2, 1, 0], ⟨Option.none,
  Option.none, (.st 1 (.t 74) (.t 73)), 0, [13, 12, 11, 10, 9, 8, 7, 6, 5, 4, 3, 2, 1, 0, 14, 15], false⟩]))) (.ops false [oP 75 (.bin .add (.t 56) (cI 1)), oP 56 (.mv (.t 75))]))
def c50_4 : C := (.seq (.ops false [oP 57 (.bin .lss (.t 56) (.t 55))]) (.seq (.cond (.t 57) .skip (.exit 2)) c50_3))
def c50_5 : C := (.seq (.ops false [oP 76 (.ld 3 true (.t 5)), oS (.st 3 (.t 4) (.t 76))]) .ret)
def c50_6 : C := (.seq (.seq (.ops false [oP 53 (.fa 1 (.t 2)), oP 54 (.ld 1 false (.t 53)), oP 55 (.len (.t 54)), oP 56 (.mv (cI 0))]) (.block 2 (.loop c50_4))) c50_5)
def c50_7 : C := (.seq (.seq (.ops false [oP 30 (.fa 0 (.t 2)), oP 31 (.ld 1 false (.t 30)), oP 32 (.len (.t 31)), oP 33 (.mv (cI 0))]) (.block 0 (.loop c50_2))) c50_6)
def c50 : C := (.seq (.ops false [oP 2 (.box 3 (.t 0)), oP 3 (.box 3 (.t 1)), oP 4 (.new [.mt, .mt, .mt])]) (.seq (.ops false [oP 8 (.bsl 1 0 [(.v (.bool false))] []), oP 9 (.fa 2 (.t 2)), oP 10 (.ld 1 false (.t 9)), oP 11 (.app 1 1 (.t 8) (.t 10)), oP 12 (.bld [.mt, .mt, .mt] [(2, (1, (.t 11)))]), oP 5 (.new [.mt, .mt, .mt]), oS (.st 3 (.t 5) (.t 12))]) (.seq (.seq (.ops false [oP 13 (.fa 0 (.t 2)),
  oP 14 (.ld 1 false (.t 13)), oP 15 (.len (.t 14)), oP 16 (.fa 0 (.t 3)), oP 17 (.ld 1 false (.t 16)), oP 18 (.len (.t 17)), oP 19 (.bin .neq (.t 15) (.t 18)), oP 20 (.mv (.t 19)), oG 21 20 false (.fa 1 (.t 2)), oG 22 20 false (.ld 1 false (.t 21)), oG 23 20 false (.len (.t 22)), oG 24 20 false (.fa 1 (.t 3)), oG 25 20 false (.ld 1 false (.t 24)), oG 26 20 false (.len (.t 25)),
  oG 27 20 false (.bin .neq (.t 23) (.t 26)), oP 28 (.pick (.t 20) (cB true) (.t 27))]) (.cond (.t 28) (.seq (.ops false [oP 29 (.ld 3 true (.t 2)), oS (.st 3 (.t 4) (.t 29))]) .ret) .skip)) c50_7)))
def r50 : List RV := [(.cell 4 3 true)]
theorem c50_ok : ∃ code, Try.f50.body = some code ∧ compC Try.prog Try.f50.ntmps code = some (C.strip c50) := ⟨_, rfl, by kernel_rfl⟩
theorem r50_ok : compRes Try.prog Try.f50.results.toList = some r50 := by kernel_rfl
theorem f50_ok : fnOk Try.prog 50 = true := by kernel_rfl
end Go.Proofs.Ytkjibmfggeibjaa

/- Small plain notions for walks over worlds: 'Only': no old block but one has changed; 'Kept': no old block has changed. No program in sight. -/
namespace Go.Proofs.Ytkjibmfggeibjaa
open Go.RowKit
set_option linter.unusedVariables false
set_option linter.unusedSimpArgs false

/-- No block that was there has changed. -/
abbrev Kept (w w' : World) : Prop := Below w.heap.size w w'
theorem Kept.refl (w : World) : Kept w w := Below.refl _ _
theorem Kept.trans {a b c : World} (h : Kept a b) (k : Kept b c) : Kept a c := Below.trans h (Below.mono k h.size)
theorem Kept.alloc {a w : World} (h : Kept a w) (o : Obj) : Kept a (w.alloc o) := Below.alloc h h.size o
theorem Kept.drew {a w : World} (h : Kept a w) : Kept a w.drew := Below.drew h
theorem Kept.setCell {a w : World} (h : Kept a w) {p : Addr} (hp : a.heap.size ≤ p.block) (u : Value) : Kept a (w.setCell p u) := Below.setCell h hp u

/-- Of the blocks that were there at most block bs has changed. -/
structure Only (bs : Nat) (w w' : World) : Prop where
  os : w'.os = w.os
  tape : w'.tape = w.tape
  output : w'.output = w.output
  size : w.heap.size ≤ w'.heap.size
  block : ∀ k, k < w.heap.size → k ≠ bs → w'.heap[k]? = w.heap[k]?
theorem Only.refl (bs : Nat) (w : World) : Only bs w w := ⟨rfl, rfl, rfl, Nat.le_refl _, fun _ _ _ => rfl⟩
theorem Only.trans {bs : Nat} {a b c : World} (h : Only bs a b) (k : Only bs b c) : Only bs a c :=
  ⟨k.os.trans h.os, k.tape.trans h.tape, k.output.trans h.output, Nat.le_trans h.size k.size, fun i hi hn => (k.block i (Nat.lt_of_lt_of_le hi h.size) hn).trans (h.block i hi hn)⟩
theorem Only.of_kept {bs : Nat} {w w' : World} (h : Kept w w') : Only bs w w' := ⟨h.os, h.tape, h.output, h.size, fun k hk _ => h.block k hk⟩
theorem Only.kept {bs : Nat} {a w w' : World} (h : Kept a w) (k : Only bs w w') (hb : a.heap.size ≤ bs) : Kept a w' :=
  ⟨k.os.trans h.os, k.tape.trans h.tape, k.output.trans h.output, Nat.le_trans h.size k.size, fun i hi => (k.block i (Nat.lt_of_lt_of_le hi h.size) (by omega)).trans (h.block i hi)⟩
theorem Only.alloc {bs : Nat} {a w : World} (h : Only bs a w) (o : Obj) : Only bs a (w.alloc o) := h.trans (.of_kept ((Kept.refl w).alloc o))
theorem Only.drew {bs : Nat} {a w : World} (h : Only bs a w) : Only bs a w.drew := ⟨h.os, h.tape, h.output, h.size, h.block⟩
theorem Only.setCell {bs : Nat} {a w : World} (h : Only bs a w) {p : Addr} (hp : p.block = bs ∨ a.heap.size ≤ p.block) (u : Value) : Only bs a (w.setCell p u) :=
  ⟨h.os, h.tape, h.output, by have := h.size; simpa [World.setCell] using this, fun k hk hn => by rw [Below.heap_setCell _ _ _ _ (by omega)]; exact h.block k hk hn⟩

/-- A cell of which nothing is said. -/
def farCell (w : World) (b o : Nat) : Option Value := w.cell? ⟨b, o, none⟩
def farFree (w : World) (b o : Nat) : Bool := w.frozen? ⟨b, o, none⟩
/-- What the walk uses by itself behind a contract: old cells read as they did. (Stated by 'if', so that the walk decides the condition by arithmetic.) -/
theorem kcell {w w' : World} (hb : Kept w w') : (∀ b o, w'.cell? ⟨b, o, none⟩ = if b < w.heap.size then w.cell? ⟨b, o, none⟩ else farCell w' b o) ∧ (∀ b o, w'.frozen? ⟨b, o, none⟩ = if b < w.heap.size then w.frozen? ⟨b, o, none⟩ else farFree w' b o) :=
  ⟨fun b o => by split; · exact Below.cell hb (p := ⟨b, o, none⟩) ‹_›
                 · rfl,
   fun b o => by split; · exact Below.frozen hb (p := ⟨b, o, none⟩) ‹_›
                 · rfl⟩
theorem ocell {bs : Nat} {w w' : World} (hb : Only bs w w') : (∀ b o, w'.cell? ⟨b, o, none⟩ = if b < w.heap.size ∧ b ≠ bs then w.cell? ⟨b, o, none⟩ else farCell w' b o) ∧ (∀ b o, w'.frozen? ⟨b, o, none⟩ = if b < w.heap.size ∧ b ≠ bs then w.frozen? ⟨b, o, none⟩ else farFree w' b o) :=
  ⟨fun b o => by split; · exact World.cell?_of_block (w := w) (hb.block b (by omega) (by omega))
                 · rfl,
   fun b o => by split; · exact World.frozen?_of_block (w := w) (hb.block b (by omega) (by omega))
                 · rfl⟩
/-- A cell behind a new block, by arithmetic on the block's number. -/
@[go_sem] theorem cell_alloc_ite (w : World) (c : Array Value) (t : TypeId) (fr : Nat × Nat) (n i : Nat) : (w.alloc (.cells c t fr)).cell? ⟨n, i, none⟩ = if n < w.heap.size then w.cell? ⟨n, i, none⟩ else if n = w.heap.size then c[i]? else farCell (w.alloc (.cells c t fr)) n i := by
  split
  · exact World.cell?_alloc_lt _ _ _ ‹_›
  split
  · subst n
    show (match (w.heap.push _)[w.heap.size]? with | some (.cells c _ _) => _ | _ => _) = _
    simp
  · rfl
@[go_sem] theorem free_alloc_ite (w : World) (c : Array Value) (t : TypeId) (n i : Nat) : (w.alloc (.cells c t)).frozen? ⟨n, i, none⟩ = if n < w.heap.size then w.frozen? ⟨n, i, none⟩ else if n = w.heap.size then false else farFree (w.alloc (.cells c t)) n i := by
  split
  · exact World.frozen?_alloc_past _ _ _ ‹_›
  split
  · exact World.frozen?_alloc_at _ _ _ _ ‹_›
  · rfl
/-- A cell behind a store, by arithmetic on the two addresses. -/
@[go_sem] theorem cell_set_ite (w : World) (b o n i : Nat) (v : Value) : (w.setCell ⟨b, o, none⟩ v).cell? ⟨n, i, none⟩ = if b = n ∧ o = i then (w.cell? ⟨n, i, none⟩).map (fun _ => v) else w.cell? ⟨n, i, none⟩ := by
  split
  · obtain ⟨rfl, rfl⟩ := ‹_ ∧ _›
    cases hc : w.cell? ⟨b, o, none⟩ with
    | some u => exact World.cell?_setCell_same _ _ _ hc
    | none =>
      simp only [World.cell?, World.setCell, Array.getElem?_modify, if_pos] at hc ⊢
      cases hh : w.heap[b]? with
      | none => simp
      | some x =>
        rw [hh] at hc
        cases x <;> simp at hc ⊢
        omega
  · exact World.cell?_setCell_other _ _ _ _ (fun e => by injection e with e1 e2; exact (‹¬ (b = n ∧ o = i)› ⟨e1, e2⟩).elim)
theorem kcell1 {w w' : World} (hb : Kept w w') {b : Nat} (h : b < w.heap.size) (o : Nat) : w'.cell? ⟨b, o, none⟩ = w.cell? ⟨b, o, none⟩ := Below.cell hb (p := ⟨b, o, none⟩) h
theorem ocell1 {bs : Nat} {w w' : World} (hb : Only bs w w') {b : Nat} (h : b < w.heap.size) (hn : b ≠ bs) (o : Nat) : w'.cell? ⟨b, o, none⟩ = w.cell? ⟨b, o, none⟩ := World.cell?_of_block (w := w) (hb.block b h hn)
/-- A world in which no block of w has changed. -/
structure KW (w : World) where
  it : World
  kept : Kept w it
/-- A world in which of w's blocks at most bs has changed. -/
structure OW (bs : Nat) (w : World) where
  it : World
  only : Only bs w it
instance (w : World) : Nonempty (KW w) := ⟨⟨w, Kept.refl w⟩⟩
instance (bs : Nat) (w : World) : Nonempty (OW bs w) := ⟨⟨w, Only.refl bs w⟩⟩
@[go_sem] theorem kw_cell {w : World} (k : KW w) (b o : Nat) : k.it.cell? ⟨b, o, none⟩ = if b < w.heap.size then w.cell? ⟨b, o, none⟩ else farCell k.it b o := (kcell k.kept).1 b o
@[go_sem] theorem ow_cell {bs : Nat} {w : World} (k : OW bs w) (b o : Nat) : k.it.cell? ⟨b, o, none⟩ = if b < w.heap.size ∧ b ≠ bs then w.cell? ⟨b, o, none⟩ else farCell k.it b o := (ocell k.only).1 b o
/-- A region that draws its order, whose operations read and whose calls at most make memory: one walk, in the text's order, serves every order. -/
theorem wp_region_kw {P : Program} {id : Nat} {Q : Exit → Act → World → Prop} {a : Act} {w : World} {l : List Oper} (hm : P.follows .mixedOrders = true) (hB : Region.lexB .any l.toArray = true)
    (h : wpQuiet P l.toArray (fun w' => ∃ k : KW w, w' = k.it) (fun a' => ∀ w', (∃ k : KW w, w' = k.it) → Q .normal a' w') l a) : (Code.region id l.toArray true).wp P Q a w :=
  wp_region_quiet (C := fun w' => ∃ k : KW w, w' = k.it) hm hB ⟨⟨w.drew, (Kept.refl w).drew⟩, rfl⟩ (by simpa using h)
/-- The call returns the value, and no old block has changed. -/
def Ret (v : Value) (w : World) (e : Ending) (w' : World) : Prop := e = .returned v ∧ Kept w w'
theorem heap_new (w : World) (o : Obj) : (w.alloc o).heap[w.heap.size]? = some o := by
  show (w.heap.push o)[_]? = _
  simp
/-- Block b holds the cells c, and may be written. -/
def Box (w : World) (b : Nat) (c : Array Value) : Prop := ∃ t, w.heap[b]? = some (.cells c t (0, 0))
theorem Box.cell {w : World} {b : Nat} {c : Array Value} (h : Box w b c) (i : Nat) : w.cell? ⟨b, i, none⟩ = c[i]? := by
  obtain ⟨t, h⟩ := h
  simp [World.cell?, h]
theorem Box.lt {w : World} {b : Nat} {c : Array Value} (h : Box w b c) : b < w.heap.size := by
  obtain ⟨t, h⟩ := h
  rcases Nat.lt_or_ge b w.heap.size with hl | hl
  · exact hl
  · rw [Array.getElem?_eq_none hl] at h; cases h
theorem Box.kept {w w' : World} {b : Nat} {c : Array Value} (h : Box w b c) (k : Kept w w') : Box w' b c := by
  have hl := h.lt
  obtain ⟨t, h⟩ := h
  exact ⟨t, by rw [k.block b hl]; exact h⟩
theorem Box.only {w w' : World} {b bs : Nat} {c : Array Value} (h : Box w b c) (k : Only bs w w') (hn : b ≠ bs) : Box w' b c := by
  have hl := h.lt
  obtain ⟨t, h⟩ := h
  exact ⟨t, by rw [k.block b hl hn]; exact h⟩
theorem Box.new {w : World} {b : Nat} {c : Array Value} {t : TypeId} (hb : b = w.heap.size) : Box (w.alloc (.cells c t)) b c := ⟨t, by subst hb; exact heap_new w _⟩
theorem Box.old {w : World} {b : Nat} {c : Array Value} (h : Box w b c) (o : Obj) : Box (w.alloc o) b c := h.kept ((Kept.refl w).alloc o)
theorem Box.drew {w : World} {b : Nat} {c : Array Value} (h : Box w b c) : Box w.drew b c := h
theorem Box.set {w : World} {b i : Nat} {c c' : Array Value} {v : Value} (h : Box w b c) (hc : c' = c.setIfInBounds i v) : Box (w.setCell ⟨b, i, none⟩ v) b c' := by
  obtain ⟨t, h⟩ := h
  refine ⟨t, ?_⟩
  subst hc
  simp [World.setCell, Array.getElem?_modify, h]
theorem Box.other {w : World} {b : Nat} {c : Array Value} {p : Addr} {v : Value} (h : Box w b c) (hn : b ≠ p.block) : Box (w.setCell p v) b c := by
  obtain ⟨t, h⟩ := h
  exact ⟨t, by rw [Below.heap_setCell _ _ _ _ hn]; exact h⟩
/-- The numbers of an int. -/
def I64 (n : Int) : Prop := -9223372036854775808 ≤ n ∧ n ≤ 9223372036854775807

/-- Block bs is a reader of numbers (Src) over a list whose memory lies below block number base; base ≤ bs. -/
def IsSrc (base : Nat) (w : World) (bs : Nat) : Prop :=
  ∃ (a : Option Addr) (len cap at' : Nat) (t : TypeId), base ≤ bs ∧ bs < w.heap.size ∧ len ≤ 2000 ∧ at' ≤ len ∧
    w.heap[bs]? = some (.cells #[.slice a len cap, .int .i64 at'] t (0, 0)) ∧
    (0 < len → ∃ b o, a = some ⟨b, o, none⟩ ∧ b < base ∧ ∀ i, i < len → ∃ n : Int, I64 n ∧ w.cell? ⟨b, o + i, none⟩ = some (.int .i64 n))
theorem IsSrc.lt {base : Nat} {w : World} {bs : Nat} (h : IsSrc base w bs) : base ≤ bs ∧ bs < w.heap.size := by
  obtain ⟨a, len, cap, at', t, h1, h2, _⟩ := h
  exact ⟨h1, h2⟩
/-- A reader stays one where its block, and all blocks below base, are as they were. -/
theorem IsSrc.keep {base : Nat} {w w' : World} {bs : Nat} (h : IsSrc base w bs) (hs : w.heap.size ≤ w'.heap.size) (hb : w'.heap[bs]? = w.heap[bs]?) (hl : ∀ k, k < base → w'.heap[k]? = w.heap[k]?) : IsSrc base w' bs := by
  obtain ⟨a, len, cap, at', t, h1, h2, h3, h4, h5, h6⟩ := h
  refine ⟨a, len, cap, at', t, h1, by omega, h3, h4, by rw [hb]; exact h5, fun hp => ?_⟩
  obtain ⟨b, o, e, hbb, hc⟩ := h6 hp
  refine ⟨b, o, e, hbb, fun i hi => ?_⟩
  obtain ⟨n, hn, hcell⟩ := hc i hi
  exact ⟨n, hn, by rw [World.cell?_of_block (w := w) (hl b hbb)]; exact hcell⟩
theorem IsSrc.kept {base : Nat} {w w' : World} {bs : Nat} (h : IsSrc base w bs) (k : Kept w w') : IsSrc base w' bs :=
  h.keep k.size (k.block _ h.lt.2) (fun i hi => k.block i (by have := h.lt; omega))
theorem IsSrc.only {base : Nat} {w w' : World} {bs b2 : Nat} (h : IsSrc base w bs) (k : Only b2 w w') (hn : b2 ≠ bs) (hb : base ≤ b2) : IsSrc base w' bs :=
  h.keep k.size (k.block _ h.lt.2 (Ne.symm hn)) (fun i hi => k.block i (by have := h.lt; omega) (by omega))
theorem IsSrc.heap {base : Nat} {w w' : World} {bs : Nat} (h : IsSrc base w bs) (e : w'.heap = w.heap) : IsSrc base w' bs :=
  h.keep (by rw [e]; exact Nat.le_refl _) (by rw [e]) (fun k _ => by rw [e])
theorem IsSrc.alloc {base : Nat} {w : World} {bs : Nat} (h : IsSrc base w bs) (o : Obj) : IsSrc base (w.alloc o) bs := h.kept ((Kept.refl w).alloc o)
theorem IsSrc.drew {base : Nat} {w : World} {bs : Nat} (h : IsSrc base w bs) : IsSrc base w.drew bs := h.kept (Kept.refl w).drew
theorem IsSrc.setCell {base : Nat} {w : World} {bs : Nat} (h : IsSrc base w bs) {p : Addr} (hn : p.block ≠ bs) (hp : base ≤ p.block) (u : Value) : IsSrc base (w.setCell p u) bs :=
  h.keep (by simp [World.setCell]) (Below.heap_setCell _ _ _ _ (by omega)) (fun k hk => Below.heap_setCell _ _ _ _ (by omega))
end Go.Proofs.Ytkjibmfggeibjaa

/- Walks of the reader of numbers: batchlinekeep.Mod, Src.Raw, Src.N, Src.Range, Src.Pick. -/
namespace Go.Proofs.Ytkjibmfggeibjaa
open Go.RowKit
set_option linter.unusedVariables false
set_option linter.unusedSimpArgs false

/-- A row of len cells from b, o on, each of which holds a value with the property. -/
def RowOf (w : World) (b o len : Nat) (Q : Value → Prop) : Prop := ∀ i, i < len → ∃ v, Q v ∧ w.cell? ⟨b, o + i, none⟩ = some v
theorem RowOf.only {w w' : World} {b o len bs : Nat} {Q : Value → Prop} (h : RowOf w b o len Q) (k : Only bs w w') (hb : b < w.heap.size) (hn : b ≠ bs) : RowOf w' b o len Q := fun i hi => by
  obtain ⟨v, hv, hc⟩ := h i hi
  exact ⟨v, hv, by rw [ocell1 k hb hn]; exact hc⟩
theorem RowOf.new {w : World} {n k : Nat} {c : Array Value} {t : TypeId} {fr : Nat × Nat} {Q : Value → Prop} (hn : n = w.heap.size) (hk : k = c.size) (h : ∀ v ∈ c, Q v) : RowOf (w.alloc (.cells c t fr)) n 0 k Q := fun i hi => by
  subst hn hk
  refine ⟨c[i], h _ (Array.getElem_mem hi), ?_⟩
  rw [cell_alloc_ite, if_neg (by omega), if_pos rfl]
  simp [hi]
def IntIs (P : Int → Prop) (v : Value) : Prop := ∃ n, P n ∧ v = .int .i64 n

/-- A slice of ints that came in. -/
def ArgInts (w : World) (a : Option Addr) (len cap : Nat) : Prop :=
  len ≤ cap ∧ cap ≤ maxLen ∧ (0 < len → ∃ b o, a = some ⟨b, o, none⟩ ∧ b < w.heap.size ∧ RowOf w b o len (IntIs I64))
/-- A slice of ints that came in, as a row's proof opens it: nil, or 'cap' cells. -/
def IsRow (k : IntKind) (w : World) (a : Option Addr) (len cap : Nat) (zs : List Int) : Prop :=
  (a = none ∧ len = 0 ∧ cap = 0 ∧ zs = []) ∨
  ∃ x, a = some x ∧ len ≤ cap ∧ cap ≤ maxLen ∧ zs.length = cap ∧ (∀ i, i < zs.length → w.cell? (x.add i) = some (.int k (zs.getD i 0))) ∧ ∀ n ∈ zs, (Lit.int k n).wf = true
theorem argInts_of {w : World} {a : Option Addr} {len cap : Nat} {zs : List Int} (h : IsRow .i64 w a len cap zs) : ArgInts w a len cap := by
  rcases h with ⟨rfl, rfl, rfl, _⟩ | ⟨x, rfl, h1, h2, h3, h4, h5⟩
  · exact ⟨Nat.le_refl _, Nat.zero_le _, fun h => absurd h (by omega)⟩
  · refine ⟨h1, h2, fun hp => ?_⟩
    obtain ⟨b, o, rfl, hc⟩ := ints_at h4 (by omega)
    refine ⟨b, o, rfl, ?_, fun i hi => ?_⟩
    · rcases Nat.lt_or_ge b w.heap.size with h | h
      · exact h
      · exfalso
        have hc0 := hc 0 (by omega)
        simp only [World.cell?] at hc0
        rw [Array.getElem?_eq_none h] at hc0
        simp at hc0
    · refine ⟨_, ⟨zs.getD i 0, ?_, rfl⟩, hc i (by omega)⟩
      have hm : zs.getD i 0 ∈ zs := by
        rw [List.getD_eq_getElem?_getD, List.getElem?_eq_getElem (by omega)]
        exact List.getElem_mem _
      exact bounds_i64 (h5 _ hm)
end Go.Proofs.Ytkjibmfggeibjaa

/- A slice of ints that came in stays one where no old block changes. -/
namespace Go.Proofs.Ytkjibmfggeibjaa
open Go.RowKit
theorem ArgInts.kept {w w' : World} {a : Option Addr} {len cap : Nat} (h : ArgInts w a len cap) (k : Kept w w') : ArgInts w' a len cap := by
  obtain ⟨h1, h2, h3⟩ := h
  refine ⟨h1, h2, fun hp => ?_⟩
  obtain ⟨b, o, e, hb, hr⟩ := h3 hp
  refine ⟨b, o, e, Nat.lt_of_lt_of_le hb k.size, fun i hi => ?_⟩
  obtain ⟨v, hv, hc⟩ := hr i hi
  exact ⟨v, hv, by rw [kcell1 k hb]; exact hc⟩
theorem RowOf.drew {w : World} {b o len : Nat} {Q : Value → Prop} (h : RowOf w b o len Q) : RowOf w.drew b o len Q := h
end Go.Proofs.Ytkjibmfggeibjaa

/- From contracts over data to calls in worlds: a slice of ints that came in, and plain values. -/
namespace Go.Proofs.Ytkjibmfggeibjaa
open Go
set_option linter.unusedVariables false
set_option linter.unusedSimpArgs false

theorem ints_data {w : World} {a : Option Addr} {len cap : Nat} (h : ArgInts w a len cap) : ∃ (ns : List Int) (Im : Nat → Prop), (∀ n ∈ ns, InI n) ∧ (∀ b, Im b → b < w.heap.size) ∧ RelP Im w.heap (.sl (ns.map fun n => [di n])) (.slice a len cap) := by
  obtain ⟨h1, h2, h3⟩ := h
  rcases Nat.eq_zero_or_pos len with h0 | h0
  · subst h0
    exact ⟨[], fun _ => False, fun n hn => (by cases hn), fun b hb => hb.elim, .sl0 a cap⟩
  · obtain ⟨b, o, rfl, hb, hr⟩ := h3 h0
    have hv : ∀ i, i < len → ∃ n, I64 n ∧ hc w.heap b (o + i) = some (.int .i64 n) := fun i hi => by
      obtain ⟨v, ⟨n, hn, rfl⟩, hcell⟩ := hr i hi
      exact ⟨n, hn, by rw [← hc_cell]; exact hcell⟩
    let f : Nat → Int := fun i => match hc w.heap b (o + i) with
      | some (.int .i64 n) => n
      | _ => 0
    have hf : ∀ i, i < len → hc w.heap b (o + i) = some (.int .i64 (f i)) ∧ I64 (f i) := fun i hi => by
      obtain ⟨n, hn, e⟩ := hv i hi
      have : f i = n := by show (match hc w.heap b (o + i) with | some (.int .i64 n) => n | _ => 0) = n; rw [e]
      rw [this]
      exact ⟨e, hn⟩
    refine ⟨(List.range len).map f, fun b' => b' = b, fun n hn => ?_, fun b' hb' => by rw [hb']; exact hb, ?_⟩
    · obtain ⟨i, hi, rfl⟩ := List.mem_map.1 hn
      exact (hf i (List.mem_range.1 hi)).2
    · refine .sl1 _ b o len cap 1 (fun i _ => .int .i64 (f i)) (by simp) h1 (fun r hr => ?_) rfl (fun i j hi hj => ?_) (fun i j hi hj => ?_)
      · obtain ⟨n, _, rfl⟩ := List.mem_map.1 hr
        rfl
      · obtain rfl : j = 0 := by omega
        rw [show o + i * 1 + 0 = o + i by omega]
        exact ⟨(hf i hi).1, rfl⟩
      · have hi' : i < len := by simpa using hi
        have e : ((((List.range len).map f).map fun n => [di n])[i]'hi) = [di (f i)] := by simp
        have hj' : j = 0 := by
          have : j < [di (f i)].length := by rw [← e]; exact hj
          simpa using this
        subst hj'
        have e2 : (((((List.range len).map f).map fun n => [di n])[i]'hi)[0]'hj) = di (f i) := by simp
        rw [e2]
        exact .v _
theorem kept_of {P : Program} {R : D → Hp → Prop} {Im Im' : Nat → Prop} {p p' : Pl} {w w' : World} {e : Ending} {v : D} {H' : Hp} {u : Value} {nn : Nm} (L : Left P Hp.none nn R Im p w e w' Im' p' v H' u) : Kept w w' := by
  have X := L.relE 0
  exact ⟨X.os, X.tape, X.output, X.size, fun b hb => X.block b hb fun ⟨i, e, hi, _⟩ => by cases hi⟩
end Go.Proofs.Ytkjibmfggeibjaa

/- FlowTurns: the plain law; keep.Added. -/
/- FlowTurns: the plain law; keep.Added. -/
namespace Go.Proofs.Ytkjibmfggeibjaa
open Go
set_option linter.unusedVariables false
set_option linter.unusedSimpArgs false
set_option maxRecDepth 100000

def addP (p q : Pln) : Pln := ⟨List.zipWith (· + ·) p.rates q.rates, List.zipWith (· + ·) p.ports q.ports, p.pumps⟩
end Go.Proofs.Ytkjibmfggeibjaa
/- keep.Added. -/
namespace Go.Proofs.Ytkjibmfggeibjaa
open Go
set_option linter.unusedVariables false
set_option linter.unusedSimpArgs false
set_option maxRecDepth 100000

def AddS (p q : Pln) (r s : List Int) : Hp := ((((((Hp.none.put (0, 1002) ⟨s.length, 1, s.map iRow⟩).put (0, 1001) ⟨r.length, 1, r.map iRow⟩).put (0, 8) ⟨1, 1, p.pumps.map bRow⟩).put (0, 5) ⟨0, 3, [[.own (0, 1001) r.length 0 r.length, .own (0, 1002) s.length 0 s.length, .own (0, 8) 1 0 p.pumps.length]]⟩).put (0, 4) ⟨0, 3, [[.mt, .mt, .mt]]⟩).put (0, 3) ⟨0, 3, [plnD q]⟩).put (0, 2) ⟨0, 3, [plnD p]⟩
def AddF (l : List (Nat × D)) : List (Nat × D) := (2, .ptr (0, 2) 0 0 0) :: (3, .ptr (0, 3) 0 0 0) :: (4, .ptr (0, 4) 0 0 0) :: (5, .ptr (0, 5) 0 0 0) :: l
def addL (R S : List Int) (j : Nat) : List Int := List.zipWith (· + ·) (R.take j) (S.take j)
theorem addL_len {R S : List Int} {j : Nat} (h : j ≤ R.length) (h2 : S.length = R.length) : (addL R S j).length = j := by unfold addL; rw [List.length_zipWith, List.length_take, List.length_take]; omega
theorem add_take (R S : List Int) (j : Nat) (h : j < R.length) (h2 : j < S.length) : addL R S (j + 1) = addL R S j ++ [R[j] + S[j]] := by
  unfold addL
  rw [← List.take_append_getElem h, ← List.take_append_getElem h2, List.zipWith_append (by simp; omega)]; rfl
set_option maxHeartbeats 16000000 in
theorem added_c (p q : Pln) (h1 : SmI p.rates) (h2 : SmI p.ports) (h3 : p.pumps.length ≤ 1000000) (g1 : SmI q.rates) (g2 : SmI q.ports) (e1 : q.rates.length = p.rates.length) (e2 : q.ports.length = p.ports.length) (nn : Nm) : CallsA Try.prog 50 [p.enc, q.enc] Hp.none nn (Pu (addP p q).enc Hp.none) := by
  obtain ⟨code, k1, k2⟩ := c50_ok
  refine callsA_of (T0_ok _) mixed (N := fun t => (0, t)) Try.func50 k1 k2 r50_ok [] false js_nil js_nil' (by simp [Try.f50]) ?_
  obtain ⟨l1, b1⟩ := h1
  obtain ⟨l2, b2⟩ := h2
  obtain ⟨l3, b3⟩ := g1
  obtain ⟨l4, b4⟩ := g2
  have z1 : p.pumps.length * 1 ≤ 140737488355328 := by omega
  have z2 : p.pumps.length ≤ 4611686018427387904 := by omega
  have hb : ∀ b ∈ p.pumps, (bRow b).length = 1 := fun _ _ => rfl
  simp (config := { maxSteps := 500000 }) only [↓vp, vv, implies_true, forall_const, undef, InI, ↓reduceIte, simprocAttr, c50, c50_7, Pln.enc, plnD, z1, z2, hb, e1, e2, bne_self_eq_false]
  refine ⟨hb, rng_loop p.rates.length (fun j => ⟨fr (AddF [(32, di p.rates.length), (33, di j)]), AddS p q (addL p.rates q.rates j) []⟩) (fun _ => True) ((weak_ownC (0, 5) 0 3 [] [.mt, .own (0, 8) 1 0 p.pumps.length] (0, 1001) 1 (by simp (config := { maxSteps := 500000 }) only [↓vp, vv, implies_true, forall_const, undef, InI, ↓reduceIte, simprocAttr, ]) (by simp (config := { maxSteps := 500000 }) only [↓vp, vv, implies_true, forall_const, undef, InI, ↓reduceIte, simprocAttr, ])).trans ((weak_ownC (0, 5) 0 3 [.own (0, 1001) 0 0 0] [.own (0, 8) 1 0 p.pumps.length] (0, 1002) 1 (by simp (config := { maxSteps := 500000 }) only [↓vp, vv, implies_true, forall_const, undef, InI, ↓reduceIte, simprocAttr, ]) (by simp (config := { maxSteps := 500000 }) only [↓vp, vv, implies_true, forall_const, undef, InI, ↓reduceIte, simprocAttr, ])).trans (weak_eq [] [(0, 2), (0, 3), (0, 4), (0, 5), (0, 8), (0, 1001), (0, 1002)] (AddF [(32, di p.rates.length), (33, di 0)]) (by simp (config := { maxSteps := 500000 }) only [↓vp, vv, implies_true, forall_const, undef, InI, ↓reduceIte, simprocAttr, coverS, AddF, AddS, plnD, iRow, bRow, addL, List.take_zero, List.zipWith_nil_left]) (by simp (config := { maxSteps := 500000 }) only [↓vp, vv, implies_true, forall_const, undef, InI, ↓reduceIte, simprocAttr, refsF, AddF, AddS, plnD, iRow, bRow, addL, List.take_zero, List.zipWith_nil_left]) (by simp (config := { maxSteps := 500000 }) only [↓vp, vv, implies_true, forall_const, undef, InI, ↓reduceIte, simprocAttr, AddF, AddS, plnD, iRow, bRow, addL, List.take_zero, List.zipWith_nil_left]) (by simp) (by simp (config := { maxSteps := 500000 }) only [↓vp, vv, implies_true, forall_const, undef, InI, ↓reduceIte, simprocAttr, AddF, AddS, plnD, iRow, bRow, addL, List.take_zero, List.zipWith_nil_left]; try rfl)))) trivial (fun j hj _ => ?_) (fun _ => ?_)⟩
  · have hj' : (j : Int) < p.rates.length := by omega
    have hj2 : j < q.rates.length := by omega
    have hjq : (j : Int) < q.rates.length := by omega
    have hn := idx_nn j
    have w1 := idx_next (j := j) (by omega)
    have hg := iRow_at p.rates j hj
    have hg2 := iRow_at q.rates j hj2
    have ht := add_take p.rates q.rates j hj hj2
    have hr := b1 _ (List.getElem_mem hj)
    have hr2 := b3 _ (List.getElem_mem hj2)
    generalize p.rates[j] = r at hg ht hr
    generalize q.rates[j] = s at hg2 ht hr2
    have w2 : IntKind.i64.wrap (r + s) = r + s := by rw [wrap_i (by omega)]
    have hl : (addL p.rates q.rates j).length = j := addL_len (by omega) (by omega)
    have hl3 : (addL p.rates q.rates (j + 1)).length = j + 1 := addL_len (by omega) (by omega)
    have y1 : (j + 1) * 8 ≤ 140737488355328 := by omega
    have y2 : j + 1 ≤ 4611686018427387904 := by omega
    simp (config := { maxSteps := 500000 }) only [↓vp, vv, implies_true, forall_const, undef, InI, ↓reduceIte, simprocAttr, c50, r50, c50_1, c50_2, c50_3, c50_4, c50_5, c50_6, c50_7, AddF, AddS, plnD, hj', hjq, hn, Int.toNat_natCast, hg, hg2, w1, w2, hl, y1, y2]
    exact rng_next hj (weak_eq [] [(0, 2), (0, 3), (0, 4), (0, 5), (0, 8), (0, 1001), (0, 1002)] (AddF [(32, di p.rates.length), (33, di (j + 1 : Nat))]) (by simp (config := { maxSteps := 500000 }) only [↓vp, vv, implies_true, forall_const, undef, InI, ↓reduceIte, simprocAttr, coverS, AddF, AddS, plnD, iRow, bRow, w1, ht, hl, hl3, List.map_append]) (by simp (config := { maxSteps := 500000 }) only [↓vp, vv, implies_true, forall_const, undef, InI, ↓reduceIte, simprocAttr, refsF, AddF, AddS, plnD, iRow, bRow, w1, ht, hl, hl3, List.map_append]) (by simp (config := { maxSteps := 500000 }) only [↓vp, vv, implies_true, forall_const, undef, InI, ↓reduceIte, simprocAttr, AddF, AddS, plnD, iRow, bRow, w1, ht, hl, hl3, List.map_append]) (by simp) (by simp (config := { maxSteps := 500000 }) only [↓vp, vv, implies_true, forall_const, undef, InI, ↓reduceIte, simprocAttr, AddF, AddS, plnD, iRow, bRow, w1, ht, hl, hl3, List.map_append]; try rfl)) trivial
  · unfold addL
    rw [List.take_length, show q.rates.take p.rates.length = q.rates by rw [← e1]; exact List.take_length]
    have hl1 : (List.zipWith (· + ·) p.rates q.rates).length = p.rates.length := by rw [List.length_zipWith]; omega
    have e : addP p q = ⟨List.zipWith (· + ·) p.rates q.rates, List.zipWith (· + ·) p.ports q.ports, p.pumps⟩ := rfl
    rw [e]
    generalize List.zipWith (· + ·) p.rates q.rates = R at hl1
    simp (config := { maxSteps := 500000 }) only [↓vp, vv, implies_true, forall_const, undef, InI, ↓reduceIte, simprocAttr, c50, r50, c50_1, c50_2, c50_3, c50_4, c50_5, c50_6, c50_7, AddF, AddS, plnD, Int.lt_irrefl]
    refine rng_loop p.ports.length (fun j => ⟨fr (AddF [(55, di p.ports.length), (56, di j)]), AddS p q R (addL p.ports q.ports j)⟩) (fun _ => True) (weak_eq [] [(0, 2), (0, 3), (0, 4), (0, 5), (0, 8), (0, 1001), (0, 1002)] (AddF [(55, di p.ports.length), (56, di 0)]) (by simp (config := { maxSteps := 500000 }) only [↓vp, vv, implies_true, forall_const, undef, InI, ↓reduceIte, simprocAttr, coverS, AddF, AddS, plnD, iRow, bRow, addL, List.take_zero, List.zipWith_nil_left]) (by simp (config := { maxSteps := 500000 }) only [↓vp, vv, implies_true, forall_const, undef, InI, ↓reduceIte, simprocAttr, refsF, AddF, AddS, plnD, iRow, bRow, addL, List.take_zero, List.zipWith_nil_left]) (by simp (config := { maxSteps := 500000 }) only [↓vp, vv, implies_true, forall_const, undef, InI, ↓reduceIte, simprocAttr, AddF, AddS, plnD, iRow, bRow, addL, List.take_zero, List.zipWith_nil_left]) (by simp) (by simp (config := { maxSteps := 500000 }) only [↓vp, vv, implies_true, forall_const, undef, InI, ↓reduceIte, simprocAttr, AddF, AddS, plnD, iRow, bRow, addL, List.take_zero, List.zipWith_nil_left]; try rfl)) trivial (fun j hj _ => ?_) (fun _ => ?_)
    · have hj' : (j : Int) < p.ports.length := by omega
      have hj2 : j < q.ports.length := by omega
      have hjq : (j : Int) < q.ports.length := by omega
      have hn := idx_nn j
      have w1 := idx_next (j := j) (by omega)
      have hg := iRow_at p.ports j hj
      have hg2 := iRow_at q.ports j hj2
      have ht := add_take p.ports q.ports j hj hj2
      have hr := b2 _ (List.getElem_mem hj)
      have hr2 := b4 _ (List.getElem_mem hj2)
      generalize p.ports[j] = r at hg ht hr
      generalize q.ports[j] = s at hg2 ht hr2
      have w2 : IntKind.i64.wrap (r + s) = r + s := by rw [wrap_i (by omega)]
      have hl : (addL p.ports q.ports j).length = j := addL_len (by omega) (by omega)
      have hl3 : (addL p.ports q.ports (j + 1)).length = j + 1 := addL_len (by omega) (by omega)
      have y1 : (j + 1) * 8 ≤ 140737488355328 := by omega
      have y2 : j + 1 ≤ 4611686018427387904 := by omega
      simp (config := { maxSteps := 500000 }) only [↓vp, vv, implies_true, forall_const, undef, InI, ↓reduceIte, simprocAttr, c50, r50, c50_1, c50_2, c50_3, c50_4, c50_5, c50_6, c50_7, AddF, AddS, plnD, hj', hjq, hn, Int.toNat_natCast, hg, hg2, w1, w2, hl, y1, y2]
      exact rng_next hj (weak_eq [] [(0, 2), (0, 3), (0, 4), (0, 5), (0, 8), (0, 1001), (0, 1002)] (AddF [(55, di p.ports.length), (56, di (j + 1 : Nat))]) (by simp (config := { maxSteps := 500000 }) only [↓vp, vv, implies_true, forall_const, undef, InI, ↓reduceIte, simprocAttr, coverS, AddF, AddS, plnD, iRow, bRow, w1, ht, hl, hl3, List.map_append]) (by simp (config := { maxSteps := 500000 }) only [↓vp, vv, implies_true, forall_const, undef, InI, ↓reduceIte, simprocAttr, refsF, AddF, AddS, plnD, iRow, bRow, w1, ht, hl, hl3, List.map_append]) (by simp (config := { maxSteps := 500000 }) only [↓vp, vv, implies_true, forall_const, undef, InI, ↓reduceIte, simprocAttr, AddF, AddS, plnD, iRow, bRow, w1, ht, hl, hl3, List.map_append]) (by simp) (by simp (config := { maxSteps := 500000 }) only [↓vp, vv, implies_true, forall_const, undef, InI, ↓reduceIte, simprocAttr, AddF, AddS, plnD, iRow, bRow, w1, ht, hl, hl3, List.map_append]; try rfl)) trivial
    · unfold addL
      rw [List.take_length, show q.ports.take p.ports.length = q.ports by rw [← e2]; exact List.take_length]
      generalize List.zipWith (· + ·) p.ports q.ports = Q
      simp (config := { maxSteps := 500000 }) only [↓vp, vv, implies_true, forall_const, undef, InI, ↓reduceIte, simprocAttr, c50, r50, c50_1, c50_2, c50_3, c50_4, c50_5, c50_6, c50_7, AddF, AddS, plnD, Int.lt_irrefl, Pu]
      exact ⟨fun _ _ d hd => by rw [List.mem_singleton.1 hd]; rfl, fun _ _ d hd => by rw [List.mem_singleton.1 hd]; rfl, fun _ _ d hd => by rw [List.mem_singleton.1 hd]; rfl⟩
end Go.Proofs.Ytkjibmfggeibjaa
/- FlowTurns: the walk. -/
namespace Go.Proofs.Ytkjibmfggeibjaa
open Go
set_option linter.unusedVariables false
set_option linter.unusedSimpArgs false
set_option maxRecDepth 100000

structure PAddPre (p q : Pln) : Prop where
  a : SmI p.rates
  b : SmI p.ports
  c : p.pumps.length ≤ 1000000
  d : SmI q.rates
  e : SmI q.ports
  f : q.rates.length = p.rates.length
  g : q.ports.length = p.ports.length
def selPAdd : List D → Option (Prop × D)
  | [.agg a, .agg b] => match plnOf1 a, plnOf1 b with
    | some p, some q => some (PAddPre p q, (addP p q).enc)
    | _, _ => Option.none
  | _ => Option.none
theorem tc_neg {T : Tbl} (hT : TblOk Try.prog T) : TblOk Try.prog (tc 49 (rowPu selNeg) T) :=
  tc_pu f49_ok (fun args pre d h hp nn => by
    unfold selNeg at h
    split at h
    · split at h
      · rename_i e
        cases h
        rw [plnOf1_eq e]
        exact negated_c _ hp.1 hp.2.1 hp.2.2 nn
      · cases h
    · cases h) hT
theorem tc_padd {T : Tbl} (hT : TblOk Try.prog T) : TblOk Try.prog (tc 50 (rowPu selPAdd) T) :=
  tc_pu f50_ok (fun args pre d h hp nn => by
    unfold selPAdd at h
    split at h
    · split at h
      · rename_i e1 e2
        cases h
        rw [plnOf1_eq e1, plnOf1_eq e2]
        exact added_c _ _ hp.a hp.b hp.c hp.d hp.e hp.f hp.g nn
      · cases h
    · cases h) hT
theorem rates_b {n : Net} {p : Pln} (hp : PlanOk n p) : ∀ r ∈ p.rates, -1000 ≤ r ∧ r ≤ 1000 := fun r hr => by
  obtain ⟨k, hk⟩ := List.getElem?_of_mem hr
  have hl : k < p.rates.length := by
    rcases Nat.lt_or_ge k p.rates.length with h | h
    · exact h
    · rw [List.getElem?_eq_none h] at hk; cases hk
  have hrl := hp.rl
  have hx : (n.segs[k]'(by omega), r) ∈ n.segs.zip p.rates := zip_of (List.getElem?_eq_getElem (by omega)) hk
  have := hp.rb _ hx
  unfold RateIn at this
  have := @minC_b (n.segs[k]'(by omega)).cap
  dsimp only at *
  omega
theorem plan_sm {n : Net} {p : Pln} (hv : NetV n) (hp : PlanOk n p) : SmI p.rates ∧ SmI p.ports ∧ p.pumps.length ≤ 1000000 := by
  have := hv.sl
  have := hv.ql
  have := hv.tl
  have := hp.rl
  have := hp.ql
  have := hp.ul
  refine ⟨⟨by omega, fun r hr => ?_⟩, ⟨by omega, fun r hr => ?_⟩, by omega⟩
  · have := rates_b hp r hr; omega
  · have := hp.qb r hr; omega
end Go.Proofs.Ytkjibmfggeibjaa
