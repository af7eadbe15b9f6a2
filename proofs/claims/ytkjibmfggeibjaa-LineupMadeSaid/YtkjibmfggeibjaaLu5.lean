
/- LineupNeeds: the walk. -/
import Derived.Test.YtkjibmfggeibjaaLuZ
import Derived.Test.YtkjibmfggeibjaaBridge
import Derived.Test.YtkjibmfggeibjaaVz
namespace Go.Proofs.Ytkjibmfggeibjaa
open Go
set_option linter.unusedVariables false
set_option linter.unusedSimpArgs false
set_option maxRecDepth 100000

theorem lu_mod2_c (x n : Int) (hn : InI n) (nn : Nm) : CallsA Try.prog 33 [di x, di n] Hp.none nn (Pu (di (modI x n)) Hp.none) := by
  obtain ⟨code, h1, h2⟩ := c33_ok
  refine callsA_of TN_ok mixed (N := fun t => (0, t)) Try.func33 h1 h2 r33_ok [] false js_nil js_nil' (by simp [Try.f33]) ?_
  simp (config := { maxSteps := 500000 }) only [↓vp, vv, implies_true, forall_const, undef, InI, ↓reduceIte, simprocAttr, c33, r33, r33, TN, selMod, hn, Pu]
theorem lu_few_c (L : List (List D)) (nn : Nm) : CallsA Try.prog 17 [.sl L] Hp.none nn (Pu (db (decide ((L.length : Int) ≤ 400))) Hp.none) := by
  obtain ⟨code, h1, h2⟩ := c17_ok
  refine callsA_of (T0_ok _) mixed (N := fun t => (0, t)) Try.func17 h1 h2 r17_ok [] false js_nil js_nil' (by simp [Try.f17]) ?_
  simp (config := { maxSteps := 500000 }) only [↓vp, vv, implies_true, forall_const, undef, InI, ↓reduceIte, simprocAttr, c17, r17, r17, Pu]
def selFewL : List D → Option (Prop × D)
  | [.sl L] => some (True, db (decide ((L.length : Int) ≤ 400)))
  | _ => Option.none
def netL : Net := ⟨[⟨#[97]⟩, ⟨#[98]⟩], [⟨⟨#[103]⟩, 0, 1, 10, 0, 0, [⟨0, 0, 1000⟩, ⟨10, 0, 1000⟩]⟩], [⟨⟨#[112]⟩, 0, 0⟩, ⟨⟨#[113]⟩, 1, 0⟩], [], 0, 0⟩
theorem netL_ck : checkI netL = 0 := by kernel_rfl
theorem netL_1 : fckI netL ⟨[3], [3, -3], []⟩ = 0 := by kernel_rfl
theorem netL_0 : fckI netL ⟨[0], [0, 0], []⟩ = 0 := by kernel_rfl
def TAw24 : Tbl := tc 102 (rowPu (selNP FckPre fun n p => .tup [(needR n p).enc, di (fckI n p)])) (tc 103 rowChg T0)
theorem TAw24_ok : TblOk Try.prog TAw24 := tc_np f102_ok (fun n p h nn => need_c n p h nn) (tc_chg (T0_ok _))
set_option maxHeartbeats 8000000 in
theorem awake24_c (nn : Nm) : CallsA Try.prog 42 [] Hp.none nn (Pu (db true) Hp.none) := by
  obtain ⟨code, h1, h2⟩ := c42_ok
  refine callsA_of TAw24_ok mixed (N := fun t => (0, t)) Try.func42 h1 h2 r42_ok [] false js_nil js_nil' (by simp [Try.f42]) ?_
  simp (config := { maxSteps := 500000 }) only [↓vp, vv, implies_true, forall_const, undef, InI, ↓reduceIte, simprocAttr, c42]
  refine vc_wk ((weak_eq [] [(0, 1), (0, 9), (0, 12), (0, 14), (0, 17)] [(1, .ptr (0, 1) 0 0 0)]
      (H' := hp [((0, 1), ⟨0, 6, [[.own (0, 9) 0 0 2, .own (0, 14) 0 0 1, .own (0, 17) 0 0 2, .mt, di 0, di 0]]⟩), ((0, 9), ⟨0, 1, [[ds ⟨#[97]⟩], [ds ⟨#[98]⟩]]⟩), ((0, 12), ⟨0, 3, [[di 0, di 0, di 1000], [di 10, di 0, di 1000]]⟩), ((0, 14), ⟨0, 7, [[ds ⟨#[103]⟩, di 0, di 1, di 10, di 0, di 0, .own (0, 12) 0 0 2]]⟩), ((0, 17), ⟨0, 3, [[ds ⟨#[112]⟩, di 0, di 0], [ds ⟨#[113]⟩, di 1, di 0]]⟩)])
      (by simp (config := { maxSteps := 500000 }) only [↓vp, vv, implies_true, forall_const, undef, InI, ↓reduceIte, simprocAttr, coverS]) (by simp (config := { maxSteps := 500000 }) only [↓vp, vv, implies_true, forall_const, undef, InI, ↓reduceIte, simprocAttr, refsF]) (by simp (config := { maxSteps := 500000 }) only [↓vp, vv, implies_true, forall_const, undef, InI, ↓reduceIte, simprocAttr, ]) (by simp) (by simp (config := { maxSteps := 500000 }) only [↓vp, vv, implies_true, forall_const, undef, InI, ↓reduceIte, simprocAttr, hp_cons, hp_nil]; try rfl)).trans
      ((weak_fz [(0, 12)] [(0, 1), (0, 9), (0, 14), (0, 17)] (l := [(1, .ptr (0, 1) 0 0 0)]) (h := _) (l' := [(1, .ptr (0, 1) 0 0 0)]) (H' := ((((Hp.none.put (0, 17) ⟨0, 3, [[ds ⟨#[112]⟩, di 0, di 0], [ds ⟨#[113]⟩, di 1, di 0]]⟩).put (0, 14) ⟨0, 7, [[ds ⟨#[103]⟩, di 0, di 1, di 10, di 0, di 0, .sl [[di 0, di 0, di 1000], [di 10, di 0, di 1000]]]]⟩).put (0, 9) ⟨0, 1, [[ds ⟨#[97]⟩], [ds ⟨#[98]⟩]]⟩).put (0, 1) ⟨0, 6, [[.own (0, 9) 0 0 2, .own (0, 14) 0 0 1, .own (0, 17) 0 0 2, .mt, di 0, di 0]]⟩)) (by simp (config := { maxSteps := 500000 }) only [↓vp, vv, implies_true, forall_const, undef, InI, ↓reduceIte, simprocAttr, vz, listB, okKd, okK, lendKd, lendK, lendOk1B, frzF, Option.map_some, cond_true, cond_false, decide_true, decide_false, Bool.and_self, hp_at]) (by simp (config := { maxSteps := 500000 }) only [↓vp, vv, implies_true, forall_const, undef, InI, ↓reduceIte, simprocAttr, vz, listB, okKd, okK, lendKd, lendK, lendOk1B, frzF, Option.map_some, cond_true, cond_false, decide_true, decide_false, Bool.and_self, hp_at]) (by simp (config := { maxSteps := 500000 }) only [↓vp, vv, implies_true, forall_const, undef, InI, ↓reduceIte, simprocAttr, vz, listB, okKd, okK, lendKd, lendK, lendOk1B, frzF, Option.map_some, cond_true, cond_false, decide_true, decide_false, Bool.and_self, hp_at]; try rfl) (by simp (config := { maxSteps := 500000 }) only [↓vp, vv, implies_true, forall_const, undef, InI, ↓reduceIte, simprocAttr, vz, listB, okKd, okK, lendKd, lendK, lendOk1B, frzF, Option.map_some, cond_true, cond_false, decide_true, decide_false, Bool.and_self, hp_at]; try rfl) (by simp (config := { maxSteps := 500000 }) only [↓vp, vv, implies_true, forall_const, undef, InI, ↓reduceIte, simprocAttr, vz, listB, okKd, okK, lendKd, lendK, lendOk1B, frzF, Option.map_some, cond_true, cond_false, decide_true, decide_false, Bool.and_self, refsF, hp_at]) (by simp (config := { maxSteps := 500000 }) only [↓vp, vv, implies_true, forall_const, undef, InI, ↓reduceIte, simprocAttr, vz, listB, okKd, okK, lendKd, lendK, lendOk1B, frzF, Option.map_some, cond_true, cond_false, decide_true, decide_false, Bool.and_self, hp_at]) (by simp)).trans
      ((weak_eq [] [(0, 1), (0, 9), (0, 14), (0, 17)] [(1, .ptr (0, 1) 0 0 0)]
      (H' := hp [((0, 1), ⟨0, 6, [[.own (0, 9) 0 0 2, .own (0, 14) 0 0 1, .own (0, 17) 0 0 2, .mt, di 0, di 0]]⟩), ((0, 9), ⟨0, 1, [[ds ⟨#[97]⟩], [ds ⟨#[98]⟩]]⟩), ((0, 14), ⟨0, 7, [[ds ⟨#[103]⟩, di 0, di 1, di 10, di 0, di 0, .sl [[di 0, di 0, di 1000], [di 10, di 0, di 1000]]]]⟩), ((0, 17), ⟨0, 3, [[ds ⟨#[112]⟩, di 0, di 0], [ds ⟨#[113]⟩, di 1, di 0]]⟩)])
      (by simp (config := { maxSteps := 500000 }) only [↓vp, vv, implies_true, forall_const, undef, InI, ↓reduceIte, simprocAttr, coverS]) (by simp (config := { maxSteps := 500000 }) only [↓vp, vv, implies_true, forall_const, undef, InI, ↓reduceIte, simprocAttr, refsF]) (by simp (config := { maxSteps := 500000 }) only [↓vp, vv, implies_true, forall_const, undef, InI, ↓reduceIte, simprocAttr, ]) (by simp) (by simp (config := { maxSteps := 500000 }) only [↓vp, vv, implies_true, forall_const, undef, InI, ↓reduceIte, simprocAttr, hp_cons, hp_nil]; try rfl)).trans
      (weak_fz [(0, 9), (0, 14), (0, 17)] [(0, 1)] (l := [(1, .ptr (0, 1) 0 0 0)]) (h := _) (l' := [(1, .ptr (0, 1) 0 0 0)]) (H' := (Hp.none.put (0, 1) ⟨0, 6, [[.sl (netL.nodes.map nmRow), .sl (netL.segs.map Seg.row), .sl (netL.ports.map Port.row), .mt, di 0, di 0]]⟩)) (by simp (config := { maxSteps := 500000 }) only [↓vp, vv, implies_true, forall_const, undef, InI, ↓reduceIte, simprocAttr, vz, listB, okKd, okK, lendKd, lendK, lendOk1B, frzF, Option.map_some, cond_true, cond_false, decide_true, decide_false, Bool.and_self, hp_at, netL, nmRow, Seg.row, Port.row, Pt.row, List.map_cons, List.map_nil]) (by simp (config := { maxSteps := 500000 }) only [↓vp, vv, implies_true, forall_const, undef, InI, ↓reduceIte, simprocAttr, vz, listB, okKd, okK, lendKd, lendK, lendOk1B, frzF, Option.map_some, cond_true, cond_false, decide_true, decide_false, Bool.and_self, hp_at, netL, nmRow, Seg.row, Port.row, Pt.row, List.map_cons, List.map_nil]) (by simp (config := { maxSteps := 500000 }) only [↓vp, vv, implies_true, forall_const, undef, InI, ↓reduceIte, simprocAttr, vz, listB, okKd, okK, lendKd, lendK, lendOk1B, frzF, Option.map_some, cond_true, cond_false, decide_true, decide_false, Bool.and_self, hp_at, netL, nmRow, Seg.row, Port.row, Pt.row, List.map_cons, List.map_nil]; try rfl) (by simp (config := { maxSteps := 500000 }) only [↓vp, vv, implies_true, forall_const, undef, InI, ↓reduceIte, simprocAttr, vz, listB, okKd, okK, lendKd, lendK, lendOk1B, frzF, Option.map_some, cond_true, cond_false, decide_true, decide_false, Bool.and_self, hp_at, netL, nmRow, Seg.row, Port.row, Pt.row, List.map_cons, List.map_nil]; try rfl) (by simp (config := { maxSteps := 500000 }) only [↓vp, vv, implies_true, forall_const, undef, InI, ↓reduceIte, simprocAttr, vz, listB, okKd, okK, lendKd, lendK, lendOk1B, frzF, Option.map_some, cond_true, cond_false, decide_true, decide_false, Bool.and_self, refsF, hp_at, netL, nmRow, Seg.row, Port.row, Pt.row, List.map_cons, List.map_nil]) (by simp (config := { maxSteps := 500000 }) only [↓vp, vv, implies_true, forall_const, undef, InI, ↓reduceIte, simprocAttr, vz, listB, okKd, okK, lendKd, lendK, lendOk1B, frzF, Option.map_some, cond_true, cond_false, decide_true, decide_false, Bool.and_self, hp_at, netL, nmRow, Seg.row, Port.row, Pt.row, List.map_cons, List.map_nil]) (by simp))))) ?_
  have hn1 : netOf1 [D.sl (netL.nodes.map nmRow), .sl (netL.segs.map Seg.row), .sl (netL.ports.map Port.row), .sl [], di 0, di 0] = some netL := netOf1_row netL
  have hp1 : plnOf1 [D.sl [[di 3]], .sl [[di 3], [di (-3)]], .sl []] = some ⟨[3], [3, -3], []⟩ := plnOf1_row ⟨[3], [3, -3], []⟩
  have hp0 : plnOf1 [D.sl [[di 0]], .sl [[di 0], [di 0]], .sl []] = some ⟨[0], [0, 0], []⟩ := plnOf1_row ⟨[0], [0, 0], []⟩
  have nz1 : NetSz netL := ⟨by decide, by decide, by decide, by decide, fun s hs => by rw [List.mem_singleton.1 hs]; decide⟩
  have hz1 : FckPre netL ⟨[3], [3, -3], []⟩ := ⟨nz1, ⟨by decide, by decide, by decide⟩⟩
  have hz0 : FckPre netL ⟨[0], [0, 0], []⟩ := ⟨nz1, ⟨by decide, by decide, by decide⟩⟩
  have f1 := netL_1
  have f0 := netL_0
  have r1 : needR netL ⟨[3], [3, -3], []⟩ = ⟨[true], [true, true]⟩ := if_pos f1
  have r0 : needR netL ⟨[0], [0, 0], []⟩ = ⟨[false], [false, false]⟩ := if_pos f0
  have hl1 : lnpOf1 [D.sl [[db true]], .sl [[db true], [db true]]] = some ⟨[true], [true, true]⟩ := lnpOf1_row ⟨[true], [true, true]⟩
  have hl0 : lnpOf1 [D.sl [[db false]], .sl [[db false], [db false]]] = some ⟨[false], [false, false]⟩ := lnpOf1_row ⟨[false], [false, false]⟩
  have v1 : lvB netL ⟨[true], [true, true]⟩ = true := rfl
  have v0 : lvB netL ⟨[false], [false, false]⟩ = true := rfl
  have a1 : lall ⟨[true], [true, true]⟩ = [true, true, true] := rfl
  have a0 : lall ⟨[false], [false, false]⟩ = [false, false, false] := rfl
  have d1 : dif [false, false, false] [true, true, true] 3 = [0, 1, 2] := by decide
  have d2 : dif [true, true, true] [false, false, false] 3 = [] := by decide
  have ck := netL_ck
  simp (config := { maxSteps := 500000 }) only [↓vp, vv, implies_true, forall_const, undef, InI, ↓reduceIte, simprocAttr, c42_1, r42, Pu, TAw24, selNP, rowChg, chgR, ChH, hn1, hp1, hp0, nz1, hz1, hz0, f1, f0, r1, r0, hl1, hl0, v1, v0, a1, a0, d1, d2, ck, Lnp.enc, lnpD, bRow, nRow, List.map_cons, List.map_nil, List.length_cons, List.length_nil]
def PrmPre (n : Net) (l : Lnp) (p : Pln) : Prop := FckPre n p ∧ LnpSz l
def TL24 : Tbl := tc 17 (rowPu selFewL) (tc 42 (rowPu selAw) (tc 18 rowNew (tc 19 (rowSrc (sel0 NetOk) Net.enc) (tc 20 (rowSrc selPlan Pln.enc) (tc 102 (rowPu (selNP FckPre fun n p => .tup [(needR n p).enc, di (fckI n p)])) (tc 110 (rowPu (selNLP PrmPre fun n l p => .tup [db (prmI n l p).1, di (prmI n l p).2])) (tc 33 (rowPu selMod) (tc 43 rowRaw (tc 170 rowAll (tc 103 rowChg (tc 116 (rowPu selSB) T0)))))))))))
theorem TL24_ok : TblOk Try.prog TL24 := by
  refine tc_pu f17_ok (fun args pre d h hp nn => ?_) (tc_pu f42_ok (fun args pre d h hp nn => ?_) (tc_new (tc_net (tc_plan (tc_np f102_ok (fun n p h nn => need_c n p h nn) (tc_nlp f110_ok (fun n l p h nn => permits_c n l p h.1 h.2 nn) (tc_pu f33_ok (fun args pre d h hp nn => ?_) (tc_raw (tc_all (tc_chg (tc_sb (T0_ok _))))))))))))
  · unfold selFewL at h
    split at h <;> cases h
    exact lu_few_c _ nn
  · unfold selAw at h
    split at h <;> cases h
    exact awake24_c nn
  · unfold selMod at h
    split at h <;> cases h
    exact lu_mod2_c _ _ hp nn
def LnF (A : List Bool) (O C : List Nat) (l : List (Nat × D)) : List (Nat × D) := (14, .own (0, 112) 2 0 A.length) :: (15, .own (0, 114) 2 0 A.length) :: (18, .own (0, 5130) C.length 0 C.length) :: l
def LnH (Y B : List Bool) (O C : List Nat) : Hp := (((Hp.none.put (0, 5130) ⟨C.length, 1, C.map nRow⟩).put (0, 130) ⟨O.length, 1, O.map nRow⟩).put (0, 114) ⟨2, 1, B.map bRow⟩).put (0, 112) ⟨2, 1, Y.map bRow⟩
def LnG (Y B : List Bool) (C : List Nat) : Hp := ((Hp.none.put (0, 5130) ⟨C.length, 1, C.map nRow⟩).put (0, 114) ⟨2, 1, B.map bRow⟩).put (0, 112) ⟨2, 1, Y.map bRow⟩
theorem nRow_g (o : List Nat) (j : Nat) (h : j < o.length) : (o.map nRow).getD j [] = [di (o[j] : Nat)] := by rw [getD_map nRow o j h]; rfl
theorem bRow_d (Y : List Bool) (k : Nat) (h : k < Y.length) : (Y.map bRow).getD k [] = [db (Y.getD k false)] := by
  rw [bRow_g Y k h, List.getD_eq_getElem?_getD, List.getElem?_eq_getElem h]; rfl
end Go.Proofs.Ytkjibmfggeibjaa
