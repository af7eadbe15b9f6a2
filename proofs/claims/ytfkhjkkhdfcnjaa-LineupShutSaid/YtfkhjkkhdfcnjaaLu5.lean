
/- LineupNeeds: the walk. -/
import Derived.Test.YtfkhjkkhdfcnjaaLuA
import Derived.Test.YtfkhjkkhdfcnjaaBridge
import Derived.Test.YtfkhjkkhdfcnjaaVz
namespace Go.Proofs.Ytfkhjkkhdfcnjaa
open Go
set_option linter.unusedVariables false
set_option linter.unusedSimpArgs false
set_option maxRecDepth 100000

theorem lu_mod2_c (x n : Int) (hn : InI n) (nn : Nm) : CallsA Try.prog 20 [di x, di n] Hp.none nn (Pu (di (modI x n)) Hp.none) := by
  obtain ⟨code, h1, h2⟩ := c20_ok
  refine callsA_of TN_ok mixed (N := fun t => (0, t)) Try.func20 h1 h2 r20_ok [] false js_nil js_nil' (by simp [Try.f20]) ?_
  simp (config := { maxSteps := 500000 }) only [↓vp, vv, implies_true, forall_const, undef, InI, ↓reduceIte, simprocAttr, c20, r20, r20, TN, selMod, hn, Pu]
theorem lu_few_c (L : List (List D)) (nn : Nm) : CallsA Try.prog 15 [.sl L] Hp.none nn (Pu (db (decide ((L.length : Int) ≤ 400))) Hp.none) := by
  obtain ⟨code, h1, h2⟩ := c15_ok
  refine callsA_of (T0_ok _) mixed (N := fun t => (0, t)) Try.func15 h1 h2 r15_ok [] false js_nil js_nil' (by simp [Try.f15]) ?_
  simp (config := { maxSteps := 500000 }) only [↓vp, vv, implies_true, forall_const, undef, InI, ↓reduceIte, simprocAttr, c15, r15, r15, Pu]
def selFewL : List D → Option (Prop × D)
  | [.sl L] => some (True, db (decide ((L.length : Int) ≤ 400)))
  | _ => Option.none
def netL : Net := ⟨[⟨#[97]⟩, ⟨#[98]⟩], [⟨⟨#[103]⟩, 0, 1, 10, 0, 0, [⟨0, 0, 1000⟩, ⟨10, 0, 1000⟩]⟩], [⟨⟨#[112]⟩, 0, 0⟩, ⟨⟨#[113]⟩, 1, 0⟩], [], 0, 0⟩
theorem netL_ck : checkI netL = 0 := by kernel_rfl
theorem netL_1 : fckI netL ⟨[3], [3, -3], []⟩ = 0 := by kernel_rfl
theorem netL_0 : fckI netL ⟨[0], [0, 0], []⟩ = 0 := by kernel_rfl
def TAw24 : Tbl := tc 44 (rowPu (selNP FckPre fun n p => .tup [(needR n p).enc, di (fckI n p)])) (tc 48 rowChg T0)
theorem TAw24_ok : TblOk Try.prog TAw24 := tc_np f44_ok (fun n p h nn => need_c n p h nn) (tc_chg (T0_ok _))
set_option maxHeartbeats 8000000 in
theorem awake24_c (nn : Nm) : CallsA Try.prog 43 [] Hp.none nn (Pu (db true) Hp.none) := by
  obtain ⟨code, h1, h2⟩ := c43_ok
  refine callsA_of TAw24_ok mixed (N := fun t => (0, t)) Try.func43 h1 h2 r43_ok [] false js_nil js_nil' (by simp [Try.f43]) ?_
  simp (config := { maxSteps := 500000 }) only [↓vp, vv, implies_true, forall_const, undef, InI, ↓reduceIte, simprocAttr, c43]
  refine vc_wk ((weak_eq [] [(0, 1), (0, 9), (0, 12), (0, 14), (0, 17)] [(1, .ptr (0, 1) 0 0 0)]
      (H' := hp [((0, 1), ⟨0, 6, [[.own (0, 9) 0 0 2, .own (0, 14) 0 0 1, .own (0, 17) 0 0 2, .mt, di 0, di 0]]⟩), ((0, 9), ⟨0, 1, [[ds ⟨#[97]⟩], [ds ⟨#[98]⟩]]⟩), ((0, 12), ⟨0, 3, [[di 0, di 0, di 1000], [di 10, di 0, di 1000]]⟩), ((0, 14), ⟨0, 7, [[ds ⟨#[103]⟩, di 0, di 1, di 10, di 0, di 0, .own (0, 12) 0 0 2]]⟩), ((0, 17), ⟨0, 3, [[ds ⟨#[112]⟩, di 0, di 0], [ds ⟨#[113]⟩, di 1, di 0]]⟩)])
      (by simp (config := { maxSteps := 500000 }) only [↓vp, vv, implies_true, forall_const, undef, InI, ↓reduceIte, simprocAttr, coverS]) (by simp (config := { maxSteps := 500000 }) only [↓vp, vv, implies_true, forall_const, undef, InI, ↓reduceIte, simprocAttr, refsF]) (by simp (config := { maxSteps := 500000 }) only [↓vp, vv, implies_true, forall_const, undef, InI, ↓reduceIte, simprocAttr, ]) (by simp) (by simp (config := { maxSteps := 500000 }) only [↓vp, vv, implies_true, forall_const, undef, InI, ↓reduceIte, simprocAttr, hp_cons, hp_nil]; try rfl)).trans
      ((weak_fz [(0, 12)] [(0, 1), (0, 9), (0, 14), (0, 17)] (l := [(1, .ptr (0, 1) 0 0 0)]) (h := _) (l' := [(1, .ptr (0, 1) 0 0 0)]) (H' := ((((Hp.none.put (0, 17) ⟨0, 3, [[ds ⟨#[112]⟩, di 0, di 0], [ds ⟨#[113]⟩, di 1, di 0]]⟩).put (0, 14) ⟨0, 7, [[ds ⟨#[103]⟩, di 0, di 1, di 10, di 0, di 0, .sl [[di 0, di 0, di 1000], [di 10, di 0, di 1000]]]]⟩).put (0, 9) ⟨0, 1, [[ds ⟨#[97]⟩], [ds ⟨#[98]⟩]]⟩).put (0, 1) ⟨0, 6, [[.own (0, 9) 0 0 2, .own (0, 14) 0 0 1, .own (0, 17) 0 0 2, .mt, di 0, di 0]]⟩)) (by simp (config := { maxSteps := 500000 }) only [↓vp, vv, implies_true, forall_const, undef, InI, ↓reduceIte, simprocAttr, vz, listB, okKd, okK, lendKd, lendK, lendOk1B, frzF, Option.map_some, cond_true, cond_false, decide_true, decide_false, Bool.and_self, hp_at]) (by simp (config := { maxSteps := 500000 }) only [↓vp, vv, implies_true, forall_const, undef, InI, ↓reduceIte, simprocAttr, vz, listB, okKd, okK, lendKd, lendK, lendOk1B, frzF, Option.map_some, cond_true, cond_false, decide_true, decide_false, Bool.and_self, hp_at]) (by simp (config := { maxSteps := 500000 }) only [↓vp, vv, implies_true, forall_const, undef, InI, ↓reduceIte, simprocAttr, vz, listB, okKd, okK, lendKd, lendK, lendOk1B, frzF, Option.map_some, cond_true, cond_false, decide_true, decide_false, Bool.and_self, hp_at]; try rfl) (by simp (config := { maxSteps := 500000 }) only [↓vp, vv, implies_true, forall_const, undef, InI, ↓reduceIte, simprocAttr, vz, listB, okKd, okK, lendKd, lendK, lendOk1B, frzF, Option.map_some, cond_true, cond_false, decide_true, decide_false, Bool.and_self, hp_at]; try rfl) (by simp (config := { maxSteps := 500000 }) only [↓vp, vv, implies_true, forall_const, undef, InI, ↓reduceIte, simprocAttr, vz, listB, okKd, okK, lendKd, lendK, lendOk1B, frzF, Option.map_some, cond_true, cond_false, decide_true, decide_false, Bool.and_self, refsF, hp_at]) (by simp (config := { maxSteps := 500000 }) only [↓vp, vv, implies_true, forall_const, undef, InI, ↓reduceIte, simprocAttr, vz, listB, okKd, okK, lendKd, lendK, lendOk1B, frzF, Option.map_some, cond_true, cond_false, decide_true, decide_false, Bool.and_self, hp_at]) (by simp)).trans
      ((weak_eq [] [(0, 1), (0, 9), (0, 14), (0, 17)] [(1, .ptr (0, 1) 0 0 0)]
      (H' := hp [((0, 1), ⟨0, 6, [[.own (0, 9) 0 0 2, .own (0, 14) 0 0 1, .own (0, 17) 0 0 2, .mt, di 0, di 0]]⟩), ((0, 9), ⟨0, 1, [[ds ⟨#[97]⟩], [ds ⟨#[98]⟩]]⟩), ((0, 14), ⟨0, 7, [[ds ⟨#[103]⟩, di 0, di 1, di 10, di 0, di 0, .sl [[di 0, di 0, di 1000], [di 10, di 0, di 1000]]]]⟩), ((0, 17), ⟨0, 3, [[ds ⟨#[112]⟩, di 0, di 0], [ds ⟨#[113]⟩, di 1, di 0]]⟩)])
      (by simp (config := { maxSteps := 500000 }) only [↓vp, vv, implies_true, forall_const, undef, InI, ↓reduceIte, simprocAttr, coverS]) (by simp (config := { maxSteps := 500000 }) only [↓vp, vv, implies_true, forall_const, undef, InI, ↓reduceIte, simprocAttr, refsF]) (by simp (config := { maxSteps := 500000 }) only [↓vp, vv, implies_true, forall_const, undef, InI, ↓reduceIte, simprocAttr, ]) (by simp) (by simp (config := { maxSteps := 500000 }) only [↓vp, vv, implies_true, forall_const, undef, InI, ↓reduceIte, simprocAttr, hp_cons, hp_nil]; try rfl)).trans
      (weak_fz [(0, 9), (0, 14), (0, 17)] [(0, 1)] (l := [(1, .ptr (0, 1) 0 0 0)]) (h := _) (l' := [(1, .ptr (0, 1) 0 0 0)]) (H' := (Hp.none.put (0, 1) ⟨0, 6, [[.sl (netL.nodes.map nmRow), .sl (netL.segs.map Seg.row), .sl (netL.ports.map Port.row), .mt, di 0, di 0]]⟩)) (by simp (config := { maxSteps := 500000 }) only [↓vp, vv, implies_true, forall_const, undef, InI, ↓reduceIte, simprocAttr, vz, listB, okKd, okK, lendKd, lendK, lendOk1B, frzF, Option.map_some, cond_true, cond_false, decide_true, decide_false, Bool.and_self, hp_at, netL, nmRow, Seg.row, Port.row, Pt.row, List.map_cons, List.map_nil]) (by simp (config := { maxSteps := 500000 }) only [↓vp, vv, implies_true, forall_const, undef, InI, ↓reduceIte, simprocAttr, vz, listB, okKd, okK, lendKd, lendK, lendOk1B, frzF, Option.map_some, cond_true, cond_false, decide_true, decide_false, Bool.and_self, hp_at, netL, nmRow, Seg.row, Port.row, Pt.row, List.map_cons, List.map_nil]) (by simp (config := { maxSteps := 500000 }) only [↓vp, vv, implies_true, forall_const, undef, InI, ↓reduceIte, simprocAttr, vz, listB, okKd, okK, lendKd, lendK, lendOk1B, frzF, Option.map_some, cond_true, cond_false, decide_true, decide_false, Bool.and_self, hp_at, netL, nmRow, Seg.row, Port.row, Pt.row, List.map_cons, List.map_nil]; try rfl) (by simp (config := { maxSteps := 500000 }) only [↓vp, vv, implies_true, forall_const, undef, InI, ↓reduceIte, simprocAttr, vz, listB, okKd, okK, lendKd, lendK, lendOk1B, frzF, Option.map_some, cond_true, cond_false, decide_true, decide_false, Bool.and_self, hp_at, netL, nmRow, Seg.row, Port.row, Pt.row, List.map_cons, List.map_nil]; try rfl) (by simp (config := { maxSteps := 500000 }) only [↓vp, vv, implies_true, forall_const, undef, InI, ↓reduceIte, simprocAttr, vz, listB, okKd, okK, lendKd, lendK, lendOk1B, frzF, Option.map_some, cond_true, cond_false, decide_true, decide_false, Bool.and_self, refsF, hp_at, netL, nmRow, Seg.row, Port.row, Pt.row, List.map_cons, List.map_nil]) (by simp (config := { maxSteps := 500000 }) only [↓vp, vv, implies_true, forall_const, undef, InI, ↓reduceIte, simprocAttr, vz, listB, okKd, okK, lendKd, lendK, lendOk1B, frzF, Option.map_some, cond_true, cond_false, decide_true, decide_false, Bool.and_self, hp_at, netL, nmRow, Seg.row, Port.row, Pt.row, List.map_cons, List.map_nil]) (by simp))))) ?_
  have hn1 : netOf1 [D.sl (netL.nodes.map nmRow), .sl (netL.segs.map Seg.row), .sl (netL.ports.map Port.row), .sl [], di 0, di 0] = some netL := netOf1_row netL
  have hp1 : plnOf1 [D.sl [[di 3]], .sl [[di 3], [di (-3)]], .sl []] = some ⟨[3], [3, -3], []⟩ := plnOf1_row ⟨[3], [3, -3], []⟩
  have hp0 : plnOf1 [D.sl [[di 0]], .sl [[di 0], [di 0]], .sl []] = some ⟨[0], [0, 0], []⟩ := plnOf1_row ⟨[0], [0, 0], []⟩
  have nz1 : NetSz netL := ⟨by decide, by decide, by decide, by decide, fun s hs => by rw [List.mem_singleton.1 hs]; decide⟩
  have hz1 : FckPre netL ⟨[3], [3, -3], []⟩ := ⟨nz1, ⟨by decide, by decide, by decide⟩⟩
  have hz0 : FckPre netL ⟨[0], [0, 0], []⟩ := ⟨nz1, ⟨by decide, by decide, by decide⟩⟩
  have f1 := netL_1
  have f0 := netL_0
  have r1 : needR netL ⟨[3], [3, -3], []⟩ = ⟨[true], [true, true]⟩ := if_pos f1
  have r0 : needR netL ⟨[0], [0, 0], []⟩ = ⟨[false], [false, false]⟩ := if_pos f0
  have hl1 : lnpOf1 [D.sl [[db true]], .sl [[db true], [db true]]] = some ⟨[true], [true, true]⟩ := lnpOf1_row ⟨[true], [true, true]⟩
  have hl0 : lnpOf1 [D.sl [[db false]], .sl [[db false], [db false]]] = some ⟨[false], [false, false]⟩ := lnpOf1_row ⟨[false], [false, false]⟩
  have v1 : lvB netL ⟨[true], [true, true]⟩ = true := rfl
  have v0 : lvB netL ⟨[false], [false, false]⟩ = true := rfl
  have a1 : lall ⟨[true], [true, true]⟩ = [true, true, true] := rfl
  have a0 : lall ⟨[false], [false, false]⟩ = [false, false, false] := rfl
  have d1 : dif [false, false, false] [true, true, true] 3 = [0, 1, 2] := by decide
  have d2 : dif [true, true, true] [false, false, false] 3 = [] := by decide
  have ck := netL_ck
  simp (config := { maxSteps := 500000 }) only [↓vp, vv, implies_true, forall_const, undef, InI, ↓reduceIte, simprocAttr, c43_1, r43, Pu, TAw24, selNP, rowChg, chgR, ChH, hn1, hp1, hp0, nz1, hz1, hz0, f1, f0, r1, r0, hl1, hl0, v1, v0, a1, a0, d1, d2, ck, Lnp.enc, lnpD, bRow, nRow, List.map_cons, List.map_nil, List.length_cons, List.length_nil]
def PrmPre (n : Net) (l : Lnp) (p : Pln) : Prop := FckPre n p ∧ LnpSz l
def TL24 : Tbl := tc 15 (rowPu selFewL) (tc 43 (rowPu selAw) (tc 17 rowNew (tc 18 (rowSrc (sel0 NetOk) Net.enc) (tc 25 (rowSrc selPlan Pln.enc) (tc 44 (rowPu (selNP FckPre fun n p => .tup [(needR n p).enc, di (fckI n p)])) (tc 45 (rowPu (selNLP PrmPre fun n l p => .tup [db (prmI n l p).1, di (prmI n l p).2])) (tc 20 (rowPu selMod) (tc 47 rowRaw (tc 46 rowAll (tc 48 rowChg (tc 49 (rowPu selSB) T0)))))))))))
theorem TL24_ok : TblOk Try.prog TL24 := by
  refine tc_pu f15_ok (fun args pre d h hp nn => ?_) (tc_pu f43_ok (fun args pre d h hp nn => ?_) (tc_new (tc_net (tc_plan (tc_np f44_ok (fun n p h nn => need_c n p h nn) (tc_nlp f45_ok (fun n l p h nn => permits_c n l p h.1 h.2 nn) (tc_pu f20_ok (fun args pre d h hp nn => ?_) (tc_raw (tc_all (tc_chg (tc_sb (T0_ok _))))))))))))
  · unfold selFewL at h
    split at h <;> cases h
    exact lu_few_c _ nn
  · unfold selAw at h
    split at h <;> cases h
    exact awake24_c nn
  · unfold selMod at h
    split at h <;> cases h
    exact lu_mod2_c _ _ hp nn
def LnF (A : List Bool) (O C : List Nat) (l : List (Nat × D)) : List (Nat × D) := (14, .own (0, 112) 2 0 A.length) :: (15, .own (0, 114) 2 0 A.length) :: (18, .own (0, 5130) C.length 0 C.length) :: l
def LnH (Y B : List Bool) (O C : List Nat) : Hp := (((Hp.none.put (0, 5130) ⟨C.length, 1, C.map nRow⟩).put (0, 130) ⟨O.length, 1, O.map nRow⟩).put (0, 114) ⟨2, 1, B.map bRow⟩).put (0, 112) ⟨2, 1, Y.map bRow⟩
def LnG (Y B : List Bool) (C : List Nat) : Hp := ((Hp.none.put (0, 5130) ⟨C.length, 1, C.map nRow⟩).put (0, 114) ⟨2, 1, B.map bRow⟩).put (0, 112) ⟨2, 1, Y.map bRow⟩
theorem nRow_g (o : List Nat) (j : Nat) (h : j < o.length) : (o.map nRow).getD j [] = [di (o[j] : Nat)] := by rw [getD_map nRow o j h]; rfl
theorem bRow_d (Y : List Bool) (k : Nat) (h : k < Y.length) : (Y.map bRow).getD k [] = [db (Y.getD k false)] := by
  rw [bRow_g Y k h, List.getD_eq_getElem?_getD, List.getElem?_eq_getElem h]; rfl
set_option maxHeartbeats 16000000 in
theorem ln_end (A B : List Bool) (hl : A.length = B.length) (hA : A.length ≤ 1000) (O C : List Nat) (hO : dif A B A.length = O) (hC : dif B A A.length = C) (F : Fr) (H : Hp)
    (hw : Weak [] ⟨F, H⟩ ⟨fr (LnF A O C [(17, .own (0, 130) O.length 0 O.length)]), LnH A B O C⟩) :
    vc TL24 (fun t => (0, t)) [] (.weak c7_11) (finQ r7 [] false (Pu (db true) Hp.none)) ⟨F, H⟩ := by
  have lO : O.length ≤ A.length := hO ▸ dif_le A B A.length
  have lC : C.length ≤ A.length := hC ▸ dif_le B A A.length
  refine vc_wk hw ?_
  simp (config := { maxSteps := 500000 }) only [↓vp, vv, implies_true, forall_const, undef, InI, ↓reduceIte, simprocAttr, c7_11, LnF, LnH]
  refine rng_loop O.length (fun j => ⟨fr (LnF A O C [(17, .own (0, 130) O.length 0 O.length), (20, di (j : Nat))]), LnH (setAll A (O.take j) true) B O C⟩) (fun _ => True) (weak_eq [] [(0, 112), (0, 114), (0, 130), (0, 5130)] (LnF A O C [(17, .own (0, 130) O.length 0 O.length), (20, di 0)]) (by simp (config := { maxSteps := 500000 }) only [↓vp, vv, implies_true, forall_const, undef, InI, ↓reduceIte, simprocAttr, coverS, LnF, LnH, nRow, bRow, setAll, List.take_zero, List.foldl_nil]) (by simp (config := { maxSteps := 500000 }) only [↓vp, vv, implies_true, forall_const, undef, InI, ↓reduceIte, simprocAttr, refsF, LnF, LnH, nRow, bRow, setAll, List.take_zero, List.foldl_nil]) (by simp (config := { maxSteps := 500000 }) only [↓vp, vv, implies_true, forall_const, undef, InI, ↓reduceIte, simprocAttr, LnF, LnH, nRow, bRow, setAll, List.take_zero, List.foldl_nil]) (by simp) (by simp (config := { maxSteps := 500000 }) only [↓vp, vv, implies_true, forall_const, undef, InI, ↓reduceIte, simprocAttr, LnF, LnH, nRow, bRow, setAll, List.take_zero, List.foldl_nil]; try rfl)) trivial (fun j hj _ => ?_) (fun _ => ?_)
  · have hj' : (j : Int) < O.length := by omega
    have hjn := idx_nn j
    have w1 := idx_next (j := j) (by omega)
    have hg := nRow_g O j hj
    have hc := chg_open (A := A) (B := B) hl (j := j) (by rw [hO]; exact hj)
    simp only [hO] at hc
    have ht := setAll_take A O true j hj
    obtain ⟨c1, c2⟩ := hc
    generalize O[j] = o at hg c1 c2 ht
    obtain ⟨Y, hY⟩ : ∃ Y, setAll A (O.take j) true = Y := ⟨_, rfl⟩
    have lY : Y.length = A.length := by rw [← hY]; exact setAll_len ..
    rw [hY] at c2 ht
    have gY := bRow_d Y o (by omega)
    rw [c2] at gY
    have e1 : (Y.map bRow).set o [db true] = (setAll A (O.take (j + 1)) true).map bRow := by rw [ht]; exact (List.map_set ..).symm
    have o0 := idx_nn o
    have o1 : (o : Int) < A.length := by omega
    have o2 : ¬ (o : Int) < 0 := by omega
    have o3 : ¬ (A.length : Int) ≤ (o : Int) := by omega
    have o4 : o < Y.length := by omega
    simp (config := { maxSteps := 500000 }) only [↓vp, vv, implies_true, forall_const, undef, InI, ↓reduceIte, simprocAttr, c7_4, c7_3, c7_2, c7_1, LnF, LnH, hY, hj, hj', hjn, Int.toNat_natCast, hg, gY, o0, o1, o2, o3, o4, c1, lY, e1, w1, decide_true, decide_false]
    exact rng_next hj (weak_eq [] [(0, 112), (0, 114), (0, 130), (0, 5130)] (LnF A O C [(17, .own (0, 130) O.length 0 O.length), (20, di (j + 1 : Nat))]) (by simp (config := { maxSteps := 500000 }) only [↓vp, vv, implies_true, forall_const, undef, InI, ↓reduceIte, simprocAttr, coverS, LnF, LnH, nRow, bRow, w1]) (by simp (config := { maxSteps := 500000 }) only [↓vp, vv, implies_true, forall_const, undef, InI, ↓reduceIte, simprocAttr, refsF, LnF, LnH, nRow, bRow, w1]) (by simp (config := { maxSteps := 500000 }) only [↓vp, vv, implies_true, forall_const, undef, InI, ↓reduceIte, simprocAttr, LnF, LnH, nRow, bRow, w1]) (by simp) (by simp (config := { maxSteps := 500000 }) only [↓vp, vv, implies_true, forall_const, undef, InI, ↓reduceIte, simprocAttr, LnF, LnH, nRow, bRow, w1]; try rfl)) trivial
  · rw [List.take_length]
    have lA1 : (setAll A O true).length = A.length := setAll_len ..
    obtain ⟨A1, hA1⟩ : ∃ A1, setAll A O true = A1 := ⟨_, rfl⟩
    rw [hA1] at lA1
    rw [hA1]
    simp (config := { maxSteps := 500000 }) only [↓vp, vv, implies_true, forall_const, undef, InI, ↓reduceIte, simprocAttr, c7_4, c7_10, LnF, LnH, Int.lt_irrefl]
    refine rng_loop C.length (fun j => ⟨fr (LnF A O C [(21, di (j : Nat))]), LnG (setAll A1 (C.take j) false) B C⟩) (fun _ => True) (weak_eq [] [(0, 112), (0, 114), (0, 5130)] (LnF A O C [(21, di 0)]) (by simp (config := { maxSteps := 500000 }) only [↓vp, vv, implies_true, forall_const, undef, InI, ↓reduceIte, simprocAttr, coverS, LnF, LnG, nRow, bRow, setAll, List.take_zero, List.foldl_nil]) (by simp (config := { maxSteps := 500000 }) only [↓vp, vv, implies_true, forall_const, undef, InI, ↓reduceIte, simprocAttr, refsF, LnF, LnG, nRow, bRow, setAll, List.take_zero, List.foldl_nil]) (by simp (config := { maxSteps := 500000 }) only [↓vp, vv, implies_true, forall_const, undef, InI, ↓reduceIte, simprocAttr, LnF, LnG, nRow, bRow, setAll, List.take_zero, List.foldl_nil]) (by simp) (by simp (config := { maxSteps := 500000 }) only [↓vp, vv, implies_true, forall_const, undef, InI, ↓reduceIte, simprocAttr, LnF, LnG, nRow, bRow, setAll, List.take_zero, List.foldl_nil]; try rfl)) trivial (fun j hj _ => ?_) (fun _ => ?_)
    · have hj' : (j : Int) < C.length := by omega
      have hjn := idx_nn j
      have w1 := idx_next (j := j) (by omega)
      have hg := nRow_g C j hj
      have hc := chg_shut (A := A) (B := B) hl (j := j) (by rw [hC]; exact hj)
      simp only [hC, hO, hA1] at hc
      have ht := setAll_take A1 C false j hj
      obtain ⟨c1, c2⟩ := hc
      generalize C[j] = o at hg c1 c2 ht
      obtain ⟨Y, hY⟩ : ∃ Y, setAll A1 (C.take j) false = Y := ⟨_, rfl⟩
      have lY : Y.length = A.length := by rw [← hY, setAll_len]; exact lA1
      rw [hY] at c2 ht
      have gY := bRow_d Y o (by omega)
      rw [c2] at gY
      have e1 : (Y.map bRow).set o [db false] = (setAll A1 (C.take (j + 1)) false).map bRow := by rw [ht]; exact (List.map_set ..).symm
      have o0 := idx_nn o
      have o1 : (o : Int) < A.length := by omega
      have o2 : ¬ (o : Int) < 0 := by omega
      have o3 : ¬ (A.length : Int) ≤ (o : Int) := by omega
      have o4 : o < Y.length := by omega
      simp (config := { maxSteps := 500000 }) only [↓vp, vv, implies_true, forall_const, undef, InI, ↓reduceIte, simprocAttr, c7_8, c7_7, c7_6, c7_5, LnF, LnG, hY, hj, hj', hjn, Int.toNat_natCast, hg, gY, o0, o1, o2, o3, o4, c1, lY, e1, w1, decide_true, decide_false]
      exact rng_next hj (weak_eq [] [(0, 112), (0, 114), (0, 5130)] (LnF A O C [(21, di (j + 1 : Nat))]) (by simp (config := { maxSteps := 500000 }) only [↓vp, vv, implies_true, forall_const, undef, InI, ↓reduceIte, simprocAttr, coverS, LnF, LnG, nRow, bRow, w1]) (by simp (config := { maxSteps := 500000 }) only [↓vp, vv, implies_true, forall_const, undef, InI, ↓reduceIte, simprocAttr, refsF, LnF, LnG, nRow, bRow, w1]) (by simp (config := { maxSteps := 500000 }) only [↓vp, vv, implies_true, forall_const, undef, InI, ↓reduceIte, simprocAttr, LnF, LnG, nRow, bRow, w1]) (by simp) (by simp (config := { maxSteps := 500000 }) only [↓vp, vv, implies_true, forall_const, undef, InI, ↓reduceIte, simprocAttr, LnF, LnG, nRow, bRow, w1]; try rfl)) trivial
    · rw [List.take_length]
      have hfin := chg_all hl
      rw [hO, hC, hA1] at hfin
      rw [hfin]
      have tkB : (B.map bRow).take A.length = B.map bRow := List.take_of_length_le (by simp; omega)
      have hbo : lsOf boolOf1 (B.map bRow) = some B := lsOf_map boolOf1_row B
      have pB : ∀ j : Bool, j ∈ B → ∀ d : D, d ∈ bRow j → d.plain = true := fun j _ d hd => by rw [List.mem_singleton.1 hd]; rfl
      have lB : B.length ≤ 2000000 := by omega
      simp (config := { maxSteps := 500000 }) only [↓vp, vv, implies_true, forall_const, undef, InI, ↓reduceIte, simprocAttr, c7_8, c7_9, r7, TL24, selSB, selAw, LnF, LnG, Int.lt_irrefl, tkB, hbo, pB, lB, Pu]
      exact ⟨pB, by omega⟩
set_option maxHeartbeats 16000000 in
theorem LN_c (ns : List Int) (hns : ∀ n ∈ ns, InI n) (which : Int) (nn : Nm) : CallsA Try.prog 7 [.sl (ns.map fun n => [di n]), di which] Hp.none nn (Pu (db true) Hp.none) := by
  obtain ⟨code, h1, h2⟩ := c7_ok
  refine callsA_of TL24_ok mixed (N := fun t => (0, t)) Try.func7 h1 h2 r7_ok [] false js_nil js_nil' (by simp [Try.f7]) ?_
  have ho : SrcOk ((ns.map fun n => [di n]).take 2000) 0 := src_new ns hns
  cases hf : decide ((ns.length : Int) ≤ 400) with
  | false => simp (config := { maxSteps := 500000 }) only [↓vp, vv, implies_true, forall_const, undef, InI, ↓reduceIte, simprocAttr, c7, r7, TL24, selFewL, selAw, hf, Pu]
  | true =>
    simp (config := { maxSteps := 500000 }) only [↓vp, vv, implies_true, forall_const, undef, InI, ↓reduceIte, simprocAttr, c7, c7_14, TL24, selFewL, rowNew, sel0, hf, ho, Net.enc]
    intro a1 n hn
    have hck := check_ok hn
    have hv := check0 hck
    have hpp := ports1 hn
    have hn1 : netOf1 [D.sl (n.nodes.map nmRow), .sl (n.segs.map Seg.row), .sl (n.ports.map Port.row), .sl (n.sts.map Stn.row), di n.vap, di n.set] = some n := netOf1_row n
    have hl1 : ∀ l : Lnp, lnpOf1 [D.sl (l.segs.map bRow), .sl (l.ports.map bRow)] = some l := lnpOf1_row
    have hnz := net_sz hn
    simp (config := { maxSteps := 500000 }) only [↓vp, vv, implies_true, forall_const, undef, InI, ↓reduceIte, simprocAttr, TL24, selPlan, hn1, hv, hpp, a1.2, Pln.enc, plnD]
    intro a2 p hpl
    have hz := plan_sz hn hpl
    have f0 := plan0 hck hpl
    have hnr : needR n p = needL p := if_pos f0
    have hpm := prm_need hck f0
    have hls : LnpSz (needL p) := ⟨by have := hz.2.rates; simp [needL]; exact this, by have := hz.2.ports; simp [needL]; exact this⟩
    have hpp2 : PrmPre n (needL p) p := ⟨hz, hls⟩
    have hp1 : plnOf1 [D.sl (p.rates.map iRow), .sl (p.ports.map iRow), .sl (p.pumps.map bRow)] = some p := plnOf1_row p
    have e1 : ((needL p).segs.length : Int) = n.segs.length := by have := hpl.rl; simp [needL]; omega
    have e2 : ((needL p).ports.length : Int) = n.ports.length := by have := hpl.ql; simp [needL]; omega
    have e1' : (needL p).segs.length = n.segs.length := by omega
    have e2' : (needL p).ports.length = n.ports.length := by omega
    simp (config := { maxSteps := 500000 }) only [↓vp, vv, implies_true, forall_const, undef, InI, ↓reduceIte, simprocAttr, TL24, selNP, selNLP, hn1, hp1, hl1, hz, hnr, f0, hpm, hpp2, Lnp.enc, lnpD, e1', e2', bne_self_eq_false]
    have hsl := hn.slen
    have hnl := hn.nlen
    have hql := hn.ports.len
    obtain ⟨b0, b1, _⟩ := modI_in which n.segs.length
    have b1 := b1 (by omega)
    obtain ⟨kn, hkn⟩ : ∃ kn : Nat, modI which n.segs.length = kn := ⟨(modI which n.segs.length).toNat, by omega⟩
    rw [hkn] at b0 b1
    have hI : InI (n.segs.length : Int) := by omega
    have hrl := hpl.rl
    have hkr : kn < p.rates.length := by omega
    have hkr' : (kn : Int) < p.rates.length := by omega
    have hk1 : kn < n.segs.length := by omega
    have hql2 := prm_less hck f0 kn hkr
    obtain ⟨q, hqd⟩ : ∃ q, lessL p kn = q := ⟨_, rfl⟩
    have eS : ((needL p).segs.map bRow).set kn [db false] = q.segs.map bRow := by rw [← hqd]; exact (List.map_set ..).symm
    have hq1 : lnpOf1 [D.sl (q.segs.map bRow), .sl ((needL p).ports.map bRow)] = some q := by rw [← hqd]; exact lnpOf1_row _
    have hqs : q.segs.length = n.segs.length := by rw [← hqd]; simp [lessL, hrl]
    have hqz : LnpSz q := by rw [← hqd]; exact ⟨by simp [lessL]; omega, by have := hls.2; simpa [lessL, needL] using this⟩
    have tkS : (q.segs.map bRow).take n.segs.length = q.segs.map bRow := List.take_of_length_le (by simp [hqs])
    rw [hqd] at hql2
    have hqq : PrmPre n q p := ⟨hz, hqz⟩
    have y1 : n.segs.length * 1 ≤ 140737488355328 := by omega
    have y2 : n.segs.length ≤ 4611686018427387904 := by omega
    have gR := iRow_at p.rates kn hkr
    have kn0 := idx_nn kn
    have bx : ∀ b : Bool, (b != b) = false := fun b => by cases b <;> rfl
    have hgk : ∃ b, ((needL p).segs.map bRow).getD kn [] = [db b] := ⟨_, bRow_g _ kn (by omega)⟩
    obtain ⟨bk, hgk⟩ := hgk
    have rp := rows_pl bRow (fun _ => rfl) q.segs
    simp (config := { maxSteps := 500000 }) only [↓vp, vv, implies_true, forall_const, undef, InI, ↓reduceIte, simprocAttr, c7_13, TL24, selMod, selNLP, hn1, hp1, hq1, hqq, hql2, hI, hkn, b1, kn0, hk1, hkr, hkr', Int.toNat_natCast, e1', bRow_len, hgk, eS, tkS, hqs, y1, y2, gR, bx, bne_self_eq_false]
    refine ⟨fun _ _ d hd => by rw [List.mem_singleton.1 hd]; rfl, ?_⟩
    simp (config := { maxSteps := 500000 }) only [↓vp, vv, implies_true, forall_const, undef, InI, ↓reduceIte, simprocAttr, c7_12, TL24, rowRaw, RawR_all, hn1, hnz, a2.2]
    intro a3 X Y hXY
    obtain ⟨hX, hY⟩ := hXY
    have tkX : (X.map bRow).take n.segs.length = X.map bRow := List.take_of_length_le (by simp [hX])
    have tkY : (Y.map bRow).take n.ports.length = Y.map bRow := List.take_of_length_le (by simp [hY])
    have hlX : lnpOf1 [D.sl (X.map bRow), .sl (Y.map bRow)] = some ⟨X, Y⟩ := lnpOf1_row ⟨X, Y⟩
    have hlN : lnpOf1 [D.sl ((needL p).segs.map bRow), .sl ((needL p).ports.map bRow)] = some (needL p) := lnpOf1_row (needL p)
    have szX : LnpSz ⟨X, Y⟩ := ⟨by dsimp only; omega, by dsimp only; omega⟩
    have pX : ∀ (j : Bool) (d : D), d ∈ bRow j → d.plain = true := fun j d hd => by rw [List.mem_singleton.1 hd]; rfl
    have hN : (lall ⟨X, Y⟩).length = n.segs.length + n.ports.length := by simp [lall, hX, hY]
    have hNB : (lall (needL p)).length = n.segs.length + n.ports.length := by simp [lall]; omega
    have t1 : ((lall ⟨X, Y⟩).map bRow).take n.segs.length = X.map bRow := by
      rw [← List.map_take]
      show ((X ++ Y).take _).map _ = _
      rw [← hX, List.take_left]
    have t2 : ((lall ⟨X, Y⟩).map bRow).drop n.segs.length = Y.map bRow := by
      rw [← List.map_drop]
      show ((X ++ Y).drop _).map _ = _
      rw [← hX, List.drop_left]
    have vX : lvB n ⟨X, Y⟩ = true := by unfold lvB; rw [if_pos (by simp [hX])]; simp [hY]
    have vN : lvB n (needL p) = true := by unfold lvB; rw [if_pos (by simp; omega)]; simp; omega
    have j1 : n.segs.length ≤ n.segs.length + n.ports.length := by omega
    have j2 : (n.segs.length : Int) ≤ n.segs.length + n.ports.length := by omega
    have j3 : n.segs.length + n.ports.length - n.segs.length = n.ports.length := by omega
    have fR := fun l : List Nat => flatRs_map nRow (fun _ => rfl) l
    simp (config := { maxSteps := 500000 }) only [↓vp, vv, implies_true, forall_const, undef, InI, ↓reduceIte, simprocAttr, TL24, rowAll, rowChg, chgR, ChH, hn1, hnz, hck, hX, hY, tkX, tkY, hlX, hlN, szX, hls, pX, hN, hNB, t1, t2, vX, vN, j1, j2, j3, fR, Int.toNat_natCast, Nat.sub_zero]
    refine ⟨⟨fun j _ d hd => pX j d hd, fun j _ d hd => pX j d hd⟩, ⟨by omega, by omega⟩, ⟨by omega, by omega⟩, fun j _ d hd => pX j d hd, ?_⟩
    exact ln_end (lall ⟨X, Y⟩) (lall (needL p)) (by omega) (by omega) _ _ rfl rfl _ _ (weak_eq [] [(0, 112), (0, 114), (0, 130), (0, 5130)] (LnF (lall ⟨X, Y⟩) (dif (lall ⟨X, Y⟩) (lall (needL p)) (lall ⟨X, Y⟩).length) (dif (lall (needL p)) (lall ⟨X, Y⟩) (lall ⟨X, Y⟩).length) [(17, .own (0, 130) (dif (lall ⟨X, Y⟩) (lall (needL p)) (lall ⟨X, Y⟩).length).length 0 (dif (lall ⟨X, Y⟩) (lall (needL p)) (lall ⟨X, Y⟩).length).length)]) (by simp (config := { maxSteps := 500000 }) only [↓vp, vv, implies_true, forall_const, undef, InI, ↓reduceIte, simprocAttr, coverS, LnF, LnH, hN, nRow, bRow]) (by simp (config := { maxSteps := 500000 }) only [↓vp, vv, implies_true, forall_const, undef, InI, ↓reduceIte, simprocAttr, refsF, LnF, LnH, hN, nRow, bRow]) (by simp (config := { maxSteps := 500000 }) only [↓vp, vv, implies_true, forall_const, undef, InI, ↓reduceIte, simprocAttr, LnF, LnH, hN, nRow, bRow]) (by simp) (by simp (config := { maxSteps := 500000 }) only [↓vp, vv, implies_true, forall_const, undef, InI, ↓reduceIte, simprocAttr, LnF, LnH, hN, nRow, bRow]; try rfl))
theorem LineupNeeds_law (a : Option Addr) (len cap : Nat) (which : Int) (w : World) (h : ArgInts w a len cap) :
    Calls Try.prog 7 #[.slice a len cap, .int .i64 which] w (Ret (.bool true) w) :=
  law_ints (us := [.int .i64 which]) h fun ns hns => LN_c ns hns which (0, 0)
end Go.Proofs.Ytfkhjkkhdfcnjaa
