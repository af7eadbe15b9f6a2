/- ToolStays: CodeTY Ty4. -/
import Derived.Test.YtadjhfjiimgddaaKw3
import Derived.Test.YtadjhfjiimgddaaProg
import Derived.Test.YtadjhfjiimgddaaKw21
import Derived.Test.YtadjhfjiimgddaaKw23
import Derived.Test.YtadjhfjiimgddaaKw17
import Derived.Test.YtadjhfjiimgddaaKw16
import Derived.Test.YtadjhfjiimgddaaKw4
set_option linter.unusedSimpArgs false
set_option linter.unusedVariables false
set_option maxRecDepth 100000

/- Compiled code of some functions (printed by a program), each checked by the kernel. -/
namespace Go.Proofs.Ytadjhfjiimgddaa
open Go
def c4_1 : C := (.seq (.block 1 (.ops false [oM 44 7, oM 45 8, oM 46 8, oP 47 (.iaS 2 (.t 44) (.t 45)), oP 48 (.fa 0 (.t 47)), oS (.st 1 (.t 48) (.t 46))])) (.ops false [oM 42 8, oP 43 (.bin .add (.t 42) (cI 1)), oM 8 43]))
def c4_2 : C := (.seq (.seq (.ops false [oM 38 8, oM 39 7, oP 40 (.len (.t 39)), oP 41 (.bin .lss (.t 38) (.t 40))]) (.cond (.t 41) .skip (.exit 0))) c4_1)
def c4_3 : C := (.seq (.ops false [oP 122 (.ld 3 true (.t 15)), oM 123 17, oS (.st 3 (.t 10) (.t 122)), oM 13 123]) (.seq (.ops true [oM 124 13, oA 125 (.iaS 1 (.t 124) (cI 0)) [0], oA 126 (.ld 1 false (.t 125)) [0, 1], oP 127 (.fa 2 (.t 10)), oA 128 (.ld 1 false (.t 127)) [3], oA 129 (.bin .sub (.t 128) (cI 1)) [3, 4], oE 130 (.call 31 [(.t 126), (.t 129)]) [4, 3, 1, 0, 5, 2],
 oM 131 13, oA 132 (.iaS 1 (.t 131) (cI 0)) [7], oA 133 (.ld 1 false (.t 132)) [7, 8], oP 134 (.fa 2 (.t 10)), oA 135 (.ld 1 false (.t 134)) [10], oE 136 (.call 31 [(.t 133), (.t 135)]) [2, 5, 0, 1, 3, 4, 10, 8, 7, 6, 11, 9], oA 20 (.mv (.t 130)) [9, 11, 7, 8, 10, 5, 4, 3, 2, 1, 0, 12, 6], oA 21 (.mv (.t 136)) [11, 10, 9, 8, 7, 6, 5, 4, 3, 2, 1, 0, 13, 12]])
 (.seq (.ops false [oM 137 20, oM 138 9, oP 139 (.bin .sub (.t 138) (cI 1)), oP 140 (.bin .neq (.t 137) (.t 139)), oM 141 140, oG 142 141 false (.mv (.t 21)), oG 143 141 false (.mv (.t 9)), oG 144 141 false (.bin .neq (.t 142) (.t 143)), oP 145 (.pick (.t 141) (cB true) (.t 144))]) (.cond (.t 145) (.seq (.ops false [oP 4 (.mv (cB false))]) .ret) .skip))))
def c4_4 : C := (.seq (.seq (.ops true [oP 110 (.ld 3 true (.t 15)), oE 111 (.call 30 [(.t 110)]) [0], oA 112 (.mv (.t 111)) [0, 1], oH 113 112 false (.fa 2 (.t 15)) [1, 0, 2], oH 114 112 false (.ld 1 false (.t 113)) [0, 1, 2, 3], oH 115 112 false (.fa 1 (.t 6)) [1, 0, 2], oH 116 112 false (.ld 1 false (.t 115)) [0, 1, 2, 5], oH 117 112 false (.iaS 7 (.t 116) (cI 0)) [5, 1, 0, 2, 6],
 oH 118 112 false (.fa 3 (.t 117)) [6, 0, 1, 5, 2, 7], oH 119 112 false (.ld 1 false (.t 118)) [7, 5, 1, 0, 6, 2, 8], oH 120 112 false (.bin .geq (.t 114) (.t 119)) [8, 6, 5, 7, 3, 1, 0, 2, 9, 4], oA 121 (.pick (.t 112) (cB true) (.t 120)) [4, 9, 3, 7, 5, 6, 8, 1, 0, 10, 2]]) (.cond (.t 121) (.exit 2) .skip)) c4_3)
def c4_5 : C := (.ops false [oM 83 14, oP 84 (.bin .add (.t 83) (cI 1)), oM 14 84])
def c4_6 : C := (.seq (.block 3 (.seq (.ops false [oP 86 (.ld 6 true (.t 6)), oP 87 (.ld 3 true (.t 12)), oP 88 (.ld 3 true (.t 10)), oP 89 (.call 28 [(.t 86), (.t 87), (.t 88)]), oM 85 89, oP 90 (.ext (.t 85) 0), oP 91 (.ext (.t 85) 1), oP 15 (.new [.mt, (.v (.int .i64 0)), (.v (.int .i64 0))]), oS (.st 3 (.t 15) (.t 90)), oM 16 91]) (.seq (.ops false [oP 93 (.ld 6 true (.t 6)),
 oM 94 13, oP 95 (.ld 3 true (.t 12)), oM 96 14, oP 97 (.bin .rem (.t 96) (cI 2)), oP 98 (.bin .add (cI 500) (.t 97)), oP 99 (.bsl 1 2 [(.v (.int .i64 0))] [(0, (.t 98)), (1, (cI 0))]), oP 100 (.call 29 [(.t 93), (.t 94), (.t 95), (.t 99)]), oM 92 100, oP 101 (.ext (.t 92) 0), oP 102 (.ext (.t 92) 1), oP 103 (.ext (.t 92) 2), oM 17 101,
 oM 18 102, oM 19 103]) (.seq (.seq (.ops false [oM 104 16, oP 105 (.bin .neq (.t 104) (cI 0)), oM 106 105, oG 107 106 false (.mv (.t 19)), oG 108 106 false (.bin .neq (.t 107) (cI 0)), oP 109 (.pick (.t 106) (cB true) (.t 108))]) (.cond (.t 109) (.seq (.ops false [oP 4 (.mv (cB false))]) .ret) .skip)) c4_4)))) c4_5)
def c4_7 : C := (.seq (.seq (.ops false [oM 81 14, oP 82 (.bin .lss (.t 81) (cI 20))]) (.cond (.t 82) .skip (.exit 2))) c4_6)
def c4_8 : C := (.seq (.ops false [oB 146 (.call 23 []), oM 4 146]) .ret)
def c4_9 : C := (.seq (.ops false [oP 61 (.bld [(.v (.int .i64 0)), (.v (.bool false))] []), oP 62 (.bsl 2 1 [(.v (.int .i64 0)), (.v (.bool false))] [(0, (.t 61))]), oM 63 7, oM 64 9, oP 65 (.slc 2 (.t 63) Option.none (.some (.t 64))), oB 66 (.call 27 [(.t 65)]), oP 67 (.bld [.mt, (.v (.int .i64 0)), (.v (.int .i64 0))] [(0, (1, (.t 62))), (2, (1, (.t 66)))]), oP 10 (.new [.mt,
 (.v (.int .i64 0)), (.v (.int .i64 0))]), oS (.st 3 (.t 10) (.t 67))]) (.seq (.ops false [oM 68 1, oP 69 (.cvi .i64 (.t 68)), oP 70 (.bin .rem (.t 69) (cI 30)), oP 71 (.bin .add (cI 1) (.t 70)), oM 11 71]) (.seq (.ops false [oM 72 11, oP 73 (.bsl 1 1 [(.v (.int .i64 0))] [(0, (.t 72))]), oM 74 11, oM 75 11, oP 76 (.neg (.t 75)),
 oP 77 (.bsl 1 2 [(.v (.int .i64 0))] [(0, (.t 74)), (1, (.t 76))]), oP 78 (.bld [.mt, .mt, .mt] [(0, (1, (.t 73))), (1, (1, (.t 77)))]), oP 12 (.new [.mt, .mt, .mt]), oS (.st 3 (.t 12) (.t 78))]) (.seq (.ops false [oM 79 7, oP 80 (.bsl 1 1 [.mt] [(0, (.t 79))]), oM 13 80]) (.seq (.seq (.ops false [oP 14 (.mv (cI 0))]) (.block 2 (.loop c4_7))) c4_8)))))
def c4_10 : C := (.seq (.ops false [oM 49 5, oM 50 7, oP 51 (.len (.t 50)), oP 52 (.bin .sub (.t 51) (cI 1)), oP 53 (.mnx true (cI 1) (.t 52)), oB 54 (.call 13 [(.t 49), (.t 53)]), oP 55 (.bin .add (cI 1) (.t 54)), oM 9 55]) (.seq (.seq (.ops false [oM 56 9, oM 57 7, oP 58 (.len (.t 57)), oP 59 (.bin .geq (.t 56) (.t 58))]) (.cond (.t 59)
 (.seq (.ops false [oB 60 (.call 23 []), oM 4 60]) .ret) .skip)) (.weak c4_9)))
def c4_11 : C := (.seq (.ops false [oM 26 0, oP 27 (.call 8 [(.t 26)]), oM 5 27]) (.seq (.ops false [oM 28 5, oB 29 (.call 25 [(.t 28), (cI 40), (cI 400)]), oP 30 (.call 24 [(.t 29)]), oP 6 (.new [.mt, .mt, .mt, .mt, (.v (.int .i64 0)), (.v (.int .i64 0))]), oS (.st 6 (.t 6) (.t 30))]) (.seq (.ops false [oM 31 5, oP 32 (.fa 1 (.t 6)), oP 33 (.ld 1 false (.t 32)),
 oP 34 (.iaS 7 (.t 33) (cI 0)), oP 35 (.fa 3 (.t 34)), oP 36 (.ld 1 false (.t 35)), oP 37 (.call 26 [(.t 31), (.t 36), (cI 3)]), oM 7 37]) (.seq (.seq (.ops false [oP 8 (.mv (cI 0))]) (.block 0 (.loop c4_2))) c4_10))))
def c4 : C := (.seq (.ops false [oP 4 (.mv (cB false))]) (.seq (.seq (.ops false [oM 22 0, oB 23 (.call 22 [(.t 22)]), oP 24 (.not (.t 23))]) (.cond (.t 24) (.seq (.ops false [oB 25 (.call 23 []), oM 4 25]) .ret) .skip)) c4_11))
def r4 : List RV := [(.tmp 4)]
theorem c4_ok : ∃ code, Try.f4.body = some code ∧ compC Try.prog Try.f4.ntmps code = some (C.strip c4) := ⟨_, rfl, by kernel_rfl⟩
theorem r4_ok : compRes Try.prog Try.f4.results.toList = some r4 := by kernel_rfl
theorem few_y (L : List (List D)) (nn : Nm) : CallsA Try.prog 22 [.sl L] Hp.none nn (Pu (db (decide ((L.length : Int) ≤ 400))) Hp.none) := by
 obtain ⟨code, h1, h2⟩ := c22_ok
 refine callsA_of (T0_ok _) mixed (N := fun t => (0, t)) Try.func22 h1 h2 r22_ok [] false js_nil js_nil' (by simp [Try.f22]) ?_
 simp (maxSteps:=500000) only [↓vp, vv, ↓reduceIte, simprocAttr, c22, r22, Pu]
def selFy : List D → Option (Prop × D)
 | [.sl L] => some (True, db (decide ((L.length : Int) ≤ 400)))
 | _ => Option.none
theorem tc_fewy {T : Tbl} (hT : TblOk Try.prog T) : TblOk Try.prog (tc 22 (rowPu selFy) T) :=
 tc_pu f22_ok (fun args pre d h hp nn => by
  unfold selFy at h
  split at h <;> cases h
  exact few_y _ nn) hT
theorem tc_aw32y {T : Tbl} (hT : TblOk Try.prog T) : TblOk Try.prog (tc 23 (rowPu selAw) T) :=
 tc_pu f23_ok (fun args pre d h hp nn => by
  unfold selAw at h
  split at h
  ·cases h; exact awake32_c nn
  ·cases h) hT
def selTy : List D → Option (Prop × D) := selX decTk (fun a => TkM 1000 a.n a.p a.fs a.fd) fun a => tkRes (tEnd a.n a.p a.fs a.fd)
theorem tc_ticky {T : Tbl} (hT : TblOk Try.prog T) : TblOk Try.prog (tc 29 (rowPu selTy) T) := tc_x f29_ok decTk_eq (fun a h nn => tick_c h nn) hT
def selMy : List D → Option (Prop × D)
 | [.agg a, .agg b, .agg c] => match netOf1 a, plnOf1 b, tolOf1 c with
  | some n, some p, some t => some (FckPre n p ∧ t.way.length ≤ 1000000, .tup [(movT n p t).enc, di (movE n p t)])
  | _, _, _ => Option.none
 | _ => Option.none
theorem tc_movy {T : Tbl} (hT : TblOk Try.prog T) : TblOk Try.prog (tc 28 (rowPu selMy) T) :=
 tc_pu f28_ok (fun args pre d hs hp nn => by
  unfold selMy at hs
  split at hs
  ·split at hs
   ·rename_i e1 e2 e3
    cases hs
    rw [netOf1_eq e1, plnOf1_eq e2, tolOf1_eq e3]
    exact move_w _ hp.1.1 _ _ hp.1 hp.2 nn
   ·cases hs
  ·cases hs) hT
def TyT : Tbl := tc 22 (rowPu selFy) (tc 23 (rowPu selAw) (tc 8 rowNew (tc 24 (rowPu selLine) (tc 26 rowFlO (tc 27 (rowPu selVo) (tc 28 (rowPu selMy) (tc 29 (rowPu selTy) (tc 30 (rowPu (selTol (fun _ => True) fun t => db (recB t))) (tc 31 (rowPu selAt) T2)))))))))
theorem TyT_ok : TblOk Try.prog TyT := tc_fewy (tc_aw32y (tc_new (tc_line (tc_flO (tc_rvo (tc_movy (tc_ticky (tc_tol f30_ok (fun t _ nn => received_c t nn) (tc_at14 T2_ok)))))))))
/-! ### the pieces get their numbers -/
def mixB (f : List Pce) (j : Nat) : List Pce := (numL f).take j ++ f.drop j
theorem mixB_len (f : List Pce) (j : Nat) (h : j ≤ f.length) : (mixB f j).length = f.length := by
 unfold mixB
 rw [List.length_append, List.length_take, List.length_drop, numL_len]
 omega
theorem mixB_at {f : List Pce} {j : Nat} (h : j < f.length) : pcA (mixB f j) j = pcA f j := by
 unfold mixB pcA
 rw [List.getD_eq_getElem?_getD, List.getElem?_append_right (by rw [List.length_take, numL_len]; omega), List.length_take, numL_len, Nat.min_eq_left (by omega), Nat.sub_self, List.getElem?_drop, Nat.add_zero, List.getD_eq_getElem?_getD]
theorem mixB_set {f : List Pce} {j : Nat} (h : j < f.length) : (mixB f j).set j ⟨j, (pcA f j).vo⟩ = mixB f (j + 1) := by
 unfold mixB
 rw [List.set_append_right _ _ (by rw [List.length_take]; omega), List.length_take, numL_len, Nat.min_eq_left (by omega), Nat.sub_self, drop_at h, List.set_cons_zero, List.take_add_one, List.getElem?_eq_getElem (by rw [numL_len]; exact h), List.append_assoc]
 have e : (numL f)[j]'(by rw [numL_len]; exact h) = ⟨j, (pcA f j).vo⟩ := by rw [pc_at (by rw [numL_len]; exact h), numL_at h]
 rw [e]
 rfl
theorem mixB_end (f : List Pce) : mixB f f.length = numL f := by
 unfold mixB
 rw [List.drop_of_length_le (Nat.le_refl _), List.append_nil, List.take_of_length_le (by rw [numL_len]; exact Nat.le_refl _)]
def TyA (N : Nat) (g : Nat) (b : Nat) (j : Int) : List (Nat × D) := [(1, .v (.int .u8 b)), (5, .ptr (0, 27) 0 0 0), (6, .ptr (0, 6) 0 0 0), (7, .own (0, 37) g 0 N), (8, di j)]
def TyB (L : List (List D)) (at' : Int) (n : Net) (f : List Pce) (g : Nat) : Hp := ((Hp.none.put (0, 37) ⟨g, 2, f.map Pce.row⟩).put (0, 6) ⟨0, 6, [netD n]⟩).put (0, 27) (sE L at')
/-! ### the boxes at the loop's head -/
def TyF0 (k : Nat) : List (Nat × D) := [(6, .ptr (0, 6) 0 0 0), (9, di (k : Int)), (10, .ptr (0, 10) 0 0 0), (12, .ptr (0, 12) 0 0 0), (13, .own (0, 80) 0 0 1), (14, di 0)]
def TyW (n : Net) (V r : Int) (f : List Pce) : List (Nm × En) := [((0, 6), ⟨0, 6, [netD n]⟩), ((0, 10), ⟨0, 3, [[.own (0, 62) 0 0 1, di 0, di V]]⟩), ((0, 12), ⟨0, 3, [[.own (0, 73) 0 0 1, .own (0, 77) 0 0 2, .mt]]⟩), ((0, 62), ⟨0, 2, [[di 0, db false]]⟩), ((0, 73), ⟨0, 1, [[di r]]⟩), ((0, 77), ⟨0, 1, [[di r], [di (-r)]]⟩), ((0, 80), ⟨0, 1, [[.sl (f.map Pce.row)]]⟩)]
def TyH (n : Net) (x r : Int) : Hp := ((Hp.none.put (0, 12) ⟨0, 3, [[.sl [[di r]], .sl [[di r], [di (-r)]], .mt]]⟩).put (0, 10) ⟨0, 3, [[.sl [[di 0, db false]], di 0, di x]]⟩).put (0, 6) ⟨0, 6, [netD n]⟩
def TyV (n : Net) (V r : Int) (f : List Pce) : Hp := (((Hp.none.put (0, 80) ⟨0, 1, [[.sl (f.map Pce.row)]]⟩).put (0, 12) ⟨0, 3, [[.sl [[di r]], .sl [[di r], [di (-r)]], .mt]]⟩).put (0, 10) ⟨0, 3, [[.sl [[di 0, db false]], di 0, di V]]⟩).put (0, 6) ⟨0, 6, [netD n]⟩
def TyL (k : Nat) (now : List Pce) (j : Int) : List (Nat × D) := [(6, .ptr (0, 6) 0 0 0), (9, di (k : Int)), (10, .ptr (0, 10) 0 0 0), (12, .ptr (0, 12) 0 0 0), (13, .sl ([now].map fR)), (14, di j)]
theorem ty_frz (n : Net) (V r : Int) (f : List Pce) (k : Nat) : Weak [] ⟨fr (TyF0 k), hp (TyW n V r f)⟩ ⟨fr (TyF0 k), TyV n V r f⟩ :=
 (Weak.refl [] _).trans (weak_fz [(0, 62), (0, 73), (0, 77)] [(0, 6), (0, 10), (0, 12), (0, 80)] (l := (TyF0 k)) (h := (TyW n V r f)) (l' := (TyF0 k)) (H' := (TyV n V r f)) (by simp only [↓vp, vv, ↓reduceIte, simprocAttr, vz, listB, okKd, okK, lendKd, lendK, lendOk1B, frzF, Option.map_some, cond_true, cond_false, decide_true, decide_false, Bool.and_self, TyW, TyF0, TyV, netD, hp_at]) (by simp only [↓vp, vv, ↓reduceIte, simprocAttr, vz, listB, okKd, okK, lendKd, lendK, lendOk1B, frzF, Option.map_some, cond_true, cond_false, decide_true, decide_false, Bool.and_self, TyW, TyF0, TyV, netD, hp_at]) (by simp only [↓vp, vv, ↓reduceIte, simprocAttr, vz, listB, okKd, okK, lendKd, lendK, lendOk1B, frzF, Option.map_some, cond_true, cond_false, decide_true, decide_false, Bool.and_self, TyW, TyF0, TyV, netD, hp_at]; try rfl) (by simp only [↓vp, vv, ↓reduceIte, simprocAttr, vz, listB, okKd, okK, lendKd, lendK, lendOk1B, frzF, Option.map_some, cond_true, cond_false, decide_true, decide_false, Bool.and_self, TyW, TyF0, TyV, netD, hp_at]; try rfl) (by simp only [↓vp, vv, ↓reduceIte, simprocAttr, vz, listB, okKd, okK, lendKd, lendK, lendOk1B, frzF, Option.map_some, cond_true, cond_false, decide_true, decide_false, Bool.and_self, refsF, TyW, TyF0, TyV, netD, hp_at]) (by simp only [↓vp, vv, ↓reduceIte, simprocAttr, vz, listB, okKd, okK, lendKd, lendK, lendOk1B, frzF, Option.map_some, cond_true, cond_false, decide_true, decide_false, Bool.and_self, TyW, TyF0, TyV, netD, hp_at]) (by simp))
/-! ### the line -/
theorem line_tol (C x : Int) : tolV (lineN C) ⟨[(0, false)], 0, x⟩ = if decide (0 ≤ x) = true then decide (x ≤ C) else false := rfl
theorem mov1_ln (C r x : Int) : mov1 (lineN C) (planL r) ⟨[(0, false)], 0, x⟩ = if decide (C < pos0 (x + r)) = true then ⟨[(0, false)], 1, 0⟩ else ⟨[(0, false)], 0, pos0 (x + r)⟩ := rfl
theorem line_mov {C r : Nat} (h : 40 ≤ C ∧ C < 420) (hr : 1 ≤ r ∧ r ≤ 30) {x : Int} (hx : 0 ≤ x ∧ x ≤ C) : movE (lineN C) (planL r) ⟨[(0, false)], 0, x⟩ = 0 ∧ movT (lineN C) (planL r) ⟨[(0, false)], 0, x⟩ = if decide ((C : Int) < x + r) = true then ⟨[(0, false)], 1, 0⟩ else ⟨[(0, false)], 0, x + r⟩ := by
 have e : movE (lineN C) (planL r) ⟨[(0, false)], 0, x⟩ = 0 := by
  unfold movE
  rw [if_pos (line_ck (by omega)), if_pos (line_f (by omega) (by omega)), line_tol, decide_eq_true hx.1, if_pos rfl, decide_eq_true hx.2, if_pos rfl]
 have p : pos0 (x + r) = x + r := by unfold pos0; rw [if_pos (by omega)]
 refine ⟨e, ?_⟩
 unfold movT
 rw [if_pos e, mov1_ln, p]
structure TyP (C : Int) (f0 : List Pce) (V : Int) (j : Nat) (now : List Pce) (x : Int) : Prop where
 fil : FilM C now
 len : now.length ≤ 12 + j
 x0 : V ≤ x ∧ x < C
 at' : ∀ k : Int, 0 ≤ k → k + (x - V) < C → atL now (k + (x - V)) = atL f0 k
set_option maxHeartbeats 32000000 in
theorem TSt_c (ns : List Int) (hns : ∀ n ∈ ns, InI n) (b : Nat) (hb : b < 256) (nn : Nm) : CallsA Try.prog 4 [.sl (ns.map fun n => [di n]), .v (.int .u8 b)] Hp.none nn (Pu (db true) Hp.none) := by
 obtain ⟨code, h1, h2⟩ := c4_ok
 refine callsA_of TyT_ok mixed (N := fun t => (0, t)) Try.func4 h1 h2 r4_ok [] false js_nil js_nil' (by simp [Try.f4]) ?_
 have ho : SrcOk ((ns.map fun n => [di n]).take 2000) 0 := src_new ns hns
 have hf' : ((ns.map fun n => [di n]).length : Int) = (ns.length : Int) := by simp
 cases hf : decide ((ns.length : Int) ≤ 400) with
 | false => simp (maxSteps:=500000) only [↓vp, vv, ↓reduceIte, simprocAttr, c4, r4, c4_1, c4_10, c4_11, c4_2, c4_3, c4_4, c4_5, c4_6, c4_7, c4_8, c4_9, r4, TyT, selFy, selAw, hf', hf, Pu]
 | true =>
  have gs : ∀ C : Int, ((lineN C).segs.map Seg.row).getD 0 [] = [ds ⟨#[103]⟩, di 0, di 1, di C, di 0, di 0, .sl [[di 0, di 0, di 1000000], [di C, di 0, di 1000000]]] := fun _ => rfl
  have gl : ∀ C : Int, (lineN C).segs.length = 1 := fun _ => rfl
  simp (maxSteps:=500000) only [↓vp, vv, ↓reduceIte, simprocAttr, c4, r4, c4_1, c4_10, c4_11, c4_2, c4_3, c4_4, c4_5, c4_6, c4_7, c4_8, c4_9, TyT, T2, T1, selFy, rowNew, selRange, selLine, rowFlO, SrcO_all, hf', hf, ho, gs, gl, Net.enc, netD]
  intro a1 v hv
  unfold RPost at hv
  refine ⟨⟨by omega, by omega⟩, ?_⟩
  intro a2 g f hfl
  obtain ⟨C, rfl⟩ : ∃ C : Nat, v = (C : Int) := ⟨v.toNat, by omega⟩
  have hC : 40 ≤ C ∧ C < 420 := by omega
  have lf := hfl.len
  have oa := a2.2
  have hnl : 1 ≤ f.length := by
   rcases Nat.eq_zero_or_pos f.length with z | z
   ·have e := hfl.sum
    rw [List.length_eq_zero_iff.1 z, volS_nil] at e
    omega
   ·exact z
  refine rng_loop f.length (fun j => ⟨fr (TyA f.length g b (j : Nat)), TyB ((ns.map fun n => [di n]).take 2000) a2.1 (lineN C) (mixB f j) g⟩) (fun _ => True) ?_ trivial (fun j hj _ => ?_) (fun _ => ?_)
  ·have e : mixB f 0 = f := by unfold mixB; simp
   exact (weak_eqA [] [(0, 27), (0, 6), (0, 37)] (TyA f.length g b 0) (by refine ⟨?_, ?_, ?_, by simp, ?_⟩ <;> (simp only [↓vp, vv, ↓reduceIte, simprocAttr, coverS, refsF, TyA, TyB, e, sE, netD, pce_ref] <;> try rfl)))
  ·have hj' : (j : Int) < f.length := by omega
   have w1 := idx_next (j := j) (by omega)
   have ml := mixB_len f j (by omega)
   have g1 := pc_get (l := mixB f j) (j := j) (by omega)
   rw [mixB_at hj] at g1
   have ms : ((mixB f j).map Pce.row).set j [di j, di (pcA f j).vo] = (mixB f (j + 1)).map Pce.row := by
    rw [← mixB_set hj, List.map_set]
    rfl
   simp (maxSteps:=500000) only [↓vp, vv, ↓reduceIte, simprocAttr, c4, r4, c4_1, c4_10, c4_11, c4_2, c4_3, c4_4, c4_5, c4_6, c4_7, c4_8, c4_9, TyT, TyA, TyB, sE, netD, hj, hj', g1, ml, Int.toNat_natCast, idx_nn]
   refine rng_next hj ?_ trivial
   exact (weak_eqA [] [(0, 27), (0, 6), (0, 37)] (TyA f.length g b ((j + 1 : Nat) : Int)) (by refine ⟨?_, ?_, ?_, by simp, ?_⟩ <;> (simp only [↓vp, vv, ↓reduceIte, simprocAttr, coverS, refsF, TyA, TyB, ms, sE, netD, pce_ref, w1] <;> try rfl)))
  ·rw [mixB_end]
   have hF := numL_fil (v := (C : Int)) lf (fun p hp => (hfl.at' p hp).2) hfl.sum
   have lN := numL_len f
   have nat : ∀ i, i < f.length → (pcA (numL f) i).ba = (i : Int) := fun i hi => by rw [numL_at hi]
   generalize numL f = F at hF lN nat
   obtain ⟨m, hm⟩ : ∃ m, (if (1 : Int) < (f.length : Int) - 1 then (f.length : Int) - 1 else 1) = m := ⟨_, rfl⟩
   have m0 : 1 ≤ m ∧ m ≤ 12 := by rw [← hm]; split <;> omega
   have m1 : InI m := by unfold InI; omega
   have wl : IntKind.i64.wrap ((f.length : Int) - 1) = (f.length : Int) - 1 := wrap_i (by omega)
   simp (maxSteps:=500000) only [↓vp, vv, ↓reduceIte, simprocAttr, c4, r4, c4_1, c4_10, c4_11, c4_2, c4_3, c4_4, c4_5, c4_6, c4_7, c4_8, c4_9, TyT, T2, T1, TyA, TyB, selI, oa, sE, netD, wl, hm, m1, Int.lt_irrefl]
   intro a3 x hx
   unfold NPost at hx
   obtain ⟨K, hK⟩ : ∃ K : Nat, (1 : Int) + x = (K : Int) := ⟨(1 + x).toNat, by omega⟩
   have hK1 : 1 ≤ K ∧ K ≤ 12 := by omega
   have wK : IntKind.i64.wrap ((1 : Int) + x) = (K : Int) := by rw [wrap_i (by omega), hK]
   cases c : decide ((f.length : Int) ≤ (K : Int)) with
   | true =>
    have c' := of_decide_eq_true c
    simp (maxSteps:=500000) only [↓vp, vv, ↓reduceIte, simprocAttr, c4, r4, c4_1, c4_10, c4_11, c4_2, c4_3, c4_4, c4_5, c4_6, c4_7, c4_8, c4_9, r4, TyT, selAw, wK, c, c', Pu]
   | false =>
    have c' := of_decide_eq_false c
    simp (maxSteps:=500000) only [↓vp, vv, ↓reduceIte, simprocAttr, c4, r4, c4_1, c4_10, c4_11, c4_2, c4_3, c4_4, c4_5, c4_6, c4_7, c4_8, c4_9, TyT, wK, c, c']
    have t3 : (F.map Pce.row).take f.length = F.map Pce.row := List.take_of_length_le (by simp [lN])
    have hKF : K < F.length := by omega
    have pp : ∀ j : Pce, j ∈ F → ∀ d : D, d ∈ j.row → d.plain = true := fun j _ d hd => by
     simp only [Pce.row, List.mem_cons, List.not_mem_nil, or_false] at hd
     rcases hd with rfl | rfl <;> rfl
    refine vc_wk (weak_eq [(0, 37)] [(0, 6)] [(1, .v (.int .u8 b)), (6, .ptr (0, 6) 0 0 0), (7, .sl (F.map Pce.row)), (9, di (K : Int))] (H' := Hp.none.put (0, 6) ⟨0, 6, [netD (lineN C)]⟩) (by simp only [↓vp, vv, ↓reduceIte, simprocAttr, coverS, t3, lN]; exact pp) (by simp only [↓vp, vv, ↓reduceIte, simprocAttr, refsF]) (by simp only [↓vp, vv, ↓reduceIte, simprocAttr, netD]) (by simp) (by simp only [↓vp, vv, ↓reduceIte, simprocAttr, netD]; try rfl)) ?_
    have tk : (F.map Pce.row).take K = (F.take K).map Pce.row := List.map_take.symm
    have hT : FilM (volS (F.take K)) (F.take K) := ⟨fun p hp => hF.p p (List.mem_of_mem_take hp), fun j hj => by
     rw [List.length_take] at hj
     have := hF.nb j (by omega)
     have e : ∀ i, i < K → pcA (F.take K) i = pcA F i := fun i hi => by
      unfold pcA
      rw [List.getD_eq_getElem?_getD, List.getElem?_take, if_pos hi, List.getD_eq_getElem?_getD]
     rw [e j (by omega), e (j + 1) (by omega)]
     exact this, rfl⟩
    have vb := volS_take_b hF.p hKF hK1.1
    rw [hF.sum] at vb
    have at0 := atL_left hF.p hKF hK1.1
    have at1 := atL_right hF.p hKF
    rw [nat (K - 1) (by omega)] at at0
    rw [nat K (by omega)] at at1
    have lT : (F.take K).length = K := by rw [List.length_take]; omega
    obtain ⟨v1, v2⟩ := filM_ok hT (by omega) (by omega)
    have pT : PfOk (F.take K) := by unfold PfOk; omega
    generalize F.take K = FK at tk v1 v2 pT at0 at1 vb lT
    generalize volS FK = V at v2 vb at0 at1
    have mq : (b : Int).tmod 30 = ((b % 30 : Nat) : Int) := (Int.ofNat_tmod b 30).symm
    have wb : IntKind.i64.wrap (b : Int) = b := wrap_i (by omega)
    obtain ⟨r, hr, hr1⟩ : ∃ r : Nat, 1 + ((b % 30 : Nat) : Int) = r ∧ 1 ≤ r ∧ r ≤ 30 := ⟨1 + b % 30, by omega, by omega⟩
    have wr : IntKind.i64.wrap (r : Int) = r := wrap_i (by omega)
    have wn : IntKind.i64.wrap (0 - (r : Int)) = -r := by rw [wrap_i (by omega)]; omega
    have kle : K ≤ F.length := by omega
    have kle' : (K : Int) ≤ F.length := by omega
    have k00 : (0 : Int) ≤ K := by omega
    simp (maxSteps:=500000) only [↓vp, vv, ↓reduceIte, simprocAttr, c4, r4, c4_1, c4_10, c4_11, c4_2, c4_3, c4_4, c4_5, c4_6, c4_7, c4_8, c4_9, TyT, selVo, selX, decPf, pcsOf_map, tk, v1, v2, pT, mq, wb, hr, wr, wn, kle, kle', k00, Nat.sub_zero, netD, Int.toNat_natCast]
    have hn1 := netOf1_x (lineN C)
    have hp1 : plnOf1 [D.sl [[di (r : Int)]], .sl [[di (r : Int)], [di (-(r : Int))]], .sl []] = some (planL r) := rfl
    have ht1 : ∀ x : Int, tolOf1 [.sl [[di 0, db false]], di 0, di x] = some ⟨[(0, false)], 0, x⟩ := fun _ => rfl
    have ht2 : tolOf1 [.sl [[di 0, db false]], di 1, di 0] = some ⟨[(0, false)], 1, 0⟩ := rfl
    have hfp := line_fsz (C : Int) (r : Int)
    have fr1 : ∀ z : List Pce, fsOf [[D.sl (z.map Pce.row)]] = some [z] := fun z => fsOf_map [z]
    have id2 : ∀ d : Int, intsOf [[di d], [di 0]] = some [d, 0] := fun d => ir_dec [d, 0]
    have s1 : (1 : Nat) ≤ 1000000 := by decide
    have gs0 := gs C
    have gl0 := gl C
    have rc0 : ∀ x : Int, recB ⟨[(0, false)], 0, x⟩ = false := fun _ => rfl
    have rc1 : recB ⟨[(0, false)], 1, 0⟩ = true := rfl
    have lm := fun {x : Int} (hx : 0 ≤ x ∧ x ≤ C) => line_mov hC hr1 hx
    have le := fun {f : List Pce} (hf : FilM C f) (hl : f.length ≤ 100) {d : Int} (hd : 0 ≤ d ∧ d < 1000) => line_end hC hr1 hf hl hd
    have lt := fun {f : List Pce} (hf : FilM C f) (hl : f.length ≤ 200) {d : Int} (hd : 0 ≤ d ∧ d < 1000) => line_tkm hC hr1 hf hl hd
    generalize lineN C = n at hn1 hfp gs0 gl0 lm le lt ⊢
    generalize planL r = p at hp1 hfp lm le lt
    refine rng_loopP 20 (fun j (u : List Pce × Int) => ⟨fr (TyL K u.1 (j : Nat)), TyH n u.2 r⟩) (fun j u => TyP C F V j u.1 u.2) (u0 := (F, V)) ?_ ⟨hF, by rw [lN]; omega, by omega, fun k k1 k2 => by rw [Int.sub_self, Int.add_zero]⟩ (fun j hj u hP => ?_) (fun u hP => ?_)
    ·refine Weak.trans (Weak.trans (weak_eqA [] [(0, 6), (0, 10), (0, 12), (0, 62), (0, 73), (0, 77), (0, 80)] (TyF0 K) (by refine ⟨?_, ?_, ?_, by simp, ?_⟩ <;> (simp only [↓vp, vv, ↓reduceIte, simprocAttr, coverS, refsF, TyF0, TyW, netD, hp_cons, hp_nil] <;> try rfl))) (ty_frz n V r F K)) ?_
     exact weak_eq [(0, 80)] [(0, 6), (0, 10), (0, 12)] (TyL K F 0) (H' := TyH n V r) (by simp only [↓vp, vv, ↓reduceIte, simprocAttr, coverS, TyF0, TyV, TyL, List.map_cons, List.map_nil, fR, pcs_pl]; try trivial) (by simp only [↓vp, vv, ↓reduceIte, simprocAttr, refsF, TyL]) (by simp only [↓vp, vv, ↓reduceIte, simprocAttr, TyV, netD]) (by simp) (by simp only [↓vp, vv, ↓reduceIte, simprocAttr, TyV, TyH]; try rfl)
    ·obtain ⟨now, x⟩ := u
     have hfil := hP.fil
     have hlen := hP.len
     have hx0 := hP.x0
     have hat := hP.at'
     dsimp only at hfil hlen hx0 hat ⊢
     obtain ⟨d, hd⟩ : ∃ d : Nat, (500 : Int) + ((j % 2 : Nat) : Int) = (d : Int) := ⟨500 + j % 2, by omega⟩
     have mj : (j : Int).tmod 2 = ((j % 2 : Nat) : Int) := (Int.ofNat_tmod j 2).symm
     have wd : IntKind.i64.wrap (d : Int) = d := wrap_i (by omega)
     have hd1 : 0 ≤ (d : Int) ∧ (d : Int) < 1000 := by omega
     have hj' : (j : Int) < 20 := by omega
     have w1 := idx_next (j := j) (by omega)
     obtain ⟨m1, m2⟩ := lm (x := x) (by omega)
     have htk := lt hfil (by omega) hd1
     obtain ⟨y, y1, y2, y3, y4, y5⟩ := le hfil (by omega) hd1
     generalize hs : tEnd n p [now] [(d : Int), 0] = s at y1 y2
     have yat : y.length ≤ 200 := by omega
     cases c : decide ((C : Int) < x + r) with
     | true =>
      rw [c, if_pos rfl] at m2
      simp (maxSteps:=500000) only [↓vp, vv, ↓reduceIte, simprocAttr, c4, r4, c4_1, c4_10, c4_11, c4_2, c4_3, c4_4, c4_5, c4_6, c4_7, c4_8, c4_9, r4, TyT, TyL, TyH, selMy, selTy, selTol, selAw, selX, decTk, hn1, hp1, ht1, ht2, hfp, fr1, id2, s1, m1, m2, htk, hs, tkRes, y1, y2, mj, hd, wd, hj', rc1, gs0, gl0, netD, plnD, Tol.enc, Tol.row, tHop, fR, bne_self_eq_false, List.map_cons, List.map_nil, Int.toNat_natCast, Pu]
     | false =>
      have c1 := of_decide_eq_false c
      rw [c, if_neg (by decide)] at m2
      have wx : IntKind.i64.wrap (x + r - 1) = x + r - 1 := wrap_i (by omega)
      by_cases c2 : (C : Int) ≤ x + r
      ·have c3 : decide ((C : Int) ≤ x + r) = true := decide_eq_true c2
       simp (maxSteps:=500000) only [↓vp, vv, ↓reduceIte, simprocAttr, c4, r4, c4_1, c4_10, c4_11, c4_2, c4_3, c4_4, c4_5, c4_6, c4_7, c4_8, c4_9, r4, TyT, TyL, TyH, selMy, selTy, selTol, selAw, selX, decTk, hn1, hp1, ht1, ht2, hfp, fr1, id2, s1, m1, m2, htk, hs, tkRes, y1, y2, mj, hd, wd, hj', rc0, gs0, gl0, c2, c3, netD, plnD, Tol.enc, Tol.row, tHop, fR, bne_self_eq_false, List.map_cons, List.map_nil, Int.toNat_natCast, Pu]
      ·have c3 : decide ((C : Int) ≤ x + r) = false := decide_eq_false c2
       have nat' : ∀ k : Int, 0 ≤ k → k + (x + r - V) < C → atL y (k + (x + r - V)) = atL F k := fun k k1 k2 => by
        rw [y5 _ (by omega) k2, show k + (x + r - V) - r = k + (x - V) by omega]
        exact hat k k1 (by omega)
       have l1 := nat' (V - 1) (by omega) (by omega)
       have l2 := nat' V (by omega) (by omega)
       rw [show V - 1 + (x + r - V) = x + r - 1 by omega, at0] at l1
       rw [show V + (x + r - V) = x + r by omega, at1] at l2
       have ok1 : AtOk (y, x + r - 1) := ⟨⟨C, y3, by omega, yat⟩, by dsimp only; omega, by dsimp only; omega⟩
       have ok2 : AtOk (y, x + r) := ⟨⟨C, y3, by omega, yat⟩, by dsimp only; omega, by dsimp only; omega⟩
       have wk : IntKind.i64.wrap ((K : Int) - 1) = ((K - 1 : Nat) : Int) := by rw [wrap_i (by omega)]; omega
       simp (maxSteps:=500000) only [↓vp, vv, ↓reduceIte, simprocAttr, c4, r4, c4_1, c4_10, c4_11, c4_2, c4_3, c4_4, c4_5, c4_6, c4_7, c4_8, c4_9, r4, TyT, TyL, TyH, selMy, selTy, selTol, selAt, selX, decTk, decPfI, pcsOf_map, Option.map_some, hn1, hp1, ht1, ht2, hfp, fr1, id2, s1, m1, m2, htk, hs, tkRes, y1, y2, mj, hd, wd, hj', rc0, gs0, gl0, c2, c3, wx, ok1, ok2, l1, l2, wk, netD, plnD, Tol.enc, Tol.row, tHop, fR, bne_self_eq_false, List.map_cons, List.map_nil, Int.toNat_natCast]
       refine rng_nextP hj (y, x + r) ?_ ⟨y3, by dsimp only; omega, by dsimp only; omega, nat'⟩
       exact (weak_eqA [] [(0, 6), (0, 10), (0, 12)] (TyL K y ((j + 1 : Nat) : Int)) (by refine ⟨?_, ?_, ?_, by simp, ?_⟩ <;> (simp only [↓vp, vv, ↓reduceIte, simprocAttr, coverS, refsF, TyL, TyH, netD, fR, pce_ref, w1, List.map_cons, List.map_nil] <;> try rfl)))
    ·simp (maxSteps:=500000) only [↓vp, vv, ↓reduceIte, simprocAttr, c4, r4, c4_1, c4_10, c4_11, c4_2, c4_3, c4_4, c4_5, c4_6, c4_7, c4_8, c4_9, r4, TyT, selAw, TyL, TyH, netD, Int.lt_irrefl, Pu]
theorem ToolStays_law (a : Option Addr) (len cap : Nat) (x : Int) (w : World) (h : ArgInts w a len cap) (x0 : 0 ≤ x) (x1 : x ≤ 255) :
  Calls Try.prog 4 #[.slice a len cap, .int .u8 x] w (Ret (.bool true) w) := by
 refine law_ints (us := [.int .u8 x]) h fun ns hns => ?_
 have := TSt_c ns hns x.toNat (by omega) (0, 0)
 rw [show ((x.toNat : Nat) : Int) = x by omega] at this
 exact this
end Go.Proofs.Ytadjhfjiimgddaa
