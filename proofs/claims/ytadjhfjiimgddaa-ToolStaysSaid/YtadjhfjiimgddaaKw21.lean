/- ToolStays: Ty2 CodeTZ Ty3 CodeTP CodeSE TdA Td5 CodeTW TwA TwB TwC Vr. -/
import Derived.Test.YtadjhfjiimgddaaKw18
import Derived.Test.YtadjhfjiimgddaaKw20
import Derived.Test.YtadjhfjiimgddaaKw3
import Derived.Test.YtadjhfjiimgddaaProg
import Derived.Test.YtadjhfjiimgddaaKw16
import Derived.Test.YtadjhfjiimgddaaKw10
import Derived.Test.YtadjhfjiimgddaaKw4
set_option linter.unusedSectionVars false
set_option linter.unusedSimpArgs false
set_option linter.unusedVariables false
set_option maxRecDepth 100000

/- A tick of a line. -/
namespace Go.Proofs.Ytadjhfjiimgddaa
open Go
theorem line_ord (C : Int) {r : Nat} (hr : 1 ≤ r) : ordB (lineN C) (planL r) = [0, 1] := by
 have c1 : ((r : Int) == 0) = false := by simp; omega
 have c2 : ¬ (r : Int) < 0 := by omega
 have p0 : pickB ((lineN C).segs.zip (planL r).rates) [false, false] 0 = true := by
  show (!(List.any [((⟨⟨#[103]⟩, 0, 1, C, 0, 0, [⟨0, 0, 1000000⟩, ⟨C, 0, 1000000⟩]⟩ : Seg), (r : Int))] (blk [false, false] 0))) = true
  simp only [List.any_cons, List.any_nil, blk, c1, if_neg c2]
  rfl
 have p1 : pickB ((lineN C).segs.zip (planL r).rates) [true, false] 1 = true := by
  show (!(List.any [((⟨⟨#[103]⟩, 0, 1, C, 0, 0, [⟨0, 0, 1000000⟩, ⟨C, 0, 1000000⟩]⟩ : Seg), (r : Int))] (blk [true, false] 1))) = true
  simp only [List.any_cons, List.any_nil, blk, c1, if_neg c2]
  rfl
 have q0 : pickB ((lineN C).segs.zip (planL r).rates) [true, false] 0 = false := rfl
 unfold ordB
 generalize (lineN C).segs.zip (planL r).rates = E at p0 p1 q0
 show ordL E 2 [false, false] [] = [0, 1]
 have f0 : (List.range 2).find? (pickB E [false, false]) = some 0 := by
  show List.find? (pickB E [false, false]) [0, 1] = some 0
  rw [List.find?_cons_of_pos p0]
 have f1 : (List.range 2).find? (pickB E [true, false]) = some 1 := by
  show List.find? (pickB E [true, false]) [0, 1] = some 1
  rw [List.find?_cons_of_neg (by rw [q0]; decide), List.find?_cons_of_pos p1]
 rw [ordL]
 show (match (List.range 2).find? (pickB E [false, false]) with | some k => ordL E 1 ([false, false].set k true) ([] ++ [k]) | Option.none => []) = [0, 1]
 rw [f0]
 show ordL E 1 [true, false] [0] = [0, 1]
 rw [ordL]
 show (match (List.range 2).find? (pickB E [true, false]) with | some k => ordL E 0 ([true, false].set k true) ([0] ++ [k]) | Option.none => [0]) = [0, 1]
 rw [f1]
 rfl
theorem line_tkm {C r : Nat} (h : 40 ≤ C ∧ C < 420) (hr : 1 ≤ r ∧ r ≤ 30) {f : List Pce} (hf : FilM C f) (hl : f.length ≤ 200) {d : Int} (hd : 0 ≤ d ∧ d < 1000) : TkM 1000 (lineN C) (planL r) [f] [d, 0] := by
 have one : ∀ i, i < (lineN C).segs.length → i = 0 := fun i hi => by
  have : (lineN C).segs.length = 1 := rfl
  omega
 obtain ⟨v1, v2⟩ := filM_ok hf (by omega) hl
 have two : ∀ i, i < ([d, 0] : List Int).length → iA [d, 0] i = d ∨ iA [d, 0] i = 0 := fun i hi => by
  match i, hi with
  | 0, _ => exact .inl rfl
  | 1, _ => exact .inr rfl
 have dm : ∀ i, i < ([d, 0] : List Int).length → 0 ≤ iA [d, 0] i ∧ iA [d, 0] i < 1000 := fun i hi => by have := two i hi; omega
 refine ⟨⟨line_f (by omega) (by omega), by show 2 ≤ 6; decide, by show 2 ≤ 6; decide, rfl, fun j hj => ?_, fun j hj => ?_, rfl, fun j hj => ?_⟩, by decide, fun i hi => ?_, fun i hi => ?_, dm⟩
 ·obtain rfl := one j hj
  exact ⟨v1, v2⟩
 ·obtain rfl := one j hj
  exact hl
 ·have := dm j hj
  unfold prB2
  simp
  omega
 ·obtain rfl := one i hi
  show (C : Int) ≤ 1000
  omega
 ·obtain rfl := one i hi
  exact ⟨hf.p, hf.nb⟩
theorem line_p0 (C d : Int) {r : Nat} (hr : 1 ≤ r) : tkP (lineN C) (planL r) [d, 0] 0 2 = ⟨[⟨d, r⟩], [], []⟩ := by
 show tPort (lineN C) (planL r) [d, 0] 0 (tPort (lineN C) (planL r) [d, 0] 0 ⟨[], [], []⟩ 0) 1 = _
 have e0 : tPort (lineN C) (planL r) [d, 0] 0 ⟨[], [], []⟩ 0 = ⟨[⟨d, r⟩], [], []⟩ := by
  unfold tPort
  rw [if_pos ⟨rfl, by show (0 : Int) < r; omega⟩]
  rfl
 rw [e0]
 unfold tPort
 rw [if_neg (fun h => by have h1 : (1 : Int) = 0 := h.1; omega), if_neg (fun h => by have h1 : (1 : Int) = 0 := h.1; omega)]
theorem line_p1 (C d : Int) {r : Nat} (hr : 1 ≤ r) : tkP (lineN C) (planL r) [d, 0] 1 2 = ⟨[], [(r : Int)], [1]⟩ := by
 show tPort (lineN C) (planL r) [d, 0] 1 (tPort (lineN C) (planL r) [d, 0] 1 ⟨[], [], []⟩ 0) 1 = _
 have e0 : tPort (lineN C) (planL r) [d, 0] 1 ⟨[], [], []⟩ 0 = ⟨[], [], []⟩ := by
  unfold tPort
  rw [if_neg (fun h => by have h1 : (0 : Int) = 1 := h.1; omega), if_neg (fun h => by have h1 : (0 : Int) = 1 := h.1; omega)]
 rw [e0]
 have e1 : iA (planL r).ports 1 = -(r : Int) := rfl
 unfold tPort
 rw [e1, if_neg (fun h => by have := h.2; omega), if_pos ⟨rfl, by omega⟩, Int.neg_neg]
 rfl
theorem line_s0 (C : Int) {r : Nat} (hr : 1 ≤ r) (gv : List (List Pce)) (a : PS3) : tkS (lineN C) (planL r) gv 0 a 1 = ⟨a.st, a.ra ++ [(r : Int)], [0]⟩ := by
 show tSeg (lineN C) (planL r) gv 0 ⟨a.st, a.ra, []⟩ 0 = _
 have e1 : iA (planL r).rates 0 = (r : Int) := rfl
 have e2 : toOf (sgT (lineN C) 0, (r : Int)) = 1 := by unfold toOf; rw [if_neg (show ¬ (r : Int) < 0 by omega)]; rfl
 have e3 : frOf (sgT (lineN C) 0, (r : Int)) = 0 := by unfold frOf; rw [if_neg (show ¬ (r : Int) < 0 by omega)]; rfl
 have e4 : absI (r : Int) = r := by unfold absI; split <;> omega
 unfold tSeg
 rw [e1, if_neg (by omega), e2, e3, if_neg (by decide), if_pos rfl, e4]
 rfl
theorem line_s1 (C : Int) {r : Nat} (hr : 1 ≤ r) (gv : List (List Pce)) (a : PS3) : tkS (lineN C) (planL r) gv 1 a 1 = ⟨a.st ++ pA gv 0, a.ra, []⟩ := by
 show tSeg (lineN C) (planL r) gv 1 ⟨a.st, a.ra, []⟩ 0 = _
 have e1 : iA (planL r).rates 0 = (r : Int) := rfl
 have e2 : toOf (sgT (lineN C) 0, (r : Int)) = 1 := by unfold toOf; rw [if_neg (show ¬ (r : Int) < 0 by omega)]; rfl
 unfold tSeg
 rw [e1, if_neg (by omega), e2, if_pos rfl]
theorem joined_one (d : Int) {r : Nat} (hr : 1 ≤ r) : joined [⟨d, r⟩] = [⟨d, r⟩] := by
 show jn1 [] ⟨d, r⟩ = _
 unfold jn1
 rw [if_neg (by simp; omega), if_neg (by simp)]
 rfl
theorem line_n0 (C d : Int) {r : Nat} (hr : 1 ≤ r) (f : List Pce) : tNode (lineN C) (planL r) [d, 0] ⟨[f], [[], []], [[]], false⟩ 0 = ⟨[(shiftL f (pA (handL [⟨d, r⟩] [(r : Int)]) 0).reverse false).1], [[], []], [(shiftL f (pA (handL [⟨d, r⟩] [(r : Int)]) 0).reverse false).2.reverse], false⟩ := by
 have e0 : tkP (lineN C) (planL r) [d, 0] ((0 : Nat) : Int) (lineN C).ports.length = ⟨[⟨d, r⟩], [], []⟩ := line_p0 C d hr
 have e1 : tkS (lineN C) (planL r) [[]] ((0 : Nat) : Int) ⟨[⟨d, r⟩], [], []⟩ (lineN C).segs.length = ⟨[⟨d, r⟩], [(r : Int)], [0]⟩ := line_s0 C hr [[]] _
 unfold tNode
 dsimp only
 rw [e0, e1]
 dsimp only
 rw [joined_one d hr, if_neg (by simp)]
 have e2 : decide (iA (planL r).rates 0 < 0) = false := decide_eq_false (by show ¬ (r : Int) < 0; omega)
 show tPush (planL r) (handL [⟨d, r⟩] [(r : Int)]) 0 [0] ⟨[f], [[], []], [[]], false || decide (200 < 1)⟩ 0 = _
 unfold tPush
 dsimp only
 have e3 : ([0] : List Nat).getD 0 0 = 0 := rfl
 rw [e3, e2]
 rfl
theorem line_n1 (C d : Int) {r : Nat} (hr : 1 ≤ r) (y g : List Pce) (hg : g.length ≤ 200) : (tNode (lineN C) (planL r) [d, 0] ⟨[y], [[], []], [g], false⟩ 1).nxt = [y] ∧ (tNode (lineN C) (planL r) [d, 0] ⟨[y], [[], []], [g], false⟩ 1).gv = [g] ∧ (tNode (lineN C) (planL r) [d, 0] ⟨[y], [[], []], [g], false⟩ 1).lng = false ∧ (tNode (lineN C) (planL r) [d, 0] ⟨[y], [[], []], [g], false⟩ 1).prt.length = 2 ∧ ∀ i, (pA (tNode (lineN C) (planL r) [d, 0] ⟨[y], [[], []], [g], false⟩ 1).prt i).length ≤ 200 := by
 have e0 : tkP (lineN C) (planL r) [d, 0] ((1 : Nat) : Int) (lineN C).ports.length = ⟨[], [(r : Int)], [1]⟩ := line_p1 C d hr
 have e1 : tkS (lineN C) (planL r) [g] ((1 : Nat) : Int) ⟨[], [(r : Int)], [1]⟩ (lineN C).segs.length = ⟨[] ++ g, [(r : Int)], []⟩ := line_s1 C hr [g] _
 have jl := joined_len g
 have dn : decide (200 < (joined ([] ++ g)).length) = false := decide_eq_false (by rw [List.nil_append]; omega)
 have pn : ∀ i, (pA [[], []] i).length ≤ 200 := fun i => by
  have : pA (List.replicate 2 ([] : List Pce)) i = [] := pA_rep 2 i
  have e : pA [[], []] i = [] := this
  rw [e]; exact Nat.zero_le _
 unfold tNode
 dsimp only
 rw [e0, e1]
 dsimp only
 rw [dn]
 split
 ·exact ⟨rfl, rfl, rfl, rfl, pn⟩
 ·refine ⟨rfl, rfl, rfl, rfl, fun i => ?_⟩
  show (pA (([[], []] : List (List Pce)).set 1 (pA (handL (joined ([] ++ g)) [(r : Int)]) 0)) i).length ≤ 200
  have hh := handL_len (joined ([] ++ g)) [(r : Int)] 0
  rw [List.nil_append] at hh ⊢
  rw [pA_set _ _ _ _ (by decide)]
  split
  ·omega
  ·exact pn i
theorem line_end {C r : Nat} (h : 40 ≤ C ∧ C < 420) (hr : 1 ≤ r ∧ r ≤ 30) {f : List Pce} (hf : FilM C f) (hl : f.length ≤ 100) {d : Int} (hd : 0 ≤ d ∧ d < 1000) : ∃ y, (tEnd (lineN C) (planL r) [f] [d, 0]).nxt = [y] ∧ tLong (tEnd (lineN C) (planL r) [f] [d, 0]) = false ∧ FilM C y ∧ y.length ≤ f.length + 1 ∧ ∀ k : Int, (r : Int) ≤ k → k < C → atL y k = atL f (k - r) := by
 have hs : volS [(⟨d, r⟩ : Pce)] = r := by rw [volS_cons, volS_nil]; dsimp only; omega
 obtain ⟨h1, h2, h3⟩ := hand_spec (M := 1000) (l := [⟨d, r⟩]) (rs := [(r : Int)]) ⟨0, by show 0 < 1; decide, by show (0 : Int) < r; omega⟩ (PcR.one ⟨hd, by dsimp only; omega⟩) (by omega)
 have hx := h2 0
 have hxl := handL_len [⟨d, r⟩] [(r : Int)] 0
 have hxv : volS (pA (handL [⟨d, r⟩] [(r : Int)]) 0) = r := by
  have e : handL [⟨d, r⟩] [(r : Int)] = [pA (handL [⟨d, r⟩] [(r : Int)]) 0] := by
   match hh : handL [⟨d, r⟩] [(r : Int)], h1 with
   | [z], _ => rfl
  rw [e] at h3
  unfold totV at h3
  rw [List.map_cons, List.map_nil, List.sum_cons, List.sum_nil] at h3
  have e2 : pA [pA (handL [⟨d, r⟩] [(r : Int)]) 0] 0 = pA (handL [⟨d, r⟩] [(r : Int)]) 0 := rfl
  omega
 have n0 := line_n0 C d hr.1 f
 rw [List.length_singleton] at hxl
 generalize pA (handL [⟨d, r⟩] [(r : Int)]) 0 = x at hx hxl hxv n0
 have hxr := hx.rev
 have hxv2 : volS x.reverse = r := by rw [volS_rev]; exact hxv
 have hxl2 : x.reverse.length ≤ 1 := by rw [List.length_reverse]; exact hxl
 generalize x.reverse = x' at hxr hxv2 hxl2 n0
 obtain ⟨⟨⟨s1, s2⟩, s3⟩, s4, s5⟩ := shift_spec hf.p hxr false (by rw [hf.sum]; omega) (by omega)
 have sv := (filM_ok hf (by omega) (by omega)).2
 have sy : (shiftL f x' false).1 = joined (spl (x' ++ f) C).1 := by unfold shiftL; rw [if_neg (by decide), sv]
 have sg : (shiftL f x' false).2 = joined (spl (x' ++ f) C).2 := by unfold shiftL; rw [if_neg (by decide), sv]
 have l1 := spl_len (x' ++ f) C
 rw [List.length_append] at l1
 have ly := joined_len (spl (x' ++ f) C).1
 have lg := joined_len (spl (x' ++ f) C).2
 have at1 : ∀ k : Int, (r : Int) ≤ k → k < C → atL (joined (spl (x' ++ f) C).1) k = atL f (k - r) := fun k k1 k2 => by
  have := atL_push hxr hf.p hf.sum (by omega) (by omega) (k := k) (by omega) k2
  rw [hxv2] at this
  exact this
 rw [← sy] at ly at1
 rw [← sg] at lg
 generalize shiftL f x' false = sh at s1 s2 s3 s4 s5 ly lg at1 n0 sy sg
 have hg : sh.2.reverse.length ≤ 200 := by rw [List.length_reverse]; omega
 have te : tEnd (lineN C) (planL r) [f] [d, 0] = tNode (lineN C) (planL r) [d, 0] (tNode (lineN C) (planL r) [d, 0] ⟨[f], [[], []], [[]], false⟩ 0) 1 := by
  unfold tEnd tRun
  rw [line_ord C hr.1]
  rfl
 obtain ⟨m1, m2, m3, m4, m5⟩ := line_n1 C d hr.1 sh.1 sh.2.reverse hg
 rw [te, n0]
 generalize tNode (lineN C) (planL r) [d, 0] ⟨[sh.1], [[], []], [sh.2.reverse], false⟩ 1 = s at m1 m2 m3 m4 m5
 refine ⟨sh.1, m1, ?_, ⟨s1, s2, by rw [s3, hf.sum]⟩, by omega, at1⟩
 have b1 : lngA s s.lng s.nxt.length = false := by
  rw [m1, m3]
  show ((false || decide (200 < (pA s.nxt 0).length)) || decide (200 < (pA s.gv 0).length)) = false
  rw [m1, m2]
  have c1 : decide (200 < (pA [sh.1] 0).length) = false := decide_eq_false (by show ¬ 200 < sh.1.length; omega)
  have c2 : decide (200 < (pA [sh.2.reverse] 0).length) = false := decide_eq_false (by show ¬ 200 < sh.2.reverse.length; omega)
  rw [c1, c2]
  rfl
 unfold tLong
 rw [b1, m4]
 show ((false || decide (200 < (pA s.prt 0).length)) || decide (200 < (pA s.prt 1).length)) = false
 have c0 := m5 0
 have c1 := m5 1
 rw [decide_eq_false (by omega), decide_eq_false (by omega)]
 rfl
def c31_1 : C := (.ops false [oM 26 1, oP 27 (.fa 1 (.t 6)), oP 28 (.ld 1 false (.t 27)), oP 29 (.bin .sub (.t 26) (.t 28)), oM 1 29])
def c31_2 : C := (.ops false [oP 30 (.bin .add (.t 16) (cI 1)), oM 16 30])
def c31_3 : C := (.seq (.block 1 (.seq (.ops false [oP 18 (.iaS 2 (.t 14) (.t 16)), oP 19 (.ld 2 true (.t 18)), oP 6 (.new [(.v (.int .i64 0)), (.v (.int .i64 0))]), oS (.st 2 (.t 6) (.t 19))]) (.seq (.seq (.ops false [oM 20 1, oP 21 (.fa 1 (.t 6)), oP 22 (.ld 1 false (.t 21)), oP 23 (.bin .lss (.t 20) (.t 22))]) (.cond (.t 23) (.seq (.ops false [oP 24 (.fa 0 (.t 6)), oP 25 (.ld 1 false (.t 24)),
 oM 4 25]) .ret) .skip)) c31_1))) c31_2)
def c31_4 : C := (.seq (.ops false [oP 17 (.bin .lss (.t 16) (.t 15))]) (.seq (.cond (.t 17) .skip (.exit 0)) c31_3))
def c31_5 : C := (.seq (.ops false [oP 4 (.mv (cI (-1)))]) .ret)
def c31_6 : C := (.seq (.seq (.ops false [oM 14 0, oP 15 (.len (.t 14)), oP 16 (.mv (cI 0))]) (.block 0 (.loop c31_4))) c31_5)
def c31 : C := (.seq (.ops false [oP 4 (.mv (cI 0))]) (.seq (.seq (.ops false [oM 7 0, oB 8 (.call 76 [(.t 7)]), oP 9 (.not (.t 8)), oM 10 9, oG 11 10 false (.mv (.t 1)), oG 12 10 false (.bin .lss (.t 11) (cI 0)), oP 13 (.pick (.t 10) (cB true) (.t 12))]) (.cond (.t 13) (.seq (.ops false [oP 4 (.mv (cI (-1)))]) .ret) .skip)) c31_6))
def r31 : List RV := [(.tmp 4)]
theorem c31_ok : ∃ code, Try.f31.body = some code ∧ compC Try.prog Try.f31.ntmps code = some (C.strip c31) := ⟨_, rfl, by kernel_rfl⟩
theorem r31_ok : compRes Try.prog Try.f31.results.toList = some r31 := by kernel_rfl
theorem f31_ok : fnOk Try.prog 31 = true := by kernel_rfl
def AtOk (a : List Pce × Int) : Prop := (∃ v, FilM v a.1 ∧ v ≤ 1000000 ∧ a.1.length ≤ 200) ∧ 0 ≤ a.2 ∧ a.2 ≤ 1000000
def AtT : Tbl := tc 76 (rowPu selFv) T0
theorem AtT_ok : TblOk Try.prog AtT := tc_rfv (T0_ok _)
def AtF (l : List Pce) (x : Int) (j : Int) : List (Nat × D) := [(1, di x), (14, .sl (l.map Pce.row)), (15, di l.length), (16, di j)]
set_option maxHeartbeats 8000000 in
theorem at_c (a : List Pce × Int) (h : AtOk a) (nn : Nm) : CallsA Try.prog 31 [.sl (a.1.map Pce.row), di a.2] Hp.none nn (Pu (di (atL a.1 a.2)) Hp.none) := by
 obtain ⟨l, x⟩ := a
 obtain ⟨⟨v, hf, hv, hl⟩, h0, h1⟩ := h
 dsimp only at hf hl h0 h1 ⊢
 obtain ⟨code, k1, k2⟩ := c31_ok
 refine callsA_of AtT_ok mixed (N := fun t => (0, t)) Try.func31 k1 k2 r31_ok [] false js_nil js_nil' (by simp [Try.f31]) ?_
 have pf : PfOk l := by unfold PfOk; omega
 have fv := (filM_ok hf hv hl).1
 have c0 : decide (x < 0) = false := decide_eq_false (by omega)
 generalize hX : atL l x = X
 simp (maxSteps:=500000) only [↓vp, vv, ↓reduceIte, simprocAttr, c31, r31, c31_1, c31_2, c31_3, c31_4, c31_5, c31_6, AtT, selFv, selX, decPf, pcsOf_map, pf, fv, c0]
 refine rng_loopP l.length (fun j (y : Int) => ⟨fr (AtF l y (j : Nat)), Hp.none⟩) (fun j y => atL (l.drop j) y = X ∧ 0 ≤ y ∧ y ≤ 1000000) (u0 := x) (weak0 (by simp only [↓vp, vv, ↓reduceIte, simprocAttr, coverS, AtF]) (by simp only [↓vp, vv, ↓reduceIte, simprocAttr, refsF, AtF])) ⟨hX, h0, h1⟩ (fun j hj y hP => ?_) (fun y hP => ?_)
 ·obtain ⟨hP, y0, y1⟩ := hP
  have hj' : (j : Int) < l.length := by omega
  have w1 := idx_next (j := j) (by omega)
  have g1 := pc_get hj
  have hp := hf.p (pcA l j) (pc_in hj)
  have hle := hf.p.r.le (pcA l j) (pc_in hj)
  rw [hf.sum] at hle
  rw [drop_at hj, atL] at hP
  generalize pcA l j = p at g1 hp hle hP
  cases c : decide (y < p.vo) with
  | true =>
   rw [if_pos (of_decide_eq_true c)] at hP
   simp (maxSteps:=500000) only [↓vp, vv, ↓reduceIte, simprocAttr, c31, r31, c31_1, c31_2, c31_3, c31_4, c31_5, c31_6, r31, AtT, AtF, hj, hj', g1, c, hP, Int.toNat_natCast, idx_nn, Pu]
  | false =>
   have c' := of_decide_eq_false c
   rw [if_neg c'] at hP
   have w2 : IntKind.i64.wrap (y - p.vo) = y - p.vo := wrap_i (by omega)
   simp (maxSteps:=500000) only [↓vp, vv, ↓reduceIte, simprocAttr, c31, r31, c31_1, c31_2, c31_3, c31_4, c31_5, c31_6, AtT, AtF, hj, hj', g1, c, Int.toNat_natCast, idx_nn]
   refine rng_nextP hj (y - p.vo) ?_ ⟨hP, by omega, by omega⟩
   exact weak0 (by simp only [↓vp, vv, ↓reduceIte, simprocAttr, coverS, AtF, w1, w2]) (by simp only [↓vp, vv, ↓reduceIte, simprocAttr, refsF, AtF])
 ·obtain ⟨hP, y0, y1⟩ := hP
  rw [List.drop_of_length_le (Nat.le_refl _)] at hP
  have hP' : X = -1 := hP.symm
  subst hP'
  simp (maxSteps:=500000) only [↓vp, vv, ↓reduceIte, simprocAttr, c31, r31, c31_1, c31_2, c31_3, c31_4, c31_5, c31_6, r31, AtT, AtF, Int.lt_irrefl, Pu]
def selAt := selX decPfI AtOk fun a => di (atL a.1 a.2)
theorem tc_at14 {T : Tbl} (hT : TblOk Try.prog T) : TblOk Try.prog (tc 31 (rowPu selAt) T) := tc_x f31_ok decPfI_eq (fun a h nn => at_c a h nn) hT
end Go.Proofs.Ytadjhfjiimgddaa

/- Compiled code of some functions (printed by a program), each checked by the kernel. -/
namespace Go.Proofs.Ytadjhfjiimgddaa
open Go
def c22 : C := (.seq (.ops false [oP 2 (.mv (cB false))]) (.seq (.ops false [oM 3 0, oP 4 (.len (.t 3)), oP 5 (.bin .leq (.t 4) (cI 400)), oM 2 5]) .ret))
def r22 : List RV := [(.tmp 2)]
theorem c22_ok : ∃ code, Try.f22.body = some code ∧ compC Try.prog Try.f22.ntmps code = some (C.strip c22) := ⟨_, rfl, by kernel_rfl⟩
theorem r22_ok : compRes Try.prog Try.f22.results.toList = some r22 := by kernel_rfl
theorem f22_ok : fnOk Try.prog 22 = true := by kernel_rfl
end Go.Proofs.Ytadjhfjiimgddaa
/- Paths: a path from a port. -/
namespace Go.Proofs.Ytadjhfjiimgddaa
open Go
structure Pth where
 inn : Int
 out : Int
 way : List (Int × Bool)
 rate : Int
def Pth.row (x : Pth) : List D := [di x.inn, di x.out, .sl (x.way.map tHop), di x.rate]
end Go.Proofs.Ytadjhfjiimgddaa

/- ToolParts: the walk. -/
namespace Go.Proofs.Ytadjhfjiimgddaa
open Go
def c5_1 : C := (.ops false [oM 81 11, oP 82 (.ld 3 true (.t 13)), oP 83 (.bsl 3 1 [.mt, (.v (.int .i64 0)), (.v (.int .i64 0))] [(0, (.t 82))]), oP 84 (.app 3 40 (.t 81) (.t 83)), oM 11 84])
def c5_2 : C := (.ops false [oM 50 12, oP 51 (.bin .sub (.t 50) (cI 1)), oM 12 51])
def c5_3 : C := (.seq (.block 1 (.seq (.ops false [oP 52 (.bsl 2 0 [(.v (.int .i64 0)), (.v (.bool false))] []), oM 53 10, oP 54 (.app 2 16 (.t 52) (.t 53)), oM 55 7, oM 56 10, oP 57 (.len (.t 56)), oP 58 (.bin .add (.t 57) (cI 1)), oB 59 (.call 13 [(.t 55), (.t 58)]), oP 60 (.bld [.mt, (.v (.int .i64 0)), (.v (.int .i64 0))] [(0, (1, (.t 54))), (1, (1, (.t 59)))]),
 oP 13 (.new [.mt, (.v (.int .i64 0)), (.v (.int .i64 0))]), oS (.st 3 (.t 13) (.t 60))]) (.seq (.seq (.ops false [oP 61 (.fa 1 (.t 13)), oP 62 (.ld 1 false (.t 61)), oM 63 10, oP 64 (.len (.t 63)), oP 65 (.bin .lss (.t 62) (.t 64))]) (.cond (.t 65) (.ops true [oM 66 7, oP 67 (.fa 1 (.t 8)), oA 68 (.ld 1 false (.t 67)) [1], oM 69 10, oP 70 (.fa 1 (.t 13)),
 oA 71 (.ld 1 false (.t 70)) [4], oA 72 (.iaS 2 (.t 69) (.t 71)) [4, 5, 3], oA 73 (.fa 0 (.t 72)) [3, 5, 4, 6], oA 74 (.ld 1 false (.t 73)) [6, 4, 5, 3, 7], oA 75 (.iaS 7 (.t 68) (.t 74)) [7, 3, 5, 4, 6, 1, 8, 2], oA 76 (.fa 3 (.t 75)) [2, 8, 1, 6, 4, 5, 3, 7, 9], oA 77 (.ld 1 false (.t 76)) [9, 7, 3, 5, 4, 6, 1, 8, 2, 10], oA 78 (.bin .add (.t 77) (cI 1)) [10, 2, 8, 1, 6, 4, 5, 3, 7, 9, 11],
 oE 79 (.call 13 [(.t 66), (.t 78)]) [11, 9, 7, 3, 5, 4, 6, 1, 8, 2, 10, 12, 0], oA 80 (.fa 2 (.t 13)) [13, 12, 11, 10, 9, 8, 7, 6, 5, 4, 3, 2, 1, 0], oT (.st 1 (.t 80) (.t 79)) [12, 11, 10, 9, 8, 7, 6, 5, 4, 3, 2, 1, 0, 13, 14]]) .skip)) c5_1))) c5_2)
def c5_4 : C := (.seq (.seq (.ops false [oM 48 12, oP 49 (.bin .gtr (.t 48) (cI 0))]) (.cond (.t 49) .skip (.exit 0))) c5_3)
def c5_5 : C := (.seq (.ops true [oP 158 (.ld 6 true (.t 8)), oM 159 11, oA 160 (.iaS 3 (.t 159) (cI 0)) [1], oA 161 (.fa 0 (.t 160)) [1, 2], oA 162 (.ld 1 false (.t 161)) [2, 1, 3], oA 163 (.call 38 [(.t 158), (.t 162)]) [3, 1, 2, 4, 0], oA 157 (.mv (.t 163)) [0, 4, 2, 1, 3, 5], oA 164 (.ext (.t 157) 0) [5, 3, 1, 2, 4, 0, 6], oA 165 (.ext (.t 157) 1) [5, 3, 1, 2, 4, 0, 6], oP 15 (.new [.mt,
 (.v (.int .i64 0)), (.v (.int .i64 0))]), oT (.st 3 (.t 15) (.t 164)) [6, 4, 3, 2, 1, 0, 5, 7, 9], oA 16 (.mv (.t 165)) [9, 7, 6, 5, 4, 3, 2, 1, 0, 10, 8]]) (.seq (.ops true [oP 167 (.ld 6 true (.t 8)), oM 168 11, oA 169 (.iaS 3 (.t 168) (cI 0)) [1], oA 170 (.fa 0 (.t 169)) [1, 2], oA 171 (.ld 1 false (.t 170)) [2, 1, 3], oA 172 (.call 39 [(.t 167), (.t 171)]) [3, 1, 2, 4, 0],
 oA 166 (.mv (.t 172)) [0, 4, 2, 1, 3, 5], oA 173 (.ext (.t 166) 0) [5, 3, 1, 2, 4, 0, 6], oA 174 (.ext (.t 166) 1) [5, 3, 1, 2, 4, 0, 6], oP 17 (.new [.mt, (.v (.int .i64 0)), (.v (.int .i64 0))]), oT (.st 3 (.t 17) (.t 173)) [6, 4, 3, 2, 1, 0, 5, 7, 9], oA 18 (.mv (.t 174)) [9, 7, 6, 5, 4, 3, 2, 1, 0, 10, 8]]) (.seq (.ops true [oP 176 (.ld 6 true (.t 8)), oP 177 (.ld 3 true (.t 9)),
 oM 178 11, oA 179 (.iaS 3 (.t 178) (cI 0)) [2], oA 180 (.ld 3 true (.t 179)) [2, 3], oA 181 (.call 28 [(.t 176), (.t 177), (.t 180)]) [3, 2, 4, 1, 0], oA 175 (.mv (.t 181)) [0, 1, 4, 2, 3, 5], oA 182 (.ext (.t 175) 0) [5, 3, 2, 4, 1, 0, 6], oA 183 (.ext (.t 175) 1) [5, 3, 2, 4, 1, 0, 6], oP 19 (.new [.mt, (.v (.int .i64 0)), (.v (.int .i64 0))]), oT (.st 3 (.t 19) (.t 182)) [6, 4, 3, 2,
 1, 0, 5, 7, 9], oA 20 (.mv (.t 183)) [9, 7, 6, 5, 4, 3, 2, 1, 0, 10, 8]]) (.seq (.ops true [oP 185 (.ld 6 true (.t 8)), oP 186 (.ld 3 true (.t 9)), oM 187 11, oA 188 (.iaS 3 (.t 187) (cI 0)) [2], oA 189 (.ld 3 true (.t 188)) [2, 3], oA 190 (.call 40 [(.t 185), (.t 186), (.t 189)]) [3, 2, 4, 1, 0], oA 184 (.mv (.t 190)) [0, 1, 4, 2, 3, 5], oA 191 (.ext (.t 184) 0) [5, 3, 2, 4, 1, 0, 6],
 oA 192 (.ext (.t 184) 1) [5, 3, 2, 4, 1, 0, 6], oP 21 (.new [.mt, (.v (.int .i64 0)), (.v (.int .i64 0))]), oT (.st 3 (.t 21) (.t 191)) [6, 4, 3, 2, 1, 0, 5, 7, 9], oA 22 (.mv (.t 192)) [9, 7, 6, 5, 4, 3, 2, 1, 0, 10, 8]]) (.seq (.ops false [oP 194 (.ld 6 true (.t 8)), oP 195 (.ld 3 true (.t 9)), oM 196 11, oM 197 14, oP 198 (.call 41 [(.t 194), (.t 195), (.t 196),
 (.t 197)]), oM 193 198, oP 199 (.ext (.t 193) 0), oP 200 (.ext (.t 193) 1), oM 23 199, oM 24 200]) (.seq (.ops false [oP 202 (.ld 6 true (.t 8)), oP 203 (.ld 3 true (.t 9)), oM 204 11, oM 205 14, oP 206 (.call 42 [(.t 202), (.t 203), (.t 204), (.t 205)]), oM 201 206, oP 207 (.ext (.t 201) 0), oP 208 (.ext (.t 201) 1),
 oM 25 207, oM 26 208]) (.seq (.ops true [oP 210 (.ld 6 true (.t 8)), oM 211 11, oA 212 (.iaS 3 (.t 211) (cI 0)) [1], oA 213 (.ld 3 true (.t 212)) [1, 2], oM 214 11, oM 215 11, oA 216 (.len (.t 215)) [5], oA 217 (.bin .sub (.t 216) (cI 1)) [5, 6], oA 218 (.iaS 3 (.t 214) (.t 217)) [6, 5, 7, 4], oA 219 (.ld 3 true (.t 218)) [4, 7, 5, 6, 8],
 oE 220 (.call 43 [(.t 210), (.t 213), (.t 219)]) [8, 6, 5, 7, 4, 2, 1, 9, 3, 0], oA 209 (.mv (.t 220)) [0, 3, 9, 1, 2, 4, 7, 5, 6, 8, 10], oA 221 (.ext (.t 209) 0) [10, 8, 6, 5, 7, 4, 2, 1, 9, 3, 0, 11], oA 222 (.ext (.t 209) 1) [10, 8, 6, 5, 7, 4, 2, 1, 9, 3, 0, 11], oA 27 (.mv (.t 221)) [11, 9, 8, 7, 6, 5, 4, 3, 2, 1, 0, 10, 12], oA 28 (.mv (.t 222)) [12, 11, 10, 9, 8, 7, 6, 5, 4, 3, 2, 1, 0,
 14, 13]]) (.seq (.ops true [oP 224 (.ld 6 true (.t 8)), oM 225 11, oA 226 (.iaS 3 (.t 225) (cI 0)) [1], oA 227 (.ld 3 true (.t 226)) [1, 2], oM 228 11, oM 229 11, oA 230 (.len (.t 229)) [5], oA 231 (.bin .sub (.t 230) (cI 1)) [5, 6], oA 232 (.iaS 3 (.t 228) (.t 231)) [6, 5, 7, 4], oA 233 (.ld 3 true (.t 232)) [4, 7, 5, 6, 8], oE 234 (.call 44 [(.t 224), (.t 227),
 (.t 233)]) [8, 6, 5, 7, 4, 2, 1, 9, 3, 0], oA 223 (.mv (.t 234)) [0, 3, 9, 1, 2, 4, 7, 5, 6, 8, 10], oA 235 (.ext (.t 223) 0) [10, 8, 6, 5, 7, 4, 2, 1, 9, 3, 0, 11], oA 236 (.ext (.t 223) 1) [10, 8, 6, 5, 7, 4, 2, 1, 9, 3, 0, 11], oA 29 (.mv (.t 235)) [11, 9, 8, 7, 6, 5, 4, 3, 2, 1, 0, 10, 12], oA 30 (.mv (.t 236)) [12, 11, 10, 9, 8, 7, 6, 5, 4, 3, 2, 1, 0, 14, 13]])
 (.seq (.ops true [oM 237 16, oM 238 18, oA 239 (.bin .eql (.t 237) (.t 238)) [1, 0], oA 240 (.mv (.t 239)) [0, 1, 2], oH 241 240 true (.mv (.t 20)) [2, 1, 0, 3], oH 242 240 true (.mv (.t 22)) [2, 1, 0, 3], oH 243 240 true (.bin .eql (.t 241) (.t 242)) [0, 1, 2, 3, 5, 4], oA 244 (.pick (.t 240) (.t 243) (cB false)) [4, 5, 2, 1, 0, 6, 3], oA 245 (.mv (.t 244)) [6, 0, 1, 2, 5,
 4, 3, 7], oH 246 245 true (.mv (.t 24)) [7, 3, 4, 5, 2, 1, 0, 6, 8], oH 247 245 true (.mv (.t 26)) [7, 3, 4, 5, 2, 1, 0, 6, 8], oH 248 245 true (.bin .eql (.t 246) (.t 247)) [6, 0, 1, 2, 5, 4, 3, 7, 8, 10, 9], oA 249 (.pick (.t 245) (.t 248) (cB false)) [9, 10, 7, 3, 4, 5, 2, 1, 0, 6, 11, 8], oA 250 (.mv (.t 249)) [11, 6, 0, 1, 2, 5, 4, 3, 7, 10, 9, 8, 12], oH 251 250 true (.mv (.t 28)) [12, 8, 9,
 10, 7, 3, 4, 5, 2, 1, 0, 6, 11, 13], oH 252 250 true (.mv (.t 30)) [12, 8, 9, 10, 7, 3, 4, 5, 2, 1, 0, 6, 11, 13], oH 253 250 true (.bin .eql (.t 251) (.t 252)) [11, 6, 0, 1, 2, 5, 4, 3, 7, 10, 9, 8, 12, 13, 15, 14], oA 254 (.pick (.t 250) (.t 253) (cB false)) [14, 15, 12, 8, 9, 10, 7, 3, 4, 5, 2, 1, 0, 6, 11, 16, 13], oA 255 (.mv (.t 254)) [16, 11, 6, 0, 1, 2, 5, 4, 3, 7, 10, 9, 8, 12, 15, 14,
 13, 17], oH 256 255 true (.mv (.t 27)) [17, 13, 14, 15, 12, 8, 9, 10, 7, 3, 4, 5, 2, 1, 0, 6, 11, 16, 18], oH 257 255 true (.mv (.t 29)) [17, 13, 14, 15, 12, 8, 9, 10, 7, 3, 4, 5, 2, 1, 0, 6, 11, 16, 18], oH 258 255 true (.beq false (.t 256) (.t 257)) [16, 11, 6, 0, 1, 2, 5, 4, 3, 7, 10, 9, 8, 12, 15, 14, 13, 17, 18, 20, 19], oA 259 (.pick (.t 255) (.t 258) (cB false)) [19, 20, 17, 13, 14, 15, 12,
 8, 9, 10, 7, 3, 4, 5, 2, 1, 0, 6, 11, 16, 21, 18], oA 260 (.mv (.t 259)) [21, 16, 11, 6, 0, 1, 2, 5, 4, 3, 7, 10, 9, 8, 12, 15, 14, 13, 17, 20, 19, 18, 22], oH 261 260 true (.ld 3 true (.t 15)) [22, 18, 19, 20, 17, 13, 14, 15, 12, 8, 9, 10, 7, 3, 4, 5, 2, 1, 0, 6, 11, 16, 21, 23], oH 262 260 true (.ld 3 true (.t 19)) [22, 18, 19, 20, 17, 13, 14, 15, 12, 8, 9, 10, 7, 3, 4, 5, 2, 1, 0, 6, 11, 16,
 21, 23], oH 263 260 true (.bsl 3 2 [.mt, (.v (.int .i64 0)), (.v (.int .i64 0))] [(0, (.t 261)), (1, (.t 262))]) [21, 16, 11, 6, 0, 1, 2, 5, 4, 3, 7, 10, 9, 8, 12, 15, 14, 13, 17, 20, 19, 18, 22, 23, 25, 24], oH 264 260 true (.ld 3 true (.t 17)) [22, 18, 19, 20, 17, 13, 14, 15, 12, 8, 9, 10, 7, 3, 4, 5, 2, 1, 0, 6, 11, 16, 21, 23], oH 265 260 true (.ld 3 true (.t 21)) [22, 18, 19, 20, 17, 13, 14,
 15, 12, 8, 9, 10, 7, 3, 4, 5, 2, 1, 0, 6, 11, 16, 21, 23], oH 266 260 true (.bsl 3 2 [.mt, (.v (.int .i64 0)), (.v (.int .i64 0))] [(0, (.t 264)), (1, (.t 265))]) [21, 16, 11, 6, 0, 1, 2, 5, 4, 3, 7, 10, 9, 8, 12, 15, 14, 13, 17, 20, 19, 18, 22, 23, 28, 27], oD 267 260 true (.call 45 [(.t 263), (.t 266)]) [27, 28, 24, 25, 22, 18, 19, 20, 17, 13, 14, 15, 12, 8, 9, 10, 7, 3, 4, 5, 2, 1, 0, 6, 11,
 16, 21, 23, 29, 26], oA 268 (.pick (.t 260) (.t 267) (cB false)) [26, 29, 25, 24, 28, 27, 22, 18, 19, 20, 17, 13, 14, 15, 12, 8, 9, 10, 7, 3, 4, 5, 2, 1, 0, 6, 11, 16, 21, 30, 23], oA 269 (.mv (.t 268)) [23, 21, 16, 11, 6, 0, 1, 2, 5, 4, 3, 7, 10, 9, 8, 12, 15, 14, 13, 17, 20, 19, 18, 22, 27, 28, 24, 25, 29, 26, 30, 31], oH 270 269 true (.mv (.t 23)) [31, 30, 26, 29, 25, 24, 28, 27, 22, 18, 19,
 20, 17, 13, 14, 15, 12, 8, 9, 10, 7, 3, 4, 5, 2, 1, 0, 6, 11, 16, 21, 23, 32], oH 271 269 true (.mv (.t 25)) [31, 30, 26, 29, 25, 24, 28, 27, 22, 18, 19, 20, 17, 13, 14, 15, 12, 8, 9, 10, 7, 3, 4, 5, 2, 1, 0, 6, 11, 16, 21, 23, 32], oD 272 269 true (.call 45 [(.t 270), (.t 271)]) [23, 21, 16, 11, 6, 0, 1, 2, 5, 4, 3, 7, 10, 9, 8, 12, 15, 14, 13, 17, 20, 19, 18, 22, 27, 28, 24, 25, 29, 26, 30, 31,
 32, 34, 33], oA 273 (.pick (.t 269) (.t 272) (cB false)) [33, 34, 31, 30, 26, 29, 25, 24, 28, 27, 22, 18, 19, 20, 17, 13, 14, 15, 12, 8, 9, 10, 7, 3, 4, 5, 2, 1, 0, 6, 11, 16, 21, 23, 35, 32], oA 274 (.mv (.t 273)) [32, 23, 21, 16, 11, 6, 0, 1, 2, 5, 4, 3, 7, 10, 9, 8, 12, 15, 14, 13, 17, 20, 19, 18, 22, 27, 28, 24, 25, 29, 26, 30, 31, 34, 33, 35, 36], oH 275 274 true (.ld 6 true (.t 8)) [36, 35,
 33, 34, 31, 30, 26, 29, 25, 24, 28, 27, 22, 18, 19, 20, 17, 13, 14, 15, 12, 8, 9, 10, 7, 3, 4, 5, 2, 1, 0, 6, 11, 16, 21, 23, 32, 37], oH 276 274 true (.mv (.t 11)) [36, 35, 33, 34, 31, 30, 26, 29, 25, 24, 28, 27, 22, 18, 19, 20, 17, 13, 14, 15, 12, 8, 9, 10, 7, 3, 4, 5, 2, 1, 0, 6, 11, 16, 21, 23, 32, 37], oH 277 274 true (.iaS 3 (.t 276) (cI 0)) [32, 23, 21, 16, 11, 6, 0, 1, 2, 5, 4, 3, 7, 10,
 9, 8, 12, 15, 14, 13, 17, 20, 19, 18, 22, 27, 28, 24, 25, 29, 26, 30, 31, 34, 33, 35, 36, 37, 39], oH 278 274 true (.ld 3 true (.t 277)) [39, 36, 35, 33, 34, 31, 30, 26, 29, 25, 24, 28, 27, 22, 18, 19, 20, 17, 13, 14, 15, 12, 8, 9, 10, 7, 3, 4, 5, 2, 1, 0, 6, 11, 16, 21, 23, 32, 37, 40], oD 279 274 true (.call 46 [(.t 275), (.t 278)]) [40, 39, 32, 23, 21, 16, 11, 6, 0, 1, 2, 5, 4, 3, 7, 10, 9, 8,
 12, 15, 14, 13, 17, 20, 19, 18, 22, 27, 28, 24, 25, 29, 26, 30, 31, 34, 33, 35, 36, 37, 41, 38], oH 280 274 true (.ld 6 true (.t 8)) [36, 35, 33, 34, 31, 30, 26, 29, 25, 24, 28, 27, 22, 18, 19, 20, 17, 13, 14, 15, 12, 8, 9, 10, 7, 3, 4, 5, 2, 1, 0, 6, 11, 16, 21, 23, 32, 37], oH 281 274 true (.mv (.t 11)) [36, 35, 33, 34, 31, 30, 26, 29, 25, 24, 28, 27, 22, 18, 19, 20, 17, 13, 14, 15, 12, 8, 9,
 10, 7, 3, 4, 5, 2, 1, 0, 6, 11, 16, 21, 23, 32, 37], oH 282 274 true (.iaS 3 (.t 281) (cI 0)) [32, 23, 21, 16, 11, 6, 0, 1, 2, 5, 4, 3, 7, 10, 9, 8, 12, 15, 14, 13, 17, 20, 19, 18, 22, 27, 28, 24, 25, 29, 26, 30, 31, 34, 33, 35, 36, 37, 44], oH 283 274 true (.ld 3 true (.t 282)) [44, 36, 35, 33, 34, 31, 30, 26, 29, 25, 24, 28, 27, 22, 18, 19, 20, 17, 13, 14, 15, 12, 8, 9, 10, 7, 3, 4, 5, 2, 1, 0,
 6, 11, 16, 21, 23, 32, 37, 45], oD 284 274 true (.call 47 [(.t 280), (.t 283)]) [38, 41, 39, 40, 45, 44, 32, 23, 21, 16, 11, 6, 0, 1, 2, 5, 4, 3, 7, 10, 9, 8, 12, 15, 14, 13, 17, 20, 19, 18, 22, 27, 28, 24, 25, 29, 26, 30, 31, 34, 33, 35, 36, 37, 42, 46, 43], oH 285 274 true (.beq false (.t 279) (.t 284)) [43, 46, 44, 45, 38, 41, 36, 35, 33, 34, 31, 30, 26, 29, 25, 24, 28, 27, 22, 18, 19, 20, 17,
 13, 14, 15, 12, 8, 9, 10, 7, 3, 4, 5, 2, 1, 0, 6, 11, 16, 21, 23, 32, 39, 40, 37, 47, 42], oA 286 (.pick (.t 274) (.t 285) (cB false)) [42, 47, 40, 39, 41, 38, 45, 44, 46, 43, 36, 35, 33, 34, 31, 30, 26, 29, 25, 24, 28, 27, 22, 18, 19, 20, 17, 13, 14, 15, 12, 8, 9, 10, 7, 3, 4, 5, 2, 1, 0, 6, 11, 16, 21, 23, 32, 48, 37], oA 287 (.mv (.t 286)) [37, 48, 32, 23, 21, 16, 11, 6, 0, 1, 2, 5, 4, 3, 7,
 10, 9, 8, 12, 15, 14, 13, 17, 20, 19, 18, 22, 27, 28, 24, 25, 29, 26, 30, 31, 34, 33, 35, 36, 43, 46, 44, 45, 38, 41, 39, 40, 42, 47, 49], oH 288 287 true (.mv (.t 11)) [49, 47, 42, 40, 39, 41, 38, 45, 44, 46, 43, 36, 35, 33, 34, 31, 30, 26, 29, 25, 24, 28, 27, 22, 18, 19, 20, 17, 13, 14, 15, 12, 8, 9, 10, 7, 3, 4, 5, 2, 1, 0, 6, 11, 16, 21, 23, 32, 48, 37, 50], oH 289 287 true (.iaS 3 (.t 288)
 (cI 0)) [37, 48, 32, 23, 21, 16, 11, 6, 0, 1, 2, 5, 4, 3, 7, 10, 9, 8, 12, 15, 14, 13, 17, 20, 19, 18, 22, 27, 28, 24, 25, 29, 26, 30, 31, 34, 33, 35, 36, 43, 46, 44, 45, 38, 41, 39, 40, 42, 47, 49, 50, 51], oH 290 287 true (.ld 3 true (.t 289)) [51, 49, 47, 42, 40, 39, 41, 38, 45, 44, 46, 43, 36, 35, 33, 34, 31, 30, 26, 29, 25, 24, 28, 27, 22, 18, 19, 20, 17, 13, 14, 15, 12, 8, 9, 10, 7, 3, 4, 5,
 2, 1, 0, 6, 11, 16, 21, 23, 32, 48, 37, 50, 52], oD 291 287 true (.call 30 [(.t 290)]) [52, 37, 48, 32, 23, 21, 16, 11, 6, 0, 1, 2, 5, 4, 3, 7, 10, 9, 8, 12, 15, 14, 13, 17, 20, 19, 18, 22, 27, 28, 24, 25, 29, 26, 30, 31, 34, 33, 35, 36, 43, 46, 44, 45, 38, 41, 39, 40, 42, 47, 49, 51, 50, 53], oH 292 287 true (.mv (.t 11)) [49, 47, 42, 40, 39, 41, 38, 45, 44, 46, 43, 36, 35, 33, 34, 31, 30, 26,
 29, 25, 24, 28, 27, 22, 18, 19, 20, 17, 13, 14, 15, 12, 8, 9, 10, 7, 3, 4, 5, 2, 1, 0, 6, 11, 16, 21, 23, 32, 48, 37, 50], oH 293 287 true (.iaS 3 (.t 292) (cI 0)) [37, 48, 32, 23, 21, 16, 11, 6, 0, 1, 2, 5, 4, 3, 7, 10, 9, 8, 12, 15, 14, 13, 17, 20, 19, 18, 22, 27, 28, 24, 25, 29, 26, 30, 31, 34, 33, 35, 36, 43, 46, 44, 45, 38, 41, 39, 40, 42, 47, 49, 50, 55],
 oH 294 287 true (.ld 3 true (.t 293)) [55, 49, 47, 42, 40, 39, 41, 38, 45, 44, 46, 43, 36, 35, 33, 34, 31, 30, 26, 29, 25, 24, 28, 27, 22, 18, 19, 20, 17, 13, 14, 15, 12, 8, 9, 10, 7, 3, 4, 5, 2, 1, 0, 6, 11, 16, 21, 23, 32, 48, 37, 50, 56], oD 295 287 true (.call 48 [(.t 294)]) [53, 51, 52, 56, 37, 48, 32, 23, 21, 16, 11, 6, 0, 1, 2, 5, 4, 3, 7, 10, 9, 8, 12, 15, 14, 13, 17, 20, 19, 18, 22, 27,
 28, 24, 25, 29, 26, 30, 31, 34, 33, 35, 36, 43, 46, 44, 45, 38, 41, 39, 40, 42, 47, 49, 55, 50, 54, 57], oH 296 287 true (.beq false (.t 291) (.t 295)) [57, 55, 56, 53, 51, 49, 47, 42, 40, 39, 41, 38, 45, 44, 46, 43, 36, 35, 33, 34, 31, 30, 26, 29, 25, 24, 28, 27, 22, 18, 19, 20, 17, 13, 14, 15, 12, 8, 9, 10, 7, 3, 4, 5, 2, 1, 0, 6, 11, 16, 21, 23, 32, 48, 37, 52, 50, 58, 54],
 oA 297 (.pick (.t 287) (.t 296) (cB false)) [54, 58, 52, 51, 53, 56, 55, 57, 49, 47, 42, 40, 39, 41, 38, 45, 44, 46, 43, 36, 35, 33, 34, 31, 30, 26, 29, 25, 24, 28, 27, 22, 18, 19, 20, 17, 13, 14, 15, 12, 8, 9, 10, 7, 3, 4, 5, 2, 1, 0, 6, 11, 16, 21, 23, 32, 48, 37, 59, 50], oA 298 (.mv (.t 297)) [50, 59, 37, 48, 32, 23, 21, 16, 11, 6, 0, 1, 2, 5, 4, 3, 7, 10, 9, 8, 12, 15, 14, 13, 17, 20, 19, 18,
 22, 27, 28, 24, 25, 29, 26, 30, 31, 34, 33, 35, 36, 43, 46, 44, 45, 38, 41, 39, 40, 42, 47, 49, 57, 55, 56, 53, 51, 52, 54, 58, 60], oD 299 298 true (.call 23 []) [60, 58, 54, 52, 51, 53, 56, 55, 57, 49, 47, 42, 40, 39, 41, 38, 45, 44, 46, 43, 36, 35, 33, 34, 31, 30, 26, 29, 25, 24, 28, 27, 22, 18, 19, 20, 17, 13, 14, 15, 12, 8, 9, 10, 7, 3, 4, 5, 2, 1, 0, 6, 11, 16, 21, 23, 32, 48, 37, 59, 50,
 61], oA 300 (.pick (.t 298) (.t 299) (cB false)) [60, 58, 54, 52, 51, 53, 56, 55, 57, 49, 47, 42, 40, 39, 41, 38, 45, 44, 46, 43, 36, 35, 33, 34, 31, 30, 26, 29, 25, 24, 28, 27, 22, 18, 19, 20, 17, 13, 14, 15, 12, 8, 9, 10, 7, 3, 4, 5, 2, 1, 0, 6, 11, 16, 21, 23, 32, 48, 37, 59, 50, 62, 61], oA 6 (.mv (.t 300)) [61, 60, 59, 58, 57, 56, 55, 54, 53, 52, 51, 50, 49, 48, 47, 46, 45, 44, 43, 42, 41,
 40, 39, 38, 37, 36, 35, 34, 33, 32, 31, 30, 29, 28, 27, 26, 25, 24, 23, 22, 21, 20, 19, 18, 17, 16, 15, 14, 13, 12, 11, 10, 9, 8, 7, 6, 5, 4, 3, 2, 1, 0, 62, 63]]) .ret)))))))))
def c5_6 : C := (.seq (.ops false [oM 85 7, oB 86 (.call 13 [(.t 85), (cI 30)]), oM 14 86]) (.seq (.seq (.ops false [oM 87 1, oB 88 (.call 35 [(.t 87), (cI 14)])]) (.block 2 (.seq (.ops false [oP 90 (.bin .eql (.t 88) (cI 0)), oM 89 90]) (.cond (.t 89) (.ops false [oM 91 7, oP 92 (.ld 6 true (.t 8)), oP 93 (.call 36 [(.t 91), (.t 92)]), oS (.st 6 (.t 8)
 (.t 93))]) (.seq (.ops false [oP 95 (.bin .eql (.t 88) (cI 1)), oM 94 95]) (.cond (.t 94) (.ops false [oM 96 7, oP 97 (.ld 3 true (.t 9)), oP 98 (.call 37 [(.t 96), (.t 97)]), oS (.st 3 (.t 9) (.t 98))]) (.seq (.ops false [oP 100 (.bin .eql (.t 88) (cI 2)), oM 99 100]) (.cond (.t 99) (.ops false [oM 101 11, oM 102 2,
 oB 103 (.call 35 [(.t 102), (cI 9)]), oP 104 (.bin .sub (.t 103) (cI 1)), oP 105 (.iaS 3 (.t 101) (cI 0)), oP 106 (.fa 1 (.t 105)), oS (.st 1 (.t 106) (.t 104))]) (.seq (.ops false [oP 108 (.bin .eql (.t 88) (cI 3)), oM 107 108]) (.cond (.t 107) (.ops false [oM 109 11, oM 110 2, oP 111 (.iaS 3 (.t 109) (cI 0)), oP 112 (.fa 2 (.t 111)), oS (.st 1 (.t 112)
 (.t 110))]) (.seq (.ops false [oP 114 (.bin .eql (.t 88) (cI 4)), oM 113 114]) (.cond (.t 113) (.seq (.ops false [oM 115 10, oP 116 (.len (.t 115)), oP 117 (.bin .gtr (.t 116) (cI 0))]) (.cond (.t 117) (.ops true [oM 118 11, oA 119 (.iaS 3 (.t 118) (cI 0)) [0], oA 120 (.fa 0 (.t 119)) [0, 1], oA 121 (.ld 1 false (.t 120)) [1, 0, 2], oM 122 11,
 oA 123 (.iaS 3 (.t 122) (cI 0)) [4], oA 124 (.fa 0 (.t 123)) [4, 5], oA 125 (.ld 1 false (.t 124)) [5, 4, 6], oA 126 (.iaS 2 (.t 125) (cI 0)) [6, 4, 5, 7], oA 127 (.fa 1 (.t 126)) [7, 5, 4, 6, 8], oA 128 (.ld 1 false (.t 127)) [8, 6, 4, 5, 7, 9], oA 129 (.not (.t 128)) [9, 7, 5, 4, 6, 8, 10], oA 130 (.iaS 2 (.t 121) (cI 0)) [11, 10, 9, 8, 7, 6, 5, 4, 2, 1, 0, 3], oA 131 (.fa 1 (.t 130)) [11, 10,
 9, 8, 7, 6, 5, 4, 3, 2, 1, 0, 12], oT (.st 1 (.t 131) (.t 129)) [12, 10, 9, 8, 7, 6, 5, 4, 3, 2, 1, 0, 11, 13]]) .skip)) (.seq (.ops false [oP 133 (.bin .eql (.t 88) (cI 5)), oM 132 133]) (.cond (.t 132) (.ops true [oM 134 11, oM 135 11, oA 136 (.iaS 3 (.t 135) (cI 0)) [1], oA 137 (.fa 0 (.t 136)) [1, 2], oA 138 (.ld 1 false (.t 137)) [2, 1, 3],
 oM 139 2, oE 140 (.call 35 [(.t 139), (cI 9)]) [5], oA 141 (.bin .sub (.t 140) (cI 1)) [5, 6], oA 142 (.bld [(.v (.int .i64 0)), (.v (.bool false))] [(0, (1, (.t 141)))]) [6, 5, 7], oA 143 (.bsl 2 1 [(.v (.int .i64 0)), (.v (.bool false))] [(0, (.t 142))]) [7, 5, 6, 8], oA 144 (.app 2 16 (.t 138) (.t 143)) [8, 5, 7, 3, 1, 2, 6, 9, 4], oA 145 (.iaS 3 (.t 134) (cI 0)) [10, 9, 8, 7, 6, 5,
 4, 3, 2, 1, 0], oA 146 (.fa 0 (.t 145)) [10, 9, 8, 7, 6, 5, 4, 3, 2, 1, 0, 11], oT (.st 1 (.t 146) (.t 144)) [11, 9, 8, 7, 6, 5, 4, 3, 2, 1, 0, 10, 12]]) (.seq (.ops false [oP 148 (.bin .eql (.t 88) (cI 6)), oM 147 148]) (.cond (.t 147) (.ops false [oM 149 2, oB 150 (.call 35 [(.t 149), (cI 403)]), oP 151 (.bin .sub (.t 150) (cI 1)), oM 14 151])
 (.seq (.ops false [oP 153 (.bin .eql (.t 88) (cI 7)), oM 152 153]) (.cond (.t 152) (.ops false [oM 154 11, oP 155 (.iaS 3 (.t 154) (cI 0)), oP 156 (.fa 0 (.t 155)), oS (.st 1 (.t 156) (.c .mt))]) .skip)))))))))))))))))) (.weak c5_5)))
def c5_7 : C := (.seq (.ops false [oM 35 0, oP 36 (.call 8 [(.t 35)]), oM 7 36]) (.seq (.ops false [oM 37 7, oP 38 (.call 32 [(.t 37)]), oP 8 (.new [.mt, .mt, .mt, .mt, (.v (.int .i64 0)), (.v (.int .i64 0))]), oS (.st 6 (.t 8) (.t 38))]) (.seq (.ops false [oM 39 7, oP 40 (.ld 6 true (.t 8)), oP 41 (.call 33 [(.t 39), (.t 40)]), oP 9 (.new [.mt, .mt, .mt]),
 oS (.st 3 (.t 9) (.t 41))]) (.seq (.ops false [oM 42 7, oP 43 (.ld 6 true (.t 8)), oP 44 (.call 34 [(.t 42), (.t 43)]), oM 10 44]) (.seq (.ops false [oP 11 (.mv (.c .mt))]) (.seq (.seq (.ops false [oM 45 7, oB 46 (.call 13 [(.t 45), (cI 3)]), oP 47 (.bin .add (cI 1) (.t 46)), oM 12 47]) (.block 0 (.loop c5_4))) c5_6))))))
def c5 : C := (.seq (.ops false [oP 6 (.mv (cB false))]) (.seq (.seq (.ops false [oM 31 0, oB 32 (.call 22 [(.t 31)]), oP 33 (.not (.t 32))]) (.cond (.t 33) (.seq (.ops false [oB 34 (.call 23 []), oM 6 34]) .ret) .skip)) c5_7))
def r5 : List RV := [(.tmp 6)]
def c28_1 : C := (.seq (.ops false [oP 19 (.ld 6 true (.t 3)), oP 20 (.ld 3 true (.t 4)), oP 21 (.ld 3 true (.t 5)), oP 22 (.call 80 [(.t 19), (.t 20), (.t 21)]), oS (.st 3 (.t 6) (.t 22)), oP 7 (.mv (cI 0))]) .ret)
def c28 : C := (.seq (.ops false [oP 3 (.box 6 (.t 0)), oP 4 (.box 3 (.t 1)), oP 5 (.box 3 (.t 2)), oP 6 (.new [.mt, (.v (.int .i64 0)), (.v (.int .i64 0))]), oP 7 (.mv (cI 0))]) (.seq (.seq (.ops false [oP 9 (.ld 6 true (.t 3)), oP 10 (.ld 3 true (.t 4)), oP 11 (.ld 3 true (.t 5)), oP 12 (.bsl 3 1 [.mt, (.v (.int .i64 0)), (.v (.int .i64 0))] [(0, (.t 11))]), oB 13 (.call 78 [(.t 9), (.t 10), (.t 12)]),
 oM 8 13]) (.seq (.ops false [oM 14 8, oP 15 (.bin .neq (.t 14) (cI 0))]) (.cond (.t 15) (.seq (.ops false [oP 16 (.ld 3 true (.t 5)), oP 17 (.call 79 [(.t 16)]), oM 18 8, oS (.st 3 (.t 6) (.t 17)), oM 7 18]) .ret) .skip))) c28_1))
def r28 : List RV := [(.cell 6 3 true), (.tmp 7)]
theorem c28_ok : ∃ code, Try.f28.body = some code ∧ compC Try.prog Try.f28.ntmps code = some (C.strip c28) := ⟨_, rfl, by kernel_rfl⟩
theorem r28_ok : compRes Try.prog Try.f28.results.toList = some r28 := by kernel_rfl
theorem f28_ok : fnOk Try.prog 28 = true := by kernel_rfl
end Go.Proofs.Ytadjhfjiimgddaa

/- Tools: the reference's valid, move, Copy. -/
namespace Go.Proofs.Ytadjhfjiimgddaa
open Go
def movE (n : Net) (p : Pln) (t : Tol) : Int := if checkI n = 0 then (if fckI n p = 0 then (if tolV n t = true then 0 else 24) else fckI n p) else checkI n
def movT (n : Net) (p : Pln) (t : Tol) : Tol := if movE n p t = 0 then mov1 n p t else t
theorem toolE1 (n : Net) (p : Pln) (t : Tol) : toolE n p [t] = movE n p t := by
 unfold toolE movE
 by_cases h1 : checkI n = 0
 ·rw [if_neg (by omega), if_pos h1]
  by_cases h2 : fckI n p = 0
  ·rw [if_neg (by omega), if_pos h2]
   cases h3 : tolV n t <;> simp [badT, h3]
  ·rw [if_pos h2, if_neg h2]
 ·rw [if_pos h1, if_neg h1]
def TW1 : Tbl := tc 95 (rowPu (selNet fun n => di (checkI n))) (tc 96 (rowPu selVal) (tc 79 (rowPu (selTol wayQ Tol.enc)) (tc 80 (rowPu selMv) (tc 78 (rowPu selCk) T0))))
theorem TW1_ok : TblOk Try.prog TW1 := tc_netf f95_ok (fun n hz nn => check_c n hz nn) (tc_val (tc_tol f79_ok (fun t h nn => copied_w t h nn) (tc_pu f80_ok (fun args pre d hs hp nn => by
 unfold selMv at hs
 split at hs
 ·split at hs
  ·rename_i e1 e2 e3
   cases hs
   rw [netOf1_eq e1, plnOf1_eq e2, tolOf1_eq e3]
   exact moved_c _ _ _ hp nn
  ·cases hs
 ·cases hs) (tc_pu f78_ok (fun args pre d hs hp nn => by
 unfold selCk at hs
 split at hs
 ·split at hs
  ·rename_i e1 e2 e3
   cases hs
   rw [netOf1_eq e1, plnOf1_eq e2, lsOf_eq (fun r x => tolOf1_eq) e3]
   exact check_t _ _ _ hp.1 hp.2.1 hp.2.2 nn
  ·cases hs
 ·cases hs) (T0_ok _)))))
theorem mvpre_of {n : Net} {p : Pln} {t : Tol} (h1 : checkI n = 0) (h2 : fckI n p = 0) (h3 : tolV n t = true) : MvPre n p t :=
 ⟨check0 h1, (tolV_iff n t).1 h3, (fck0 h2).rl, plnv_rb (fck0 h2)⟩
section
variable (n : Net) (hz : NetSz n)
include hz
set_option maxHeartbeats 8000000 in
theorem move_w (p : Pln) (t : Tol) (hp : FckPre n p) (hw : t.way.length ≤ 1000000) (nn : Nm) : CallsA Try.prog 28 [n.enc, p.enc, t.enc] Hp.none nn (Pu (.tup [(movT n p t).enc, di (movE n p t)]) Hp.none) := by
 obtain ⟨code, h1, h2⟩ := c28_ok
 refine callsA_of TW1_ok mixed (N := fun t => (0, t)) Try.func28 h1 h2 r28_ok [] false js_nil js_nil' (by simp [Try.f28]) ?_
 have hn1 := netOf1_x n
 have hp1 := plnOf1_x p
 have ht1 := tolOf1_x t
 have hl1 : lsOf tolOf1 [[.sl (t.way.map tHop), di t.hop, di t.pos]] = some [t] := lsOf_map (g := Tol.row) tolOf1_row [t]
 have hwq : wayQ t := hw
 have hall : (∀ x ∈ [t], x.way.length ≤ 1000000) = True := eq_true fun x hx => by rw [List.mem_singleton.1 hx]; exact hw
 have hE := toolE1 n p t
 have ll : (1 : Nat) ≤ 1000000 := by decide
 unfold movT
 by_cases e1 : movE n p t = 0
 ·have c1 : (movE n p t != 0) = false := by simp [e1]
  have hm : MvPre n p t := by
   unfold movE at e1
   split at e1
   ·rename_i a1
    split at e1
    ·rename_i a2
     split at e1
     ·rename_i a3
      exact mvpre_of a1 a2 a3
     ·omega
    ·rename_i a2; exact absurd e1 a2
   ·rename_i a1; exact absurd e1 a1
  rw [if_pos e1]
  simp (maxSteps:=500000) only [↓vp, vv, ↓reduceIte, simprocAttr, c28, r28, c28_1, TW1, selCk, selMv, Net.enc, netD, Pln.enc, plnD, Tol.enc, Tol.row, hn1, hp1, ht1, hl1, hp, hall, hw, ll, hE, c1, hm, e1, List.length_cons, List.length_nil, Pu]
 ·have c1 : (movE n p t != 0) = true := by simpa using e1
  rw [if_neg e1]
  simp (maxSteps:=500000) only [↓vp, vv, ↓reduceIte, simprocAttr, c28, r28, c28_1, TW1, selCk, selMv, selTol, Net.enc, netD, Pln.enc, plnD, Tol.enc, Tol.row, hn1, hp1, ht1, hl1, hp, hall, hw, ll, hE, c1, hwq, List.length_cons, List.length_nil, Pu]
end
def D.nil : D → D
 | .mt => .sl []
 | d => d
theorem Rel.nil {Im : Nat → Prop} {p : Pl} {H : Hp} {h : Array Obj} {d : D} {x : Value} (r : Rel Im p H h d x) : Rel Im p H h d.nil x := by
 cases d with
 | mt =>
  cases r with
  | p r =>
   cases r with
   | mt a => exact .p (.sl0 a 0)
 | _ => exact r
theorem weak_nil {J : List Nm} {F : Fr} {H : Hp} (j : Nm) (g sz : Nat) (rows : List (List D)) (hj : H j = some ⟨g, sz, rows⟩) : Weak J ⟨F, H⟩ ⟨F, H.put j ⟨g, sz, rows.map fun r => r.map D.nil⟩⟩ := by
 intro E hE Im p a w hR
 have hne : (rows.map fun r => r.map D.nil) ≠ [] → rows ≠ [] := fun h h' => h (by rw [h']; rfl)
 have T : Turn Im p H w.heap j ⟨g, sz, rows⟩ ⟨g, sz, rows.map fun r => r.map D.nil⟩ (p j) w.heap := by
  refine ⟨.inl hj, .inr (.inr ⟨rfl, rfl, rfl, fun hn => ?_⟩), fun _ _ _ => rfl, Nat.le_refl _, fun h => .inl ⟨hne h, rfl⟩, fun h => ?_⟩
  ·obtain ⟨c, t, k1, _⟩ := hR.hp.cell j _ hj hn
   exact ⟨by simpa using hn, c, t, c, k1, k1, rfl⟩
  ·obtain ⟨c, t, k1, _, k2⟩ := hR.hp.cell j _ hj (hne h)
   refine ⟨c, t, k1, fun r hr => ?_, by dsimp only; rw [List.length_map]; exact k2.le, fun r m row d hr hd => ?_⟩
   ·obtain ⟨y, hy, rfl⟩ := List.mem_map.1 hr
    rw [List.length_map]
    exact k2.len y hy
   ·rw [List.getElem?_map] at hr
    cases e : rows[r]? with
    | none => rw [e] at hr; cases hr
    | some row' =>
     rw [e] at hr
     cases hr
     rw [List.getElem?_map] at hd
     cases e2 : row'[m]? with
     | none => rw [e2] at hd; cases hd
     | some d' =>
      rw [e2] at hd
      cases hd
      obtain ⟨u, u1, u2, u3⟩ := k2.cell r m row' d' e e2
      exact ⟨u, u1, u2.nil, u3⟩
 have ep : p.put j (p j) = p := by funext k; unfold Pl.put; split <;> simp_all
 have G := T.grows hR.hp
 have R1 := T.relH hR.hp
 have X1 := T.relE hR.hp hR.en rfl rfl rfl
 rw [ep] at G R1 X1
 exact ⟨Im, p, hR.sz, fun k => (hR.fr k).mono G, R1, X1, hR.gr.trans G, hR.df⟩
end Go.Proofs.Ytadjhfjiimgddaa
