/- ToolStays: Pk5 E1 Vz CodeTI. -/
import Derived.Test.YtadjhfjiimgddaaKw9
import Derived.Test.YtadjhfjiimgddaaKw3
import Derived.Test.YtadjhfjiimgddaaKw5
import Derived.Test.YtadjhfjiimgddaaProg
set_option linter.defProp false
set_option linter.unusedSimpArgs false
set_option linter.unusedVariables false
set_option maxRecDepth 100000

/- Fills: what both call valid. -/
namespace Go.Proofs.Ytadjhfjiimgddaa
open Go
structure Pce where
 ba : Int
 vo : Int
def Pce.row (p : Pce) : List D := [di p.ba, di p.vo]
def pcA (l : List Pce) (j : Nat) : Pce := l.getD j ⟨0, 0⟩
theorem pc_get {l : List Pce} {j : Nat} (h : j < l.length) : (l.map Pce.row).getD j [] = [di (pcA l j).ba, di (pcA l j).vo] := by
 unfold pcA
 rw [List.getD_eq_getElem?_getD, List.getElem?_map, List.getD_eq_getElem?_getD, List.getElem?_eq_getElem h]
 rfl
theorem pc_at {l : List Pce} {j : Nat} (h : j < l.length) : l[j] = pcA l j := by
 unfold pcA
 rw [List.getD_eq_getElem?_getD, List.getElem?_eq_getElem h]
 rfl
theorem pc_drop {l : List Pce} {j : Nat} (h : j < l.length) : l.drop j = pcA l j :: l.drop (j + 1) := by
 rw [List.drop_eq_getElem_cons h, pc_at h]
def pcOf : List D → Option Pce
 | [.v (.int .i64 a), .v (.int .i64 b)] => some ⟨a, b⟩
 | _ => Option.none
theorem pcOf_eq {l : List D} {m : Pce} (h : pcOf l = some m) : l = m.row := by unfold pcOf at h; split at h <;> cases h; rfl
def pcsOf : List (List D) → Option (List Pce)
 | [] => some []
 | r :: l => match pcOf r, pcsOf l with
  | some c, some cs => some (c :: cs)
  | _, _ => Option.none
theorem pcsOf_map (l : List Pce) : pcsOf (l.map Pce.row) = some l := by
 induction l with
 | nil => rfl
 | cons c l ih => rw [List.map_cons, pcsOf, ih]; rfl
theorem pcsOf_eq : ∀ {l : List (List D)} {cs : List Pce}, pcsOf l = some cs → l = cs.map Pce.row
 | [], cs, h => by cases h; rfl
 | r :: l, cs, h => by
  rw [pcsOf] at h
  split at h
  ·rename_i e e'; cases h; rw [List.map_cons, pcOf_eq e, pcsOf_eq e']
  ·cases h
def litB (p : Pce) : Bool := decide (0 ≤ p.ba) && (decide (p.ba < 1000) && (decide (0 ≤ p.vo) && decide (p.vo ≤ 1000000)))
def pcBad (l : List Pce) (i : Nat) : Bool := !litB (pcA l i) || ((pcA l i).vo == 0 || (decide (0 < i) && ((pcA l (i - 1)).ba == (pcA l i).ba)))
def volW : List Pce → Int → Int
 | [], s => s
 | p :: l, s => volW l (IntKind.i64.wrap (s + p.vo))
def flV (l : List Pce) : Bool := if 200 < l.length then false else if (List.range l.length).any (pcBad l) then false else decide (volW l 0 ≤ 1000000)
theorem bad_step {l : List Pce} {i : Nat} (hi : i < l.length) {b : Bool} (he : ((List.range l.length).drop i).any (pcBad l) = b) : (pcBad l i = true → b = true) ∧ (pcBad l i = false → ((List.range l.length).drop (i + 1)).any (pcBad l) = b) := by
 have h := drop_any (p := pcBad l) (l := List.range l.length) (j := i) (by simpa using hi) he
 rw [range_at] at h
 exact h
def decPf : List D → Option (List Pce)
 | [.sl x] => pcsOf x
 | _ => Option.none
theorem decPf_eq : ∀ l a, decPf l = some a → l = [.sl (a.map Pce.row)] := fun l a h => by
 unfold decPf at h
 split at h
 ·rw [pcsOf_eq h]
 ·cases h
def PfOk (a : List Pce) : Prop := a.length ≤ 1000000
def selTo := selX decPf PfOk fun a => di (volW a 0)
def selFv := selX decPf PfOk fun a => db (flV a)
def prB2 (n : Int) : Bool := decide (0 ≤ n) && decide (n < 1000)
theorem rfproper_c (n : Int) (nn : Nm) : CallsA Try.prog 123 [di n] Hp.none nn (Pu (db (prB2 n)) Hp.none) := by
 obtain ⟨code, h1, h2⟩ := c123_ok
 refine callsA_of (T0_ok _) mixed (N := fun t => (0, t)) Try.func123 h1 h2 r123_ok [] false js_nil js_nil' (by simp [Try.f123]) ?_
 unfold prB2
 cases c1 : decide (0 ≤ n) with
 | false => simp (maxSteps:=500000) only [↓vp, vv, ↓reduceIte, simprocAttr, c123, r123, r123, c1, Pu, Bool.false_and]
 | true => simp (maxSteps:=500000) only [↓vp, vv, ↓reduceIte, simprocAttr, c123, r123, r123, c1, Pu, Bool.true_and]
def decI0 : List D → Option Int
 | [.v (.int .i64 n)] => some n
 | _ => Option.none
theorem decI0_eq : ∀ l a, decI0 l = some a → l = [di a] := fun l a h => by unfold decI0 at h; split at h <;> cases h; rfl
def selPr2 := selX decI0 tt fun n => db (prB2 n)
theorem tc_pr2 {T : Tbl} (hT : TblOk Try.prog T) : TblOk Try.prog (tc 123 (rowPu selPr2) T) := tc_x f123_ok decI0_eq (fun a h nn => rfproper_c _ nn) hT
theorem bad_eq (l : List Pce) (j : Nat) (p q : Pce) (hp : pcA l j = p) (hq : pcA l (j - 1) = q) : pcBad l j = (!prB2 p.ba || (decide (p.vo < 1) || (decide (1000000 < p.vo) || (decide (0 < j) && (p.ba == q.ba))))) := by
 unfold pcBad litB prB2
 rw [hp, hq, show (q.ba == p.ba) = (p.ba == q.ba) from by rw [Bool.eq_iff_iff, beq_iff_eq, beq_iff_eq]; exact eq_comm]
 rw [Bool.eq_iff_iff]
 simp only [Bool.or_eq_true, Bool.not_eq_true', Bool.and_eq_true, Bool.and_eq_false_iff, decide_eq_true_eq, decide_eq_false_iff_not, beq_iff_eq]
 omega
def RvT : Tbl := tc 123 (rowPu selPr2) T0
theorem RvT_ok : TblOk Try.prog RvT := tc_pr2 (T0_ok _)
def RvF (l : List Pce) (s : Int) (j : Int) : List (Nat × D) := [(0, .sl (l.map Pce.row)), (3, di s), (9, .sl (l.map Pce.row)), (10, di l.length), (11, di j)]
set_option maxHeartbeats 8000000 in
theorem rfvalid_c (l : List Pce) (hl : l.length ≤ 1000000) (nn : Nm) : CallsA Try.prog 76 [.sl (l.map Pce.row)] Hp.none nn (Pu (db (flV l)) Hp.none) := by
 obtain ⟨code, h1, h2⟩ := c76_ok
 refine callsA_of RvT_ok mixed (N := fun t => (0, t)) Try.func76 h1 h2 r76_ok [] false js_nil js_nil' (by simp [Try.f76]) ?_
 cases c0 : decide ((200 : Int) < (l.length : Int)) with
 | true =>
  have e : flV l = false := by unfold flV; rw [if_pos (by have := of_decide_eq_true c0; omega)]
  simp (maxSteps:=500000) only [↓vp, vv, ↓reduceIte, simprocAttr, c76, r76, c76_1, c76_2, c76_3, c76_4, c76_5, c76_6, r76, RvT, c0, e, Pu]
 | false =>
 have e0 : flV l = if (List.range l.length).any (pcBad l) then false else decide (volW l 0 ≤ 1000000) := by unfold flV; rw [if_neg (by have := of_decide_eq_false c0; omega)]
 generalize hb : (List.range l.length).any (pcBad l) = b at e0
 generalize hX : volW l 0 = X at e0
 simp (maxSteps:=500000) only [↓vp, vv, ↓reduceIte, simprocAttr, c76, r76, c76_1, c76_2, c76_3, c76_4, c76_5, c76_6, RvT, c0]
 refine rng_loopP l.length (fun j (s : Int) => ⟨fr (RvF l s (j : Nat)), Hp.none⟩) (fun j s => ((List.range l.length).drop j).any (pcBad l) = b ∧ volW (l.drop j) s = X) (u0 := 0) (weak0 (by simp only [↓vp, vv, ↓reduceIte, simprocAttr, coverS, RvF]) (by simp only [↓vp, vv, ↓reduceIte, simprocAttr, refsF, RvF])) ⟨hb, hX⟩ (fun j hj s hP => ?_) (fun s hP => ?_)
 ·obtain ⟨hP, hV⟩ := hP
  have hj' : (j : Int) < l.length := by omega
  have w1 := idx_next (j := j) (by omega)
  have g1 := pc_get hj
  obtain ⟨n1, n2⟩ := bad_step hj hP
  rw [pc_drop hj, volW] at hV
  have hb2 := bad_eq l j _ _ rfl rfl
  have nx := fun h => (⟨n2 h, hV⟩ : _ ∧ _)
  by_cases z : j = 0
  ·subst z
   have hj0 : (0 : Int) < l.length := hj'
   have w0 : IntKind.i64.wrap 1 = 1 := by decide
   generalize pcA l 0 = p at g1 hb2 hV nx
   cases c1 : prB2 p.ba with
   | false =>
    have := n1 (by rw [hb2, c1]; rfl)
    subst this
    simp (maxSteps:=500000) only [↓vp, vv, ↓reduceIte, simprocAttr, c76, r76, c76_1, c76_2, c76_3, c76_4, c76_5, c76_6, r76, RvT, selPr2, selX, decI0, tt, RvF, hj0, hj, g1, Int.toNat_natCast, idx_nn, c1, e0, Pu]
   | true =>
   cases c2 : decide (p.vo < 1) with
   | true =>
    have := n1 (by rw [hb2, c1, c2]; rfl)
    subst this
    simp (maxSteps:=500000) only [↓vp, vv, ↓reduceIte, simprocAttr, c76, r76, c76_1, c76_2, c76_3, c76_4, c76_5, c76_6, r76, RvT, selPr2, selX, decI0, tt, RvF, hj0, hj, g1, Int.toNat_natCast, idx_nn, c1, c2, e0, Pu]
   | false =>
   cases c3 : decide (1000000 < p.vo) with
   | true =>
    have := n1 (by rw [hb2, c1, c2, c3]; rfl)
    subst this
    simp (maxSteps:=500000) only [↓vp, vv, ↓reduceIte, simprocAttr, c76, r76, c76_1, c76_2, c76_3, c76_4, c76_5, c76_6, r76, RvT, selPr2, selX, decI0, tt, RvF, hj0, hj, g1, Int.toNat_natCast, idx_nn, c1, c2, c3, e0, Pu]
   | false =>
    have nx := nx (by rw [hb2, c1, c2, c3]; rfl)
    simp (maxSteps:=500000) only [↓vp, vv, ↓reduceIte, simprocAttr, c76, r76, c76_1, c76_2, c76_3, c76_4, c76_5, c76_6, r76, RvT, selPr2, selX, decI0, tt, RvF, hj0, hj, g1, Int.toNat_natCast, idx_nn, c1, c2, c3]
    refine rng_nextP hj (IntKind.i64.wrap (s + p.vo)) ?_ nx
    exact (weak_eqA [] [] (RvF l (IntKind.i64.wrap (s + p.vo)) ((0 + 1 : Nat) : Int)) (by refine ⟨?_, ?_, ?_, by simp, ?_⟩ <;> (simp only [↓vp, vv, ↓reduceIte, simprocAttr, coverS, refsF, RvF, w1, w0] <;> try rfl)))
  ·have z1 : decide ((0 : Int) < (j : Int)) = true := decide_eq_true (by omega)
   have z2 : decide (0 < j) = true := decide_eq_true (by omega)
   have w2 : IntKind.i64.wrap ((j : Int) - 1) = ((j - 1 : Nat) : Int) := by rw [wrap_i (by omega)]; omega
   have hp : j - 1 < l.length := by omega
   have hp' : ((j - 1 : Nat) : Int) < l.length := by omega
   have g2 := pc_get hp
   rw [z2] at hb2
   generalize pcA l j = p at g1 hb2 hV nx
   generalize pcA l (j - 1) = q at g2 hb2
   cases c1 : prB2 p.ba with
   | false =>
    have := n1 (by rw [hb2, c1]; rfl)
    subst this
    simp (maxSteps:=500000) only [↓vp, vv, ↓reduceIte, simprocAttr, c76, r76, c76_1, c76_2, c76_3, c76_4, c76_5, c76_6, r76, RvT, selPr2, selX, decI0, tt, RvF, hj', hj, g1, Int.toNat_natCast, idx_nn, c1, e0, Pu]
   | true =>
   cases c2 : decide (p.vo < 1) with
   | true =>
    have := n1 (by rw [hb2, c1, c2]; rfl)
    subst this
    simp (maxSteps:=500000) only [↓vp, vv, ↓reduceIte, simprocAttr, c76, r76, c76_1, c76_2, c76_3, c76_4, c76_5, c76_6, r76, RvT, selPr2, selX, decI0, tt, RvF, hj', hj, g1, Int.toNat_natCast, idx_nn, c1, c2, e0, Pu]
   | false =>
   cases c3 : decide (1000000 < p.vo) with
   | true =>
    have := n1 (by rw [hb2, c1, c2, c3]; rfl)
    subst this
    simp (maxSteps:=500000) only [↓vp, vv, ↓reduceIte, simprocAttr, c76, r76, c76_1, c76_2, c76_3, c76_4, c76_5, c76_6, r76, RvT, selPr2, selX, decI0, tt, RvF, hj', hj, g1, Int.toNat_natCast, idx_nn, c1, c2, c3, e0, Pu]
   | false =>
   cases c4 : (p.ba == q.ba) with
   | true =>
    have := n1 (by rw [hb2, c1, c2, c3, c4]; rfl)
    subst this
    simp (maxSteps:=500000) only [↓vp, vv, ↓reduceIte, simprocAttr, c76, r76, c76_1, c76_2, c76_3, c76_4, c76_5, c76_6, r76, RvT, selPr2, selX, decI0, tt, RvF, hj', hj, hp, hp', g1, g2, z1, w2, Int.toNat_natCast, idx_nn, c1, c2, c3, c4, e0, Pu]
   | false =>
    have nx := nx (by rw [hb2, c1, c2, c3, c4]; rfl)
    simp (maxSteps:=500000) only [↓vp, vv, ↓reduceIte, simprocAttr, c76, r76, c76_1, c76_2, c76_3, c76_4, c76_5, c76_6, r76, RvT, selPr2, selX, decI0, tt, RvF, hj', hj, hp, hp', g1, g2, z1, w2, Int.toNat_natCast, idx_nn, c1, c2, c3, c4]
    refine rng_nextP hj (IntKind.i64.wrap (s + p.vo)) ?_ nx
    exact (weak_eqA [] [] (RvF l (IntKind.i64.wrap (s + p.vo)) ((j + 1 : Nat) : Int)) (by refine ⟨?_, ?_, ?_, by simp, ?_⟩ <;> (simp only [↓vp, vv, ↓reduceIte, simprocAttr, coverS, refsF, RvF, w1] <;> try rfl)))
 ·obtain ⟨hP, hV⟩ := hP
  have : b = false := drop_any_end (by simp) hP
  subst this
  rw [List.drop_of_length_le (Nat.le_refl _), volW] at hV
  simp (maxSteps:=500000) only [↓vp, vv, ↓reduceIte, simprocAttr, c76, r76, c76_1, c76_2, c76_3, c76_4, c76_5, c76_6, r76, RvT, RvF, Int.lt_irrefl, hV, e0, Pu]
theorem tc_rfv {T : Tbl} (hT : TblOk Try.prog T) : TblOk Try.prog (tc 76 (rowPu selFv) T) := tc_x f76_ok decPf_eq (fun a h nn => rfvalid_c _ h nn) hT
def SuF2 (l : List Pce) (s : Int) (j : Int) : List (Nat × D) := [(0, .sl (l.map Pce.row)), (3, di s), (6, di l.length), (7, di j)]
set_option maxHeartbeats 4000000 in
theorem rsum_c (l : List Pce) (hl : l.length ≤ 1000000) (nn : Nm) : CallsA Try.prog 77 [.sl (l.map Pce.row)] Hp.none nn (Pu (di (volW l 0)) Hp.none) := by
 obtain ⟨code, h1, h2⟩ := c77_ok
 refine callsA_of (T0_ok _) mixed (N := fun t => (0, t)) Try.func77 h1 h2 r77_ok [] false js_nil js_nil' (by simp [Try.f77]) ?_
 generalize hX : volW l 0 = X
 simp (maxSteps:=500000) only [↓vp, vv, ↓reduceIte, simprocAttr, c77, r77, c77_1, c77_2, c77_3]
 refine rng_loopP l.length (fun j (s : Int) => ⟨fr (SuF2 l s (j : Nat)), Hp.none⟩) (fun j s => volW (l.drop j) s = X) (u0 := 0) (weak0 (by simp only [↓vp, vv, ↓reduceIte, simprocAttr, coverS, SuF2]) (by simp only [↓vp, vv, ↓reduceIte, simprocAttr, refsF, SuF2])) hX (fun j hj s hP => ?_) (fun s hP => ?_)
 ·have hj' : (j : Int) < l.length := by omega
  have w1 := idx_next (j := j) (by omega)
  have g1 := pc_get hj
  have nx := hP
  rw [pc_drop hj, volW] at nx
  simp (maxSteps:=500000) only [↓vp, vv, ↓reduceIte, simprocAttr, c77, r77, c77_1, c77_2, c77_3, SuF2, hj', hj, g1, Int.toNat_natCast, idx_nn]
  refine rng_nextP hj (IntKind.i64.wrap (s + (pcA l j).vo)) ?_ nx
  exact (weak_eqA [] [] (SuF2 l (IntKind.i64.wrap (s + (pcA l j).vo)) ((j + 1 : Nat) : Int)) (by refine ⟨?_, ?_, ?_, by simp, ?_⟩ <;> (simp only [↓vp, vv, ↓reduceIte, simprocAttr, coverS, refsF, SuF2, w1] <;> try rfl)))
 ·rw [List.drop_of_length_le (Nat.le_refl _), volW] at hP
  simp (maxSteps:=500000) only [↓vp, vv, ↓reduceIte, simprocAttr, c77, r77, c77_1, c77_2, c77_3, r77, Int.lt_irrefl, SuF2, hP, Pu]
theorem tc_rsu {T : Tbl} (hT : TblOk Try.prog T) : TblOk Try.prog (tc 77 (rowPu selTo) T) := tc_x f77_ok decPf_eq (fun a h nn => rsum_c _ h nn) hT
def VoT : Tbl := tc 76 (rowPu selFv) (tc 77 (rowPu selTo) T0)
theorem VoT_ok : TblOk Try.prog VoT := tc_rfv (tc_rsu (T0_ok _))
theorem rvol_c (l : List Pce) (hl : l.length ≤ 1000000) (nn : Nm) : CallsA Try.prog 27 [.sl (l.map Pce.row)] Hp.none nn (Pu (di (if flV l = true then volW l 0 else 0)) Hp.none) := by
 obtain ⟨code, h1, h2⟩ := c27_ok
 refine callsA_of VoT_ok mixed (N := fun t => (0, t)) Try.func27 h1 h2 r27_ok [] false js_nil js_nil' (by simp [Try.f27]) ?_
 have hto : PfOk l := hl
 cases c : flV l with
 | true => simp (maxSteps:=500000) only [↓vp, vv, ↓reduceIte, simprocAttr, c27, r27, c27_1, r27, VoT, selFv, selTo, selX, decPf, pcsOf_map, hto, c, Pu]
 | false => simp (maxSteps:=500000) only [↓vp, vv, ↓reduceIte, simprocAttr, c27, r27, c27_1, r27, VoT, selFv, selTo, selX, decPf, pcsOf_map, hto, c, Pu]
def selVo := selX decPf PfOk fun l => di (if flV l = true then volW l 0 else 0)
theorem tc_rvo {T : Tbl} (hT : TblOk Try.prog T) : TblOk Try.prog (tc 27 (rowPu selVo) T) := tc_x f27_ok decPf_eq (fun a h nn => rvol_c _ h nn) hT
def lookF (b : Bool) (t : Nat) : List (Nat × D) → D
 | [] => bif b then .v undef else .any
 | (k, d) :: l => bif Nat.beq t k then d else lookF b t l
def frB (b : Bool) (l : List (Nat × D)) : Fr := fun t => lookF b t l
def nmEq (i j : Nm) : Bool := Nat.beq i.1 j.1 && Nat.beq i.2 j.2
theorem nmEq_iff (i j : Nm) : nmEq i j = true ↔ i = j := by
 obtain ⟨a, b⟩ := i
 obtain ⟨c, d⟩ := j
 simp [nmEq]
def lookH (i : Nm) : List (Nm × En) → Option En
 | [] => Option.none
 | (j, e) :: l => bif nmEq i j then some e else lookH i l
def hp (l : List (Nm × En)) : Hp := fun i => lookH i l
theorem hp_nil : hp [] = Hp.none := rfl
theorem hp_cons (i : Nm) (e : En) (l : List (Nm × En)) : hp ((i, e) :: l) = (hp l).put i e := by
 funext j
 simp only [hp, lookH, Hp.put]
 by_cases h : j = i
 ·rw [(nmEq_iff j i).2 h, if_pos h]; rfl
 ·rw [Bool.eq_false_iff.2 (fun k => h ((nmEq_iff j i).1 k)), if_neg h]; rfl
theorem frB_cons (b : Bool) (k : Nat) (d : D) (l : List (Nat × D)) : frB b ((k, d) :: l) = putF (frB b l) (some k) d := by
 funext t
 simp only [frB, lookF, putF]
 by_cases h : t = k
 ·subst h; rw [if_pos rfl, Nat.beq_refl]; rfl
 ·rw [if_neg h, Bool.eq_false_iff.2 (fun q => h (Nat.eq_of_beq_eq_true q))]; rfl
structure SL where
 b : Bool
 F : List (Nat × D)
 H : List (Nm × En)
def SL.st (s : SL) : St := ⟨frB s.b s.F, hp s.H⟩
def killsL (H : List (Nm × En)) : List Nm → List (Nm × En)
 | [] => H
 | i :: is =>
  match lookH i H with
  | some e => killsL ((i, ⟨e.g + 1, e.sz, []⟩) :: H) is
  | Option.none => killsL H is
theorem killsL_eq : ∀ (js : List Nm) (H : List (Nm × En)), hp (killsL H js) = (hp H).kills js
 | [], H => rfl
 | i :: is, H => by
  unfold killsL Hp.kills Hp.kill
  have e : hp H i = lookH i H := rfl
  rw [e]
  cases lookH i H with
  | none => exact killsL_eq is H
  | some e => dsimp only; rw [killsL_eq is, hp_cons]
def listB {α : Type} (p : α → Bool) : List α → Bool
 | [] => true
 | x :: xs => p x && listB p xs
theorem listB_iff {α : Type} {p : α → Bool} : ∀ {l : List α}, listB p l = true → ∀ x ∈ l, p x = true
 | x :: xs, h, y, hy => by
  rw [listB, Bool.and_eq_true] at h
  cases hy with
  | head => exact h.1
  | tail _ hy => exact listB_iff h.2 y hy
def lendOk1B (H : Hp) : D → Bool
 | .own i g off n =>
  match H i with
  | some e => listB (fun r => listB D.plain r) e.rows && decide (off + n ≤ e.rows.length)
  | Option.none => true
 | _ => true
theorem lendOk1B_ok {H : Hp} {d : D} (h : lendOk1B H d = true) : lendOk1 H d := by
 cases d with
 | own i g off n =>
  unfold lendOk1B at h
  unfold lendOk1
  dsimp only at h ⊢
  split
  ·rename_i e he
   rw [he] at h
   dsimp only at h
   rw [Bool.and_eq_true] at h
   exact ⟨fun r hr d hd => listB_iff (listB_iff h.1 r hr) d hd, of_decide_eq_true h.2⟩
  ·trivial
 | _ => exact trivial
end Go.Proofs.Ytadjhfjiimgddaa
/- Functions over abstract data, run by the kernel: code and functions. No program in sight. -/
namespace Go.Proofs.Ytadjhfjiimgddaa
open Go
theorem frB_fr (l : List (Nat × D)) : frB false l = fr l := by
 funext t
 induction l with
 | nil => rfl
 | cons q l ih =>
  obtain ⟨k, d⟩ := q
  rw [frB_cons]
  simp only [putF, fr]
  split
  ·rfl
  ·exact ih
def lendK (ks : List Nm) (H : Hp) : D → D
 | .own i g o n => bif nmIn i ks then lend1 H (.own i g o n) else .own i g o n
 | d => d
def lendKd (ks : List Nm) (H : Hp) : D → D
 | .agg cs => .agg (cs.map (lendK ks H))
 | d => lendK ks H d
def okK (ks : List Nm) (H : Hp) : D → Bool
 | .own i g o n => bif nmIn i ks then lendOk1B H (.own i g o n) else true
 | _ => true
def okKd (ks : List Nm) (H : Hp) : D → Bool
 | .agg cs => listB (okK ks H) cs
 | d => okK ks H d
def frzRows (ks : List Nm) (H : Hp) (e : En) : En := ⟨e.g, e.sz, e.rows.map fun r => r.map (lendK ks H)⟩
def frzF (ks : List Nm) (H : Hp) : List (Nat × D) → List (Nat × D)
 | [] => []
 | (t, d) :: l => (t, lendKd ks H d) :: frzF ks H l
def frzH (ks : List Nm) (H : Hp) : List (Nm × En) → List (Nm × En)
 | [] => []
 | (i, e) :: l => (i, frzRows ks H e) :: frzH ks H l
def freeze (ks : List Nm) (s : SL) : SL :=
 bif listB (fun q => okKd ks (hp s.H) q.2) s.F && listB (fun q => listB (fun r => listB (okK ks (hp s.H)) r) q.2.rows) s.H then
  ⟨s.b, frzF ks (hp s.H) s.F, frzH ks (hp s.H) (killsL s.H ks)⟩
 else s
theorem frzF_at (b : Bool) (ks : List Nm) (H : Hp) (t : Nat) : ∀ l : List (Nat × D), lookF b t (frzF ks H l) = lendKd ks H (lookF b t l)
 | [] => by cases b <;> rfl
 | (k, d) :: l => by
  simp only [frzF, lookF]
  cases Nat.beq t k with
  | true => rfl
  | false => exact frzF_at b ks H t l
theorem frzH_at (ks : List Nm) (H : Hp) (i : Nm) : ∀ l : List (Nm × En), lookH i (frzH ks H l) = (lookH i l).map (frzRows ks H)
 | [] => rfl
 | (k, d) :: l => by
  simp only [frzH, lookH]
  cases nmEq i k with
  | true => rfl
  | false => exact frzH_at ks H i l
theorem lookF_mem {b : Bool} {t : Nat} : ∀ {l : List (Nat × D)}, (∃ q ∈ l, q.2 = lookF b t l) ∨ lookF b t l = .v undef ∨ lookF b t l = .any
 | [] => by cases b <;> simp [lookF]
 | (k, d) :: l => by
  simp only [lookF]
  cases Nat.beq t k with
  | true => exact .inl ⟨_, List.mem_cons_self .., rfl⟩
  | false =>
   rcases @lookF_mem b t l with ⟨q, h1, h2⟩ | h
   ·exact .inl ⟨q, List.mem_cons_of_mem _ h1, h2⟩
   ·exact .inr h
theorem lookH_mem {i : Nm} {e : En} : ∀ {l : List (Nm × En)}, lookH i l = some e → ∃ q ∈ l, q.2 = e
 | (k, d) :: l, h => by
  simp only [lookH] at h
  cases hk : nmEq i k with
  | true => rw [hk] at h; cases h; exact ⟨_, List.mem_cons_self .., rfl⟩
  | false =>
   rw [hk] at h
   obtain ⟨q, h1, h2⟩ := lookH_mem h
   exact ⟨q, List.mem_cons_of_mem _ h1, h2⟩
theorem kill_other {H : Hp} {i j : Nm} (h : j ≠ i) : H.kill i j = H j := by
 unfold Hp.kill
 cases H i with
 | some e => exact Hp.put_other _ h _
 | none => rfl
theorem kill_rows {H : Hp} {i j : Nm} {e : En} (h : H.kill i j = some e) (hn : e.rows ≠ []) : H j = some e ∧ j ≠ i := by
 by_cases hj : j = i
 ·subst hj
  cases hi : H j with
  | some e0 =>
   simp only [Hp.kill, hi, Hp.put_same, Option.some.injEq] at h
   rw [← h] at hn
   exact absurd rfl hn
  | none =>
   simp only [Hp.kill, hi] at h
   cases h
 ·rw [kill_other hj] at h
  exact ⟨h, hj⟩
theorem kills_rows {j : Nm} {e : En} : ∀ {ks : List Nm} {H : Hp}, H.kills ks j = some e → e.rows ≠ [] → H j = some e ∧ j ∉ ks
 | [], H, h, hn => ⟨h, by simp⟩
 | k :: ks, H, h, hn => by
  rw [Hp.kills] at h
  obtain ⟨h1, h2⟩ := kills_rows (ks := ks) h hn
  obtain ⟨h3, h4⟩ := kill_rows h1 hn
  exact ⟨h3, by simp [h4, h2]⟩
theorem lendK_rel {Im Im' : Nat → Prop} {p : Pl} {H H' : Hp} {h : Array Obj} (R : RelH Im p H h) (G : Grows Im p H h Im' p H' h) {d : D} {u : Value} (r : Rel Im p H h d u) {ks : List Nm} (ok : okK ks H d = true) (hk : ∀ i ∈ ks, ∀ e, H i = some e → e.rows ≠ [] → Im' (p i).1) : Rel Im' p H' h (lendK ks H d) u := by
 cases d with
 | own i g o n =>
  unfold lendK
  unfold okK at ok
  dsimp only at ok ⊢
  cases hi : nmIn i ks with
  | false => exact r.mono G
  | true =>
   rw [hi] at ok
   refine lend1_rel R G r (lendOk1B_ok ok) fun j hj => ?_
   unfold lendNm1 at hj
   dsimp only at hj
   split at hj
   ·split at hj
    ·rw [List.mem_singleton.1 hj]; exact hk i (nmIn_iff.1 hi)
    ·cases hj
   ·cases hj
 | _ => exact r.mono G
theorem lendKd_rel {Im Im' : Nat → Prop} {p : Pl} {H H' : Hp} {h : Array Obj} (R : RelH Im p H h) (G : Grows Im p H h Im' p H' h) {d : D} {u : Value} (r : Rel Im p H h d u) {ks : List Nm} (ok : okKd ks H d = true) (hk : ∀ i ∈ ks, ∀ e, H i = some e → e.rows ≠ [] → Im' (p i).1) : Rel Im' p H' h (lendKd ks H d) u := by
 cases d with
 | agg cs =>
  obtain ⟨us, rfl, RL⟩ := RelL.of_agg r
  have : RelL Im' p H' h (cs.map (lendK ks H)) us.toList := by
   refine ⟨by rw [List.length_map, RL.len], fun j d u hd hu => ?_⟩
   rw [List.getElem?_map] at hd
   cases hc : cs[j]? with
   | none => rw [hc] at hd; cases hd
   | some c =>
    rw [hc] at hd
    cases hd
    obtain ⟨k1, k2⟩ := RL.cell j c u hc hu
    exact ⟨lendK_rel R G k1 (listB_iff ok c (List.mem_of_getElem? hc)) hk, k2⟩
  have k := this.rel
  simp only [Array.toArray_toList] at k
  exact k
 | v => exact lendK_rel R G r ok hk
 | any => exact lendK_rel R G r ok hk
 | tup => exact lendK_rel R G r ok hk
 | sl => exact lendK_rel R G r ok hk
 | ip => exact lendK_rel R G r ok hk
 | mt => exact lendK_rel R G r ok hk
 | own => exact lendK_rel R G r ok hk
 | ptr => exact lendK_rel R G r ok hk
 | clo => exact lendK_rel R G r ok hk
theorem freeze_weak (J ks : List Nm) (s : SL) : Weak J s.st (freeze ks s).st := by
 unfold freeze
 cases hc : listB (fun q => okKd ks (hp s.H) q.2) s.F && listB (fun q => listB (fun r => listB (okK ks (hp s.H)) r) q.2.rows) s.H with
 | false => exact Weak.refl _ _
 | true =>
  rw [Bool.and_eq_true] at hc
  obtain ⟨c1, c2⟩ := hc
  intro E hE Im p a w hR
  have hRp : RelH Im p (hp s.H) w.heap := hR.hp
  obtain ⟨Im', g1, r1, x1, b1⟩ := kills_spec (E := E) (w := w) ks Im (hp s.H) hRp hR.en
  have e2 : ∀ i, hp (frzH ks (hp s.H) (killsL s.H ks)) i = (((hp s.H).kills ks) i).map (frzRows ks (hp s.H)) := fun i => by
   rw [← killsL_eq]
   exact frzH_at ks (hp s.H) i _
  have g2 : Grows Im' p ((hp s.H).kills ks) w.heap Im' p (hp (frzH ks (hp s.H) (killsL s.H ks))) w.heap := by
   refine ⟨fun _ h => h, fun _ _ => rfl, fun i e hi => ⟨frzRows ks (hp s.H) e, by rw [e2, hi]; rfl, Nat.le_refl _, fun _ => ⟨rfl, rfl, fun hn => ⟨?_, fun c t hct => ⟨c, hct, rfl⟩⟩⟩⟩⟩
   intro k
   unfold frzRows at k
   exact hn (List.map_eq_nil_iff.1 k)
  have back : ∀ i e, hp (frzH ks (hp s.H) (killsL s.H ks)) i = some e → e.rows ≠ [] → ∃ e0, hp s.H i = some e0 ∧ e0.rows ≠ [] ∧ e = frzRows ks (hp s.H) e0 ∧ i ∉ ks ∧ ((hp s.H).kills ks) i = some e0 := fun i e hi hn => by
   rw [e2] at hi
   cases hk : ((hp s.H).kills ks) i with
   | none => rw [hk] at hi; cases hi
   | some e0 =>
    rw [hk] at hi
    cases hi
    have hn0 : e0.rows ≠ [] := fun k => hn (by unfold frzRows; rw [k]; rfl)
    obtain ⟨q1, q2⟩ := kills_rows hk hn0
    exact ⟨e0, q1, hn0, rfl, q2, rfl⟩
  refine ⟨Im', p, hR.sz, fun t => ?_, ⟨fun i e hi hn => ?_, fun i j e e' hi hj hn hn' hij => ?_, r1.im⟩, ⟨x1.os, x1.tape, x1.output, x1.size, x1.block, x1.im, x1.im', fun i e hi hn => ?_⟩, (hR.gr.trans g1).trans g2, hR.df⟩
  ·have hf : okKd ks (hp s.H) (lookF s.b t s.F) = true := by
    rcases @lookF_mem s.b t s.F with ⟨q, h1, h2⟩ | h | h
    ·rw [← h2]; exact listB_iff c1 q h1
    ·rw [h]; rfl
    ·rw [h]; rfl
   have := lendKd_rel hRp (g1.trans g2) (hR.fr t) hf b1
   show Rel Im' p _ w.heap (lookF s.b t (frzF ks (hp s.H) s.F)) _
   rw [frzF_at]
   exact this
  ·obtain ⟨e0, q1, q2, rfl, q4, _⟩ := back i e hi hn
   obtain ⟨c, t, k1, k2, k3⟩ := hRp.cell i e0 q1 q2
   have hk1 := r1.cell i e0 (by assumption) q2
   obtain ⟨c', t', k1', k2', k3'⟩ := hk1
   refine ⟨c, t, k1, k2', fun r hr => ?_, ?_, fun r j row d hr hd => ?_⟩
   ·obtain ⟨r0, hr0, rfl⟩ := List.mem_map.1 hr
    rw [List.length_map]
    exact k3.len r0 hr0
   ·have := k3.le
    show (p i).2 + (e0.rows.map _).length * e0.sz ≤ c.size
    rw [List.length_map]
    exact this
   ·have hr' : (e0.rows.map fun r => r.map (lendK ks (hp s.H)))[r]? = some row := hr
    rw [List.getElem?_map] at hr'
    cases h0 : e0.rows[r]? with
    | none => rw [h0] at hr'; cases hr'
    | some r0 =>
     rw [h0] at hr'
     cases hr'
     rw [List.getElem?_map] at hd
     cases h1 : r0[j]? with
     | none => rw [h1] at hd; cases hd
     | some d0 =>
      rw [h1] at hd
      cases hd
      obtain ⟨u, u1, u2, u3⟩ := k3.cell r j r0 d0 h0 h1
      obtain ⟨q, m1, m2⟩ := lookH_mem q1
      have ok0 := listB_iff (listB_iff (listB_iff c2 q m1) r0 (by rw [m2]; exact List.mem_of_getElem? h0)) d0 (List.mem_of_getElem? h1)
      exact ⟨u, u1, lendK_rel hRp (g1.trans g2) u2 ok0 b1, u3⟩
  ·obtain ⟨e0, q1, q2, _, _, _⟩ := back i e hi hn
   obtain ⟨e0', q1', q2', _, _, _⟩ := back j e' hj hn'
   exact hRp.inj i j e0 e0' q1 q1' q2 q2' hij
  ·obtain ⟨e0, q1, q2, _, _, q5⟩ := back i e hi hn
   exact x1.ids i e0 q5 q2
mutual
def D.owns : D → List Nm
 | .own i _ _ _ => [i]
 | .agg cs => ownsL cs
 | .tup cs => ownsL cs
 | .clo _ fs cs => ownsL fs ++ ownsL cs
 | _ => []
def ownsL : List D → List Nm
 | [] => []
 | d :: ds => d.owns ++ ownsL ds
end
end Go.Proofs.Ytadjhfjiimgddaa

/- Slices of one's own become plain data, also in the cells of boxes. -/
namespace Go.Proofs.Ytadjhfjiimgddaa
open Go
theorem hp_at (i : Nm) (e : En) (l : List (Nm × En)) (j : Nm) : hp ((i, e) :: l) j = if j = i then some e else hp l j := by rw [hp_cons]; rfl
theorem hp_no (j : Nm) : hp [] j = Option.none := rfl
theorem weak_restr {J : List Nm} {F : Fr} {H : Hp} (js : List Nm) (h2 : ∀ t, (F t).refsIn js = true) (h3 : ClosedH H js js) (h4 : ∀ i ∈ J, i ∈ js) : Weak J ⟨F, H⟩ ⟨F, H.restr js⟩ := by
 intro E hE Im p a w hR
 refine ⟨Im, p, hR.sz, fun t => (hR.fr t).restr (h2 t), hR.hp.restr h3, hR.en.restr js, ⟨hR.gr.im, hR.gr.blk, fun i e hi => ?_⟩, hR.df⟩
 dsimp only
 rw [restr_in (h4 i (hE i e hi))]
 exact hR.gr.ids i e hi
def frzP (ks : List Nm) (H : Hp) : Hp := fun i => (H.kills ks i).map (frzRows ks H)
theorem frzP_at (ks : List Nm) (H : Hp) (i : Nm) : frzP ks H i = (H.kills ks i).map (frzRows ks H) := rfl
theorem frzP_eq (ks : List Nm) (h : List (Nm × En)) : hp (frzH ks (hp h) (killsL h ks)) = frzP ks (hp h) := by
 funext i
 rw [frzP_at, ← killsL_eq]
 exact frzH_at ks (hp h) i _
theorem weak_fz {J : List Nm} (ks js : List Nm) {l l' : List (Nat × D)} {h : List (Nm × En)} {H' : Hp} (c1 : listB (fun q => okKd ks (hp h) q.2) l = true) (c2 : listB (fun q => listB (fun r => listB (okK ks (hp h)) r) q.2.rows) h = true) (c3 : frzF ks (hp h) l = l')
  (c4 : (frzP ks (hp h)).restr js = H') (c5 : refsF js l' = true) (c6 : ClosedH (frzP ks (hp h)) js js) (c7 : ∀ i ∈ J, i ∈ js) : Weak J ⟨fr l, hp h⟩ ⟨fr l', H'⟩ := by
 have w := freeze_weak J ks ⟨false, l, h⟩
 have e1 : (⟨false, l, h⟩ : SL).st = ⟨fr l, hp h⟩ := by simp only [SL.st, frB_fr]
 have e2 : (freeze ks ⟨false, l, h⟩).st = ⟨fr l', frzP ks (hp h)⟩ := by
  unfold freeze
  dsimp only
  rw [c1, c2]
  simp only [Bool.and_self, cond_true, SL.st, frB_fr, c3, frzP_eq]
 rw [e1, e2] at w
 refine w.trans ?_
 rw [← c4]
 exact weak_restr js (fun t => refsF_at c5 t) c6 c7
theorem listB_m {α β : Type} (p : β → Bool) (f : α → β) (h : ∀ x, p (f x) = true) : ∀ l : List α, listB p (l.map f) = true
 | [] => rfl
 | x :: l => by rw [List.map_cons, listB, h x, listB_m p f h l]; rfl
def rowV (r : List D) : Bool := r.all fun d => match d with | .v _ => true | .sl _ => true | _ => false
theorem rowV_ok {r : List D} (h : rowV r = true) (ks : List Nm) (H : Hp) : listB D.plain r = true ∧ listB (okK ks H) r = true ∧ r.map (lendK ks H) = r := by
 induction r with
 | nil => exact ⟨rfl, rfl, rfl⟩
 | cons d r ih =>
  unfold rowV at h
  rw [List.all_cons, Bool.and_eq_true] at h
  obtain ⟨a, b, c⟩ := ih h.2
  cases d with
  | v x => exact ⟨by rw [listB, a]; rfl, by rw [listB, b]; rfl, by rw [List.map_cons, c]; rfl⟩
  | sl x => exact ⟨by rw [listB, a]; rfl, by rw [listB, b]; rfl, by rw [List.map_cons, c]; rfl⟩
  | _ => cases h.1
theorem rows_pl {α : Type} (f : α → List D) (h : ∀ x, rowV (f x) = true) (l : List α) : listB (fun r => listB D.plain r) (l.map f) = true := listB_m _ _ (fun x => (rowV_ok (h x) [] Hp.none).1) l
theorem rows_ok {α : Type} (f : α → List D) (h : ∀ x, rowV (f x) = true) (ks : List Nm) (H : Hp) (l : List α) : listB (fun r => listB (okK ks H) r) (l.map f) = true := listB_m _ _ (fun x => (rowV_ok (h x) ks H).2.1) l
theorem frzRows_at (ks : List Nm) (H : Hp) (g sz : Nat) (rows : List (List D)) : frzRows ks H ⟨g, sz, rows⟩ = ⟨g, sz, rows.map fun r => r.map (lendK ks H)⟩ := rfl
def vz := And.intro @hp_at (And.intro @hp_no (And.intro @frzP_at @frzRows_at))
def c81_1 : C := (.ops false [oP 41 (.bin .add (.t 32) (cI 1)), oM 32 41])
def c81_2 : C := (.seq (.block 1 (.seq (.ops false [oM 34 32, oM 11 34]) (.seq (.ops false [oM 35 3, oM 36 11, oP 37 (.iaS 1 (.t 35) (.t 36)), oP 38 (.ld 1 false (.t 37)), oB 39 (.call 123 [(.t 38)]), oP 40 (.not (.t 39))]) (.cond (.t 40) (.seq (.ops false [oP 8 (.mv (cI 9))]) .ret) .skip)))) c81_1)
def c81_3 : C := (.seq (.ops false [oP 33 (.bin .lss (.t 32) (.t 31))]) (.seq (.cond (.t 33) .skip (.exit 0)) c81_2))
def c81_4 : C := (.seq (.ops false [oP 8 (.mv (cI 0))]) .ret)
def c81_5 : C := (.seq (.seq (.ops false [oM 30 3, oP 31 (.len (.t 30)), oP 32 (.mv (cI 0))]) (.block 0 (.loop c81_3))) c81_4)
def c81_6 : C := (.seq (.seq (.ops false [oM 24 3, oP 25 (.len (.t 24)), oP 26 (.fa 2 (.t 4)), oP 27 (.ld 1 false (.t 26)), oP 28 (.len (.t 27)), oP 29 (.bin .neq (.t 25) (.t 28))]) (.cond (.t 29) (.seq (.ops false [oP 8 (.mv (cI 9))]) .ret) .skip)) c81_5)
def c81_7 : C := (.seq (.seq (.ops false [oP 18 (.ld 6 true (.t 4)), oP 19 (.ld 3 true (.t 6)), oB 20 (.call 100 [(.t 18), (.t 19)]), oM 10 20]) (.seq (.ops false [oM 21 10, oP 22 (.bin .neq (.t 21) (cI 0))]) (.cond (.t 22) (.seq (.ops false [oM 23 10, oM 8 23]) .ret) .skip))) c81_6)
def c81 : C := (.seq (.ops false [oP 4 (.box 6 (.t 0)), oP 6 (.box 3 (.t 2)), oP 8 (.mv (cI 0))]) (.seq (.seq (.ops false [oP 12 (.ld 6 true (.t 4)), oM 13 1, oB 14 (.call 127 [(.t 12), (.t 13)]), oM 9 14]) (.seq (.ops false [oM 15 9, oP 16 (.bin .neq (.t 15) (cI 0))]) (.cond (.t 16) (.seq (.ops false [oM 17 9, oM 8 17]) .ret) .skip))) c81_7))
def r81 : List RV := [(.tmp 8)]
theorem c81_ok : ∃ code, Try.f81.body = some code ∧ compC Try.prog Try.f81.ntmps code = some (C.strip c81) := ⟨_, rfl, by kernel_rfl⟩
theorem r81_ok : compRes Try.prog Try.f81.results.toList = some r81 := by kernel_rfl
theorem f81_ok : fnOk Try.prog 81 = true := by kernel_rfl
def c85_1 : C := (.ops false [oP 48 (.bin .add (.t 8) (cI 1)), oM 8 48])
def c85_2 : C := (.seq (.block 1 (.seq (.ops false [oP 10 (.iaS 2 (.t 6) (.t 8)), oP 11 (.ld 2 true (.t 10)), oP 5 (.new [(.v (.int .i64 0)), (.v (.int .i64 0))]), oS (.st 2 (.t 5) (.t 11))]) (.block 2 (.seq (.ops false [oP 17 (.fa 1 (.t 5)), oP 18 (.ld 1 false (.t 17)), oP 19 (.bin .eql (.t 18) (cI 0)), oM 16 19]) (.cond (.t 16) .skip (.seq (.ops true [oM 21 3, oA 22 (.len (.t 21)) [0],
 oA 23 (.bin .gtr (.t 22) (cI 0)) [0, 1], oA 24 (.mv (.t 23)) [1, 0, 2], oH 25 24 true (.mv (.t 3)) [2, 0, 1, 3], oH 26 24 true (.mv (.t 3)) [2, 0, 1, 3], oH 27 24 true (.len (.t 26)) [1, 0, 2, 3, 5], oH 28 24 true (.bin .sub (.t 27) (cI 1)) [5, 2, 0, 1, 3, 6], oH 29 24 true (.iaS 2 (.t 25) (.t 28)) [6, 5, 1, 0, 2, 3, 7, 4], oH 30 24 true (.fa 0 (.t 29)) [4, 7, 2, 0, 1, 5, 6, 3, 8],
 oH 31 24 true (.ld 1 false (.t 30)) [8, 6, 5, 1, 0, 2, 7, 4, 3, 9], oH 32 24 true (.fa 0 (.t 5)) [2, 0, 1, 3], oH 33 24 true (.ld 1 false (.t 32)) [1, 0, 2, 3, 11], oH 34 24 true (.bin .eql (.t 31) (.t 33)) [11, 9, 4, 7, 2, 0, 1, 5, 6, 8, 3, 12, 10], oA 35 (.pick (.t 24) (.t 34) (cB false)) [10, 12, 8, 6, 5, 7, 4, 9, 11, 2, 0, 1, 13, 3], oA 20 (.mv (.t 35)) [13, 1, 0, 2, 11, 9, 4, 7, 5, 6, 8, 12,
 10, 3, 14]]) (.cond (.t 20) (.ops true [oM 36 3, oM 37 3, oA 38 (.len (.t 37)) [1], oA 39 (.bin .sub (.t 38) (cI 1)) [1, 2], oA 40 (.iaS 2 (.t 36) (.t 39)) [2, 1, 3, 0], oA 41 (.fa 1 (.t 40)) [0, 3, 1, 2, 4], oA 42 (.ld 1 false (.t 41)) [4, 2, 1, 3, 0, 5], oP 43 (.fa 1 (.t 5)), oA 44 (.ld 1 false (.t 43)) [7], oA 45 (.bin .add (.t 42) (.t 44)) [7, 5, 0, 3, 1, 2, 4, 8, 6],
 oA 46 (.iaS 2 (.t 36) (.t 39)) [9, 8, 7, 6, 5, 4, 2, 1, 3, 0], oA 47 (.fa 1 (.t 46)) [9, 8, 7, 6, 5, 4, 3, 2, 1, 0, 10], oT (.st 1 (.t 47) (.t 45)) [10, 8, 7, 6, 5, 4, 3, 2, 1, 0, 9, 11]]) (.ops false [oM 12 3, oP 13 (.ld 2 true (.t 5)), oP 14 (.bsl 2 1 [(.v (.int .i64 0)), (.v (.int .i64 0))] [(0, (.t 13))]), oP 15 (.app 2 16 (.t 12) (.t 14)), oM 3 15])))))))) c85_1)
def c85_3 : C := (.seq (.ops false [oP 9 (.bin .lss (.t 8) (.t 7))]) (.seq (.cond (.t 9) .skip (.exit 0)) c85_2))
def c85_4 : C := (.seq (.ops false [oM 49 3, oM 2 49]) .ret)
def c85 : C := (.seq (.ops false [oP 2 (.mv (.c .mt))]) (.seq (.ops false [oP 3 (.mv (.c .mt))]) (.seq (.seq (.ops false [oM 6 0, oP 7 (.len (.t 6)), oP 8 (.mv (cI 0))]) (.block 0 (.loop c85_3))) c85_4)))
def r85 : List RV := [(.tmp 2)]
theorem c85_ok : ∃ code, Try.f85.body = some code ∧ compC Try.prog Try.f85.ntmps code = some (C.strip c85) := ⟨_, rfl, by kernel_rfl⟩
theorem r85_ok : compRes Try.prog Try.f85.results.toList = some r85 := by kernel_rfl
theorem f85_ok : fnOk Try.prog 85 = true := by kernel_rfl
def c86_1 : C := (.seq (.block 3 (.ops false [oM 34 6, oM 35 1, oM 36 6, oB 37 (.call 129 [(.t 35), (.t 36)]), oP 38 (.iaS 1 (.t 34) (.t 37)), oP 39 (.ld 1 false (.t 38)), oP 40 (.bin .add (.t 39) (cI 1)), oP 41 (.iaS 1 (.t 34) (.t 37)), oS (.st 1 (.t 41) (.t 40))])) (.ops false [oM 32 10, oP 33 (.bin .add (.t 32) (cI 1)), oM 10 33]))
def c86_2 : C := (.seq (.seq (.ops false [oM 28 10, oP 29 (.fa 1 (.t 8)), oP 30 (.ld 1 false (.t 29)), oP 31 (.bin .lss (.t 28) (.t 30))]) (.cond (.t 31) .skip (.exit 2))) c86_1)
def c86_3 : C := (.seq (.block 5 (.seq (.ops false [oM 46 44, oM 11 46]) (.ops true [oM 47 5, oM 48 11, oM 49 5, oM 50 11, oA 51 (.iaS 1 (.t 49) (.t 50)) [3, 2], oA 52 (.ld 1 false (.t 51)) [2, 3, 4], oP 53 (.fa 0 (.t 8)), oA 54 (.ld 1 false (.t 53)) [6], oM 55 6, oM 56 11, oA 57 (.iaS 1 (.t 55) (.t 56)) [9, 8],
 oA 58 (.ld 1 false (.t 57)) [8, 9, 10], oM 59 9, oM 60 11, oA 61 (.iaS 1 (.t 59) (.t 60)) [13, 12], oA 62 (.ld 1 false (.t 61)) [12, 13, 14], oA 63 (.bin .sub (.t 58) (.t 62)) [14, 13, 12, 10, 9, 8, 15, 11], oA 64 (.bld [(.v (.int .i64 0)), (.v (.int .i64 0))] [(0, (1, (.t 54))), (1, (1, (.t 63)))]) [11, 15, 8, 9, 10, 12, 13, 14, 6, 16, 7],
 oA 65 (.bsl 2 1 [(.v (.int .i64 0)), (.v (.int .i64 0))] [(0, (.t 64))]) [7, 16, 6, 14, 13, 12, 10, 9, 8, 15, 11, 17], oA 66 (.app 2 16 (.t 52) (.t 65)) [17, 11, 15, 8, 9, 10, 12, 13, 14, 6, 16, 7, 4, 3, 2, 18, 5], oA 67 (.iaS 1 (.t 47) (.t 48)) [19, 18, 17, 16, 15, 14, 13, 12, 11, 10, 9, 8, 7, 6, 5, 4, 3, 2, 1, 0], oT (.st 1 (.t 67) (.t 66)) [18, 17, 16, 15, 14, 13, 12, 11, 10, 9, 8, 7, 6, 5, 4,
 3, 2, 1, 0, 19, 20]]))) (.ops false [oP 68 (.bin .add (.t 44) (cI 1)), oM 44 68]))
def c86_4 : C := (.seq (.ops false [oP 45 (.bin .lss (.t 44) (.t 43))]) (.seq (.cond (.t 45) .skip (.exit 4)) c86_3))
def c86_5 : C := (.seq (.ops false [oM 42 1, oP 43 (.len (.t 42)), oP 44 (.mv (cI 0))]) (.block 4 (.loop c86_4)))
def c86_6 : C := (.ops false [oP 69 (.bin .add (.t 21) (cI 1)), oM 21 69])
def c86_7 : C := (.seq (.block 1 (.seq (.ops false [oP 23 (.iaS 2 (.t 19) (.t 21)), oP 24 (.ld 2 true (.t 23)), oP 8 (.new [(.v (.int .i64 0)), (.v (.int .i64 0))]), oS (.st 2 (.t 8) (.t 24))]) (.seq (.ops false [oP 25 (.bsl 1 0 [(.v (.int .i64 0))] []), oM 26 6, oP 27 (.app 1 8 (.t 25) (.t 26)), oM 9 27]) (.seq (.seq (.ops false [oP 10 (.mv (cI 0))]) (.block 2 (.loop c86_2))) c86_5))))
 c86_6)
def c86_8 : C := (.seq (.ops false [oP 22 (.bin .lss (.t 21) (.t 20))]) (.seq (.cond (.t 22) .skip (.exit 0)) c86_7))
def c86_9 : C := (.seq (.block 7 (.seq (.ops false [oM 74 72, oM 12 74]) (.ops false [oM 75 5, oM 76 12, oM 77 5, oM 78 12, oP 79 (.iaS 1 (.t 77) (.t 78)), oP 80 (.ld 1 false (.t 79)), oP 81 (.call 85 [(.t 80)]), oP 82 (.iaS 1 (.t 75) (.t 76)), oS (.st 1 (.t 82) (.t 81))]))) (.ops false [oP 83 (.bin .add (.t 72) (cI 1)), oM 72 83]))
def c86_10 : C := (.seq (.ops false [oP 73 (.bin .lss (.t 72) (.t 71))]) (.seq (.cond (.t 73) .skip (.exit 6)) c86_9))
def c86_11 : C := (.seq (.ops false [oM 84 5, oM 4 84]) .ret)
def c86_12 : C := (.seq (.seq (.ops false [oM 70 5, oP 71 (.len (.t 70)), oP 72 (.mv (cI 0))]) (.block 6 (.loop c86_10))) c86_11)
def c86 : C := (.seq (.ops false [oP 4 (.mv (.c .mt))]) (.seq (.ops false [oM 13 1, oP 14 (.len (.t 13)), oP 15 (.mks 1 24 [.mt] (.t 14)), oM 5 15]) (.seq (.ops false [oM 16 1, oP 17 (.len (.t 16)), oP 18 (.mks 1 8 [(.v (.int .i64 0))] (.t 17)), oM 6 18]) (.seq (.seq (.ops false [oM 19 0, oP 20 (.len (.t 19)), oP 21 (.mv (cI 0))]) (.block 0 (.loop c86_8)))
 c86_12))))
def r86 : List RV := [(.tmp 4)]
theorem c86_ok : ∃ code, Try.f86.body = some code ∧ compC Try.prog Try.f86.ntmps code = some (C.strip c86) := ⟨_, rfl, by kernel_rfl⟩
theorem r86_ok : compRes Try.prog Try.f86.results.toList = some r86 := by kernel_rfl
theorem f86_ok : fnOk Try.prog 86 = true := by kernel_rfl
def c87_1 : C := (.seq (.block 1 (.ops false [oM 12 3, oM 13 0, oM 14 4, oP 15 (.iaS 2 (.t 13) (.t 14)), oP 16 (.ld 2 true (.t 15)), oP 17 (.bsl 2 1 [(.v (.int .i64 0)), (.v (.int .i64 0))] [(0, (.t 16))]), oP 18 (.app 2 16 (.t 12) (.t 17)), oM 3 18])) (.ops false [oM 10 4, oP 11 (.bin .sub (.t 10) (cI 1)), oM 4 11]))
def c87_2 : C := (.seq (.seq (.ops false [oM 8 4, oP 9 (.bin .geq (.t 8) (cI 0))]) (.cond (.t 9) .skip (.exit 0))) c87_1)
def c87_3 : C := (.seq (.ops false [oM 19 3, oM 2 19]) .ret)
def c87 : C := (.seq (.ops false [oP 2 (.mv (.c .mt))]) (.seq (.ops false [oP 3 (.mv (.c .mt))]) (.seq (.seq (.ops false [oM 5 0, oP 6 (.len (.t 5)), oP 7 (.bin .sub (.t 6) (cI 1)), oM 4 7]) (.block 0 (.loop c87_2))) c87_3)))
def r87 : List RV := [(.tmp 2)]
theorem c87_ok : ∃ code, Try.f87.body = some code ∧ compC Try.prog Try.f87.ntmps code = some (C.strip c87) := ⟨_, rfl, by kernel_rfl⟩
theorem r87_ok : compRes Try.prog Try.f87.results.toList = some r87 := by kernel_rfl
theorem f87_ok : fnOk Try.prog 87 = true := by kernel_rfl
def c88_1 : C := (.seq (.ops false [oP 24 (.bsl 2 0 [(.v (.int .i64 0)), (.v (.int .i64 0))] []), oM 25 1, oP 26 (.app 2 16 (.t 24) (.t 25)), oM 27 0, oP 28 (.app 2 16 (.t 26) (.t 27)), oM 29 0, oB 30 (.call 77 [(.t 29)]), oP 31 (.call 130 [(.t 28), (.t 30)]), oP 32 (.ext (.t 31) 0), oP 33 (.ext (.t 31) 1), oM 6 32, oM 7 33]) .ret)
def c88 : C := (.seq (.ops false [oP 6 (.mv (.c .mt)), oP 7 (.mv (.c .mt))]) (.seq (.seq (.ops false [oM 10 2]) (.cond (.t 10) (.seq (.ops false [oP 12 (.bsl 2 0 [(.v (.int .i64 0)), (.v (.int .i64 0))] []), oM 13 0, oP 14 (.app 2 16 (.t 12) (.t 13)), oM 15 1, oP 16 (.app 2 16 (.t 14) (.t 15)), oM 17 1, oB 18 (.call 77 [(.t 17)]), oP 19 (.call 130 [(.t 16), (.t 18)]),
 oM 11 19, oP 20 (.ext (.t 11) 0), oP 21 (.ext (.t 11) 1), oM 8 20, oM 9 21]) (.seq (.ops false [oM 22 9, oM 23 8, oM 6 22, oM 7 23]) .ret)) .skip)) c88_1))
def r88 : List RV := [(.tmp 6), (.tmp 7)]
theorem c88_ok : ∃ code, Try.f88.body = some code ∧ compC Try.prog Try.f88.ntmps code = some (C.strip c88) := ⟨_, rfl, by kernel_rfl⟩
theorem r88_ok : compRes Try.prog Try.f88.results.toList = some r88 := by kernel_rfl
theorem f88_ok : fnOk Try.prog 88 = true := by kernel_rfl
def c127_1 : C := (.ops false [oP 30 (.bin .add (.t 21) (cI 1)), oM 21 30])
def c127_2 : C := (.seq (.block 1 (.seq (.ops false [oM 23 21, oM 6 23]) (.seq (.ops false [oM 24 1, oM 25 6, oP 26 (.iaS 1 (.t 24) (.t 25)), oP 27 (.ld 1 false (.t 26)), oB 28 (.call 76 [(.t 27)]), oP 29 (.not (.t 28))]) (.cond (.t 29) (.seq (.ops false [oP 4 (.mv (cI 9))]) .ret) .skip)))) c127_1)
def c127_3 : C := (.seq (.ops false [oP 22 (.bin .lss (.t 21) (.t 20))]) (.seq (.cond (.t 22) .skip (.exit 0)) c127_2))
def c127_4 : C := (.ops false [oP 48 (.bin .add (.t 33) (cI 1)), oM 33 48])
def c127_5 : C := (.seq (.block 3 (.seq (.ops false [oM 35 33, oM 7 35]) (.seq (.ops true [oM 36 1, oM 37 7, oA 38 (.iaS 1 (.t 36) (.t 37)) [1, 0], oA 39 (.ld 1 false (.t 38)) [0, 1, 2], oE 40 (.call 77 [(.t 39)]) [2, 1, 0, 3], oP 41 (.fa 1 (.t 2)), oA 42 (.ld 1 false (.t 41)) [5], oM 43 7, oA 44 (.iaS 7 (.t 42) (.t 43)) [5, 7, 6], oA 45 (.fa 3 (.t 44)) [6, 7,
 5, 8], oA 46 (.ld 1 false (.t 45)) [8, 5, 7, 6, 9], oA 47 (.bin .neq (.t 40) (.t 46)) [9, 6, 7, 5, 8, 3, 0, 1, 2, 10, 4]]) (.cond (.t 47) (.seq (.ops false [oP 4 (.mv (cI 14))]) .ret) .skip)))) c127_4)
def c127_6 : C := (.seq (.ops false [oP 34 (.bin .lss (.t 33) (.t 32))]) (.seq (.cond (.t 34) .skip (.exit 2)) c127_5))
def c127_7 : C := (.seq (.ops false [oP 4 (.mv (cI 0))]) .ret)
def c127_8 : C := (.seq (.seq (.ops false [oM 31 1, oP 32 (.len (.t 31)), oP 33 (.mv (cI 0))]) (.block 2 (.loop c127_6))) c127_7)
def c127_9 : C := (.seq (.seq (.ops false [oM 19 1, oP 20 (.len (.t 19)), oP 21 (.mv (cI 0))]) (.block 0 (.loop c127_3))) c127_8)
def c127_10 : C := (.seq (.seq (.ops false [oM 13 1, oP 14 (.len (.t 13)), oP 15 (.fa 1 (.t 2)), oP 16 (.ld 1 false (.t 15)), oP 17 (.len (.t 16)), oP 18 (.bin .neq (.t 14) (.t 17))]) (.cond (.t 18) (.seq (.ops false [oP 4 (.mv (cI 9))]) .ret) .skip)) c127_9)
def c127 : C := (.seq (.ops false [oP 2 (.box 6 (.t 0)), oP 4 (.mv (cI 0))]) (.seq (.seq (.ops false [oP 8 (.ld 6 true (.t 2)), oB 9 (.call 97 [(.t 8)]), oM 5 9]) (.seq (.ops false [oM 10 5, oP 11 (.bin .neq (.t 10) (cI 0))]) (.cond (.t 11) (.seq (.ops false [oM 12 5, oM 4 12]) .ret) .skip))) c127_10))
def r127 : List RV := [(.tmp 4)]
theorem c127_ok : ∃ code, Try.f127.body = some code ∧ compC Try.prog Try.f127.ntmps code = some (C.strip c127) := ⟨_, rfl, by kernel_rfl⟩
theorem r127_ok : compRes Try.prog Try.f127.results.toList = some r127 := by kernel_rfl
theorem f127_ok : fnOk Try.prog 127 = true := by kernel_rfl
def c129_1 : C := (.ops false [oP 45 (.bin .add (.t 9) (cI 1)), oM 9 45])
def c129_2 : C := (.seq (.block 1 (.seq (.ops false [oM 11 9, oM 6 11]) (.seq (.ops true [oM 12 0, oM 13 6, oA 14 (.iaS 1 (.t 12) (.t 13)) [1, 0], oA 15 (.ld 1 false (.t 14)) [0, 1, 2], oA 16 (.bin .gtr (.t 15) (cI 0)) [2, 1, 0, 3], oA 17 (.mv (.t 16)) [3, 0, 1, 2, 4], oH 18 17 true (.mv (.t 5)) [4, 2, 1, 0, 3, 5], oH 19 17 true (.bin .lss (.t 18) (cI 0)) [3, 0, 1, 2, 4,
 5, 6], oH 20 17 true (.mv (.t 19)) [6, 4, 2, 1, 0, 3, 5, 7], oH 21 20 false (.mv (.t 1)) [7, 5, 3, 0, 1, 2, 4, 6, 8], oH 22 20 false (.mv (.t 6)) [7, 5, 3, 0, 1, 2, 4, 6, 8], oH 23 20 false (.iaS 1 (.t 21) (.t 22)) [6, 4, 2, 1, 0, 3, 5, 7, 8, 10, 9], oH 24 20 false (.ld 1 false (.t 23)) [9, 10, 7, 5, 3, 0, 1, 2, 4, 6, 8, 11], oH 25 20 false (.bin .add (.t 24) (cI 1)) [11, 6, 4, 2, 1, 0, 3, 5, 7,
 10, 9, 8, 12], oH 26 20 false (.mv (.t 0)) [7, 5, 3, 0, 1, 2, 4, 6, 8], oH 27 20 false (.mv (.t 5)) [7, 5, 3, 0, 1, 2, 4, 6, 8], oH 28 20 false (.iaS 1 (.t 26) (.t 27)) [6, 4, 2, 1, 0, 3, 5, 7, 8, 15, 14], oH 29 20 false (.ld 1 false (.t 28)) [14, 15, 7, 5, 3, 0, 1, 2, 4, 6, 8, 16], oH 30 20 false (.bin .mul (.t 25) (.t 29)) [16, 15, 14, 12, 9, 10, 7, 5, 3, 0, 1, 2, 4, 6, 11, 8, 17, 13],
 oH 31 20 false (.mv (.t 1)) [7, 5, 3, 0, 1, 2, 4, 6, 8], oH 32 20 false (.mv (.t 5)) [7, 5, 3, 0, 1, 2, 4, 6, 8], oH 33 20 false (.iaS 1 (.t 31) (.t 32)) [6, 4, 2, 1, 0, 3, 5, 7, 8, 20, 19], oH 34 20 false (.ld 1 false (.t 33)) [19, 20, 7, 5, 3, 0, 1, 2, 4, 6, 8, 21], oH 35 20 false (.bin .add (.t 34) (cI 1)) [21, 6, 4, 2, 1, 0, 3, 5, 7, 20, 19, 8, 22], oH 36 20 false (.mv (.t 0)) [7, 5, 3, 0, 1,
 2, 4, 6, 8], oH 37 20 false (.mv (.t 6)) [7, 5, 3, 0, 1, 2, 4, 6, 8], oH 38 20 false (.iaS 1 (.t 36) (.t 37)) [6, 4, 2, 1, 0, 3, 5, 7, 8, 25, 24], oH 39 20 false (.ld 1 false (.t 38)) [24, 25, 7, 5, 3, 0, 1, 2, 4, 6, 8, 26], oH 40 20 false (.bin .mul (.t 35) (.t 39)) [26, 25, 24, 22, 19, 20, 7, 5, 3, 0, 1, 2, 4, 6, 21, 8, 27, 23], oH 41 20 false (.bin .lss (.t 30) (.t 40)) [23, 27, 21, 20, 19, 22,
 24, 25, 26, 13, 17, 11, 6, 4, 2, 1, 0, 3, 5, 7, 10, 9, 12, 14, 15, 16, 8, 28, 18], oH 42 17 true (.pick (.t 20) (cB true) (.t 41)) [18, 28, 16, 15, 14, 12, 9, 10, 11, 17, 13, 26, 25, 24, 22, 19, 20, 21, 27, 23, 7, 3, 0, 1, 2, 4, 6, 5, 29, 8], oA 43 (.pick (.t 17) (.t 42) (cB false)) [8, 29, 6, 7, 23, 27, 21, 20, 19, 22, 24, 25, 26, 13, 17, 11, 10, 9, 12, 14, 15, 16, 28, 18, 4, 2, 1, 0, 3, 30, 5]])
 (.cond (.t 43) (.ops false [oM 44 6, oM 5 44]) .skip)))) c129_1)
def c129_3 : C := (.seq (.ops false [oP 10 (.bin .lss (.t 9) (.t 8))]) (.seq (.cond (.t 10) .skip (.exit 0)) c129_2))
def c129_4 : C := (.seq (.ops false [oM 46 5, oM 4 46]) .ret)
def c129 : C := (.seq (.ops false [oP 4 (.mv (cI 0))]) (.seq (.ops false [oP 5 (.mv (cI (-1)))]) (.seq (.seq (.ops false [oM 7 0, oP 8 (.len (.t 7)), oP 9 (.mv (cI 0))]) (.block 0 (.loop c129_3))) c129_4)))
def r129 : List RV := [(.tmp 4)]
theorem c129_ok : ∃ code, Try.f129.body = some code ∧ compC Try.prog Try.f129.ntmps code = some (C.strip c129) := ⟨_, rfl, by kernel_rfl⟩
theorem r129_ok : compRes Try.prog Try.f129.results.toList = some r129 := by kernel_rfl
theorem f129_ok : fnOk Try.prog 129 = true := by kernel_rfl
def c130_1 : C := (.seq (.block 1 (.seq (.ops false [oP 15 (.iaS 2 (.t 11) (.t 13)), oP 16 (.ld 2 true (.t 15)), oP 9 (.new [(.v (.int .i64 0)), (.v (.int .i64 0))]), oS (.st 2 (.t 9) (.t 16))]) (.seq (.ops false [oM 17 1, oP 18 (.fa 1 (.t 9)), oP 19 (.ld 1 false (.t 18)), oP 20 (.mnx false (.t 17) (.t 19)), oM 10 20]) (.seq (.ops false [oM 21 1, oM 22 10,
 oP 23 (.bin .sub (.t 21) (.t 22)), oM 1 23]) (.ops true [oM 24 6, oP 25 (.fa 0 (.t 9)), oA 26 (.ld 1 false (.t 25)) [1], oM 27 10, oA 28 (.bld [(.v (.int .i64 0)), (.v (.int .i64 0))] [(0, (1, (.t 26))), (1, (1, (.t 27)))]) [1, 3, 2], oA 29 (.bsl 2 1 [(.v (.int .i64 0)), (.v (.int .i64 0))] [(0, (.t 28))]) [2, 3, 1, 4], oA 30 (.app 2 16 (.t 24) (.t 29)) [4, 1, 3,
 2, 5, 0], oM 31 7, oP 32 (.fa 0 (.t 9)), oA 33 (.ld 1 false (.t 32)) [8], oP 34 (.fa 1 (.t 9)), oA 35 (.ld 1 false (.t 34)) [10], oM 36 10, oA 37 (.bin .sub (.t 35) (.t 36)) [10, 12, 11], oA 38 (.bld [(.v (.int .i64 0)), (.v (.int .i64 0))] [(0, (1, (.t 33))), (1, (1, (.t 37)))]) [11, 12, 10, 8, 13, 9], oA 39 (.bsl 2 1 [(.v (.int .i64 0)), (.v (.int .i64 0))] [(0, (.t 38))])
 [9, 13, 8, 10, 12, 11, 14], oA 40 (.app 2 16 (.t 31) (.t 39)) [0, 5, 2, 3, 1, 4, 14, 11, 12, 10, 8, 13, 9, 6, 15, 7], oA 6 (.mv (.t 30)) [7, 15, 9, 13, 8, 10, 12, 11, 14, 5, 4, 3, 2, 1, 0, 16, 6], oA 7 (.mv (.t 40)) [15, 14, 13, 12, 11, 10, 9, 8, 7, 6, 5, 4, 3, 2, 1, 0, 17, 16]]))))) (.ops false [oP 41 (.bin .add (.t 13) (cI 1)), oM 13 41]))
def c130_2 : C := (.seq (.ops false [oP 14 (.bin .lss (.t 13) (.t 12))]) (.seq (.cond (.t 14) .skip (.exit 0)) c130_1))
def c130_3 : C := (.seq (.ops false [oM 42 6, oP 43 (.call 85 [(.t 42)]), oM 44 7, oP 45 (.call 85 [(.t 44)]), oM 4 43, oM 5 45]) .ret)
def c130 : C := (.seq (.ops false [oP 4 (.mv (.c .mt)), oP 5 (.mv (.c .mt))]) (.seq (.ops false [oP 6 (.mv (.c .mt)), oP 7 (.mv (.c .mt))]) (.seq (.seq (.ops false [oM 11 0, oP 12 (.len (.t 11)), oP 13 (.mv (cI 0))]) (.block 0 (.loop c130_2))) c130_3)))
def r130 : List RV := [(.tmp 4), (.tmp 5)]
theorem c130_ok : ∃ code, Try.f130.body = some code ∧ compC Try.prog Try.f130.ntmps code = some (C.strip c130) := ⟨_, rfl, by kernel_rfl⟩
theorem r130_ok : compRes Try.prog Try.f130.results.toList = some r130 := by kernel_rfl
theorem f130_ok : fnOk Try.prog 130 = true := by kernel_rfl
end Go.Proofs.Ytadjhfjiimgddaa
