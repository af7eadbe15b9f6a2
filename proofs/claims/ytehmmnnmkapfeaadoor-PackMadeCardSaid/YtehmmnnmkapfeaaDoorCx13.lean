/- PackMade: Pk6 Pk7 NkOk Fl1 Fl2 CodeF Fw1 Fw4. -/
import Derived.Test.YtehmmnnmkapfeaaDoorCx12
import Derived.Test.YtehmmnnmkapfeaaDoorCx9
import Derived.Test.YtehmmnnmkapfeaaDoorCx3
import Derived.Test.YtehmmnnmkapfeaaDoorProg
set_option linter.unusedSimpArgs false
set_option linter.unusedVariables false
set_option maxRecDepth 100000

/- Inventories of a fill, of both. -/
namespace Go.Proofs.YtehmmnnmkapfeaaDoor
open Go
structure Bat where
  pr : Int
  sh : ByteArray
  fr : Int
  to : Int
def Bat.row (b : Bat) : List D := [di b.pr, ds b.sh, di b.fr, di b.to]
def btA (l : List Bat) (j : Nat) : Bat := l.getD j ⟨0, ⟨#[]⟩, 0, 0⟩
theorem bt_get {l : List Bat} {j : Nat} (h : j < l.length) : (l.map Bat.row).getD j [] = [di (btA l j).pr, ds (btA l j).sh, di (btA l j).fr, di (btA l j).to] := by
  unfold btA
  rw [List.getD_eq_getElem?_getD, List.getElem?_map, List.getD_eq_getElem?_getD, List.getElem?_eq_getElem h]
  rfl
def btOf : List D → Option Bat
  | [.v (.int .i64 a), .v (.string s), .v (.int .i64 b), .v (.int .i64 c)] => some ⟨a, s, b, c⟩
  | _ => Option.none
theorem btOf_eq {l : List D} {m : Bat} (h : btOf l = some m) : l = m.row := by unfold btOf at h; split at h <;> cases h; rfl
def btsOf : List (List D) → Option (List Bat)
  | [] => some []
  | r :: l => match btOf r, btsOf l with
    | some c, some cs => some (c :: cs)
    | _, _ => Option.none
theorem btsOf_map (l : List Bat) : btsOf (l.map Bat.row) = some l := by
  induction l with
  | nil => rfl
  | cons c l ih => rw [List.map_cons, btsOf, ih]; rfl
theorem btsOf_eq : ∀ {l : List (List D)} {cs : List Bat}, btsOf l = some cs → l = cs.map Bat.row
  | [], cs, h => by cases h; rfl
  | r :: l, cs, h => by
    rw [btsOf] at h
    split at h
    · rename_i e e'; cases h; rw [List.map_cons, btOf_eq e, btsOf_eq e']
    · cases h
def unkB (ps : List Prd) (bs : List Bat) (p : Pce) : Bool := decide ((bs.length : Int) ≤ p.ba) || (decide ((btA bs p.ba.toNat).pr < 0) || decide ((ps.length : Int) ≤ (btA bs p.ba.toNat).pr))
def segV (ps : List Prd) (bs : List Bat) (c : Cnd) (p : Pce) : Int × Int :=
  if (facI (pdA ps (btA bs p.ba.toNat).pr.toNat) c).2 = 0 then stdI p.vo (facI (pdA ps (btA bs p.ba.toNat).pr.toNat) c).1 else (0, (facI (pdA ps (btA bs p.ba.toNat).pr.toNat) c).2)
def segGo (ps : List Prd) (bs : List Bat) (c : Cnd) : List Pce → Int → Int × Int
  | [], s => (s, 0)
  | p :: l, s => if (segV ps bs c p).2 = 0 then segGo ps bs c l (IntKind.i64.wrap (s + (segV ps bs c p).1)) else (0, (segV ps bs c p).2)
def segI (ps : List Prd) (bs : List Bat) (f : List Pce) (c : Cnd) : Int × Int :=
  if pckI ps = 0 then (if flV f then (if f.any (unkB ps bs) then (0, 8) else segGo ps bs c f 0) else (0, 14)) else (0, pckI ps)
theorem sumW_app (x : Int) : ∀ (l : List Int) (s : Int), sumW (l ++ [x]) s = IntKind.i64.wrap (sumW l s + x)
  | [], s => rfl
  | y :: l, s => by rw [List.cons_append, sumW, sumW, sumW_app x l]
theorem flV_o {f : List Pce} (h : flV f = true) : f.length ≤ 200 ∧ ∀ j, j < f.length → pcBad f j = false := by
  unfold flV at h
  split at h
  · cases h
  · split at h
    · cases h
    · rename_i h1 h2
      refine ⟨by omega, fun j hj => ?_⟩
      have := List.any_eq_false.1 (by simpa using h2) j (List.mem_range.2 hj)
      simpa using this
theorem pcBad_o {f : List Pce} {j : Nat} (h : pcBad f j = false) : (0 ≤ (pcA f j).ba ∧ (pcA f j).ba < 1000) ∧ (1 ≤ (pcA f j).vo ∧ (pcA f j).vo ≤ 1000000) := by
  unfold pcBad litB at h
  simp only [Bool.or_eq_false_iff, Bool.not_eq_false', Bool.and_eq_true, decide_eq_true_eq, beq_eq_false_iff_ne] at h
  omega
theorem any_drop {q : Pce → Bool} {l : List Pce} {j : Nat} (h : j < l.length) {b : Bool} (he : (l.drop j).any q = b) : (q (pcA l j) = true → b = true) ∧ (q (pcA l j) = false → (l.drop (j + 1)).any q = b) := by
  have := drop_any h he
  rw [pc_at h] at this
  exact this
structure SgPre (ps : List Prd) (bs : List Bat) (f : List Pce) : Prop where
  ps : ps.length ≤ 1000000
  bs : bs.length ≤ 1000000
  f : f.length ≤ 1000000
def SgT : Tbl := tc 66 (rowPu selPk) (tc 67 (rowPu selFv) (tc 57 (rowPu selFa) (tc 58 (rowPu selSd) (tc 68 (rowPu selSu) T0))))
theorem SgT_ok : TblOk Tryd.prog SgT := tc_pck (tc_fv (tc_fa (tc_sd (tc_su (T0_ok _)))))
def SgU : Tbl := tc 79 (rowPu selPk) (tc 70 (rowPu selFv) (tc 35 (rowPu selFa) (tc 61 (rowPu selSd) T0)))
theorem SgU_ok : TblOk Tryd.prog SgU := tc_rpck (tc_rfv (tc_rfa (tc_rsd (T0_ok _))))
def SgH (c : Cnd) : Hp := Hp.none.put (0, 7) ⟨0, 2, [c.row]⟩
def SgB (ps : List Prd) (bs : List Bat) (e : List (Nat × D)) : List (Nat × D) := (0, .sl (ps.map Prd.row)) :: (1, .sl (bs.map Bat.row)) :: (7, .ptr (0, 7) 0 0 0) :: e
def SgF1 (ps : List Prd) (bs : List Bat) (f : List Pce) (j : Int) : List (Nat × D) := SgB ps bs [(2, .sl (f.map Pce.row)), (27, .sl (f.map Pce.row)), (28, di f.length), (29, di j)]
def SgG1 (ps : List Prd) (bs : List Bat) (f : List Pce) (j : Int) : List (Nat × D) := SgB ps bs [(2, .sl (f.map Pce.row)), (11, di j)]
def SgF2 (ps : List Prd) (bs : List Bat) (f : List Pce) (out : List Int) (g : Nat) (j : Int) : List (Nat × D) := SgB ps bs [(13, .own (0, 1000) g 0 out.length), (59, .sl (f.map Pce.row)), (60, di f.length), (61, di j)]
def SgH2 (c : Cnd) (out : List Int) (g : Nat) : Hp := (SgH c).put (0, 1000) ⟨g, 1, out.map iR⟩
def SgG2 (ps : List Prd) (bs : List Bat) (f : List Pce) (s : Int) (j : Int) : List (Nat × D) := SgB ps bs [(2, .sl (f.map Pce.row)), (12, di s), (13, di j)]
set_option maxHeartbeats 16000000 in
theorem pseg_c (ps : List Prd) (bs : List Bat) (f : List Pce) (c : Cnd) (h : SgPre ps bs f) (nn : Nm) : CallsA Tryd.prog 34 [.sl (ps.map Prd.row), .sl (bs.map Bat.row), .sl (f.map Pce.row), c.enc] Hp.none nn (Pu (ie (segI ps bs f c)) Hp.none) := by
  obtain ⟨code, h1, h2⟩ := c34_ok
  refine callsA_of SgT_ok mixed (N := fun t => (0, t)) Tryd.func34 h1 h2 r34_ok [] false js_nil js_nil' (by simp [Tryd.f34]) ?_
  have b1 : PsOk ps := h.ps
  have b2 : PfOk f := h.f
  have b3 := h.bs
  have b4 := h.f
  have b5 := h.ps
  cases a0 : (pckI ps != 0) with
  | true =>
    have e : segI ps bs f c = (0, pckI ps) := by unfold segI; rw [if_neg (neq_b a0)]
    simp (maxSteps:=500000) only [↓vp, vv, ↓reduceIte, simprocAttr, c34, r34, c34_1, c34_10, c34_11, c34_12, c34_2, c34_3, c34_4, c34_5, c34_6, c34_7, c34_8, c34_9, r34, SgT, selPk, selX, decPs, prdsOf_map, b1, a0, e, ie, Cnd.enc, Cnd.row, Pu]
  | false =>
  have k0 := eq_b a0
  cases a1 : flV f with
  | false =>
    have e : segI ps bs f c = (0, 14) := by unfold segI; rw [if_pos k0, a1]; rfl
    simp (maxSteps:=500000) only [↓vp, vv, ↓reduceIte, simprocAttr, c34, r34, c34_1, c34_10, c34_11, c34_12, c34_2, c34_3, c34_4, c34_5, c34_6, c34_7, c34_8, c34_9, r34, SgT, selPk, selFv, selX, decPs, decPf, prdsOf_map, pcsOf_map, b1, b2, k0, a1, e, ie, Cnd.enc, Cnd.row, Pu]
  | true =>
  have e0 : segI ps bs f c = if f.any (unkB ps bs) then (0, 8) else segGo ps bs c f 0 := by unfold segI; rw [if_pos k0, a1, if_pos rfl]
  have hf := flV_o a1
  generalize hb : f.any (unkB ps bs) = b at e0
  generalize hX : segGo ps bs c f 0 = X at e0
  simp (maxSteps:=500000) only [↓vp, vv, ↓reduceIte, simprocAttr, c34, r34, c34_1, c34_10, c34_11, c34_12, c34_2, c34_3, c34_4, c34_5, c34_6, c34_7, c34_8, c34_9, SgT, selPk, selFv, selX, decPs, decPf, prdsOf_map, pcsOf_map, b1, b2, k0, a1, Cnd.enc, Cnd.row]
  refine rng_loop f.length (fun j => ⟨fr (SgF1 ps bs f (j : Nat)), SgH c⟩) (fun j => (f.drop j).any (unkB ps bs) = b) (weak_eq [] [(0, 7)] (SgF1 ps bs f 0) (by simp (maxSteps:=500000) only [↓vp, vv, ↓reduceIte, simprocAttr, coverS, SgF1, SgB, SgH, Cnd.row]) (by simp (maxSteps:=500000) only [↓vp, vv, ↓reduceIte, simprocAttr, refsF, SgF1, SgB, SgH, Cnd.row]) (by simp (maxSteps:=500000) only [↓vp, vv, ↓reduceIte, simprocAttr, SgF1, SgB, SgH, Cnd.row]) (by simp) (by simp (maxSteps:=500000) only [↓vp, vv, ↓reduceIte, simprocAttr, SgF1, SgB, SgH, Cnd.row]; try rfl)) hb (fun j hj hP => ?_) (fun hP => ?_)
  · have hj' : (j : Int) < f.length := by omega
    have w1 := idx_next (j := j) (by omega)
    have g1 := pc_get hj
    obtain ⟨n1, n2⟩ := any_drop hj hP
    obtain ⟨⟨p0, p1⟩, _⟩ := pcBad_o (hf.2 j hj)
    have hu : unkB ps bs (pcA f j) = (decide ((bs.length : Int) ≤ (pcA f j).ba) || (decide ((btA bs (pcA f j).ba.toNat).pr < 0) || decide ((ps.length : Int) ≤ (btA bs (pcA f j).ba.toNat).pr))) := rfl
    generalize pcA f j = p at g1 n1 n2 p0 p1 hu
    cases c1 : decide ((bs.length : Int) ≤ p.ba) with
    | true =>
      have := n1 (by rw [hu, c1]; rfl)
      subst this
      simp (maxSteps:=500000) only [↓vp, vv, ↓reduceIte, simprocAttr, c34, r34, c34_1, c34_10, c34_11, c34_12, c34_2, c34_3, c34_4, c34_5, c34_6, c34_7, c34_8, c34_9, r34, SgT, SgF1, SgB, SgH, Cnd.row, hj', hj, g1, Int.toNat_natCast, idx_nn, c1, e0, ie, Pu]
    | false =>
    have q1 : p.ba < (bs.length : Int) := by have := of_decide_eq_false c1; omega
    have q2 : p.ba.toNat < bs.length := by omega
    have g2 := bt_get q2
    generalize btA bs p.ba.toNat = t at g2 hu
    cases c2 : decide (t.pr < 0) with
    | true =>
      have := n1 (by rw [hu, c1, c2]; rfl)
      subst this
      simp (maxSteps:=500000) only [↓vp, vv, ↓reduceIte, simprocAttr, c34, r34, c34_1, c34_10, c34_11, c34_12, c34_2, c34_3, c34_4, c34_5, c34_6, c34_7, c34_8, c34_9, r34, SgT, SgF1, SgB, SgH, Cnd.row, hj', hj, g1, g2, p0, q1, q2, Int.toNat_natCast, idx_nn, c1, c2, e0, ie, Pu]
    | false =>
    cases c3 : decide ((ps.length : Int) ≤ t.pr) with
    | true =>
      have := n1 (by rw [hu, c1, c2, c3]; rfl)
      subst this
      simp (maxSteps:=500000) only [↓vp, vv, ↓reduceIte, simprocAttr, c34, r34, c34_1, c34_10, c34_11, c34_12, c34_2, c34_3, c34_4, c34_5, c34_6, c34_7, c34_8, c34_9, r34, SgT, SgF1, SgB, SgH, Cnd.row, hj', hj, g1, g2, p0, q1, q2, Int.toNat_natCast, idx_nn, c1, c2, c3, e0, ie, Pu]
    | false =>
      have nx := n2 (by rw [hu, c1, c2, c3]; rfl)
      simp (maxSteps:=500000) only [↓vp, vv, ↓reduceIte, simprocAttr, c34, r34, c34_1, c34_10, c34_11, c34_12, c34_2, c34_3, c34_4, c34_5, c34_6, c34_7, c34_8, c34_9, r34, SgT, SgF1, SgB, SgH, Cnd.row, hj', hj, g1, g2, p0, q1, q2, Int.toNat_natCast, idx_nn, c1, c2, c3]
      refine rng_next hj ?_ nx
      exact (weak_eq [] [(0, 7)] (SgF1 ps bs f ((j + 1 : Nat) : Int)) (by simp (maxSteps:=500000) only [↓vp, vv, ↓reduceIte, simprocAttr, coverS, SgF1, SgB, SgH, Cnd.row, w1]) (by simp (maxSteps:=500000) only [↓vp, vv, ↓reduceIte, simprocAttr, refsF, SgF1, SgB, SgH, Cnd.row, w1]) (by simp (maxSteps:=500000) only [↓vp, vv, ↓reduceIte, simprocAttr, SgF1, SgB, SgH, Cnd.row, w1]) (by simp) (by simp (maxSteps:=500000) only [↓vp, vv, ↓reduceIte, simprocAttr, SgF1, SgB, SgH, Cnd.row, w1]; try rfl))
  · rw [List.drop_of_length_le (Nat.le_refl _)] at hP
    have : b = false := hP.symm
    subst this
    have hin : ∀ j, j < f.length → unkB ps bs (pcA f j) = false := fun j hj => by
      have := List.any_eq_false.1 hb (pcA f j) (by rw [← pc_at hj]; exact List.getElem_mem hj)
      simpa using this
    simp (maxSteps:=500000) only [↓vp, vv, ↓reduceIte, simprocAttr, c34, r34, c34_1, c34_10, c34_11, c34_12, c34_2, c34_3, c34_4, c34_5, c34_6, c34_7, c34_8, c34_9, SgT, SgF1, SgB, SgH, Cnd.row, Int.lt_irrefl]
    refine rng_loopP f.length (fun j (u : List Int × Nat) => ⟨fr (SgF2 ps bs f u.1 u.2 (j : Nat)), SgH2 c u.1 u.2⟩) (fun j u => u.1.length = j ∧ segGo ps bs c (f.drop j) (sumW u.1 0) = X) (u0 := ([], 0)) ((weak_own 13 (0, 1000) 1 (by simp (maxSteps:=500000) only [↓vp, vv, ↓reduceIte, simprocAttr, ]) (by simp (maxSteps:=500000) only [↓vp, vv, ↓reduceIte, simprocAttr, ])).trans (weak_eq [] [(0, 1000), (0, 7)] (SgF2 ps bs f [] 0 0) (by simp (maxSteps:=500000) only [↓vp, vv, ↓reduceIte, simprocAttr, coverS, SgF2, SgB, SgH2, SgH, Cnd.row, List.map_nil]) (by simp (maxSteps:=500000) only [↓vp, vv, ↓reduceIte, simprocAttr, refsF, SgF2, SgB, SgH2, SgH, Cnd.row, List.map_nil]) (by simp (maxSteps:=500000) only [↓vp, vv, ↓reduceIte, simprocAttr, SgF2, SgB, SgH2, SgH, Cnd.row, List.map_nil]) (by simp) (by simp (maxSteps:=500000) only [↓vp, vv, ↓reduceIte, simprocAttr, SgF2, SgB, SgH2, SgH, Cnd.row, List.map_nil]; try rfl))) ⟨rfl, hX⟩ (fun j hj u hP => ?_) (fun u hP => ?_)
    · obtain ⟨out, g⟩ := u
      obtain ⟨ho, hP⟩ := hP
      dsimp only at ho hP
      have y1 : (out.length + 1) * 8 ≤ 140737488355328 := by omega
      have y2 : out.length + 1 ≤ 4611686018427387904 := by omega
      have hj' : (j : Int) < f.length := by omega
      have w1 := idx_next (j := j) (by omega)
      have g1 := pc_get hj
      have hu := hin j hj
      obtain ⟨⟨p0, p1⟩, _⟩ := pcBad_o (hf.2 j hj)
      rw [pc_drop hj, segGo] at hP
      generalize pcA f j = p at g1 hu p0 p1 hP
      unfold unkB at hu
      simp only [Bool.or_eq_false_iff, decide_eq_false_iff_not] at hu
      obtain ⟨u1, u2, u3⟩ := hu
      have q1 : p.ba < (bs.length : Int) := by omega
      have q2 : p.ba.toNat < bs.length := by omega
      have g2 := bt_get q2
      have hv : segV ps bs c p = if (facI (pdA ps (btA bs p.ba.toNat).pr.toNat) c).2 = 0 then stdI p.vo (facI (pdA ps (btA bs p.ba.toNat).pr.toNat) c).1 else (0, (facI (pdA ps (btA bs p.ba.toNat).pr.toNat) c).2) := rfl
      generalize btA bs p.ba.toNat = t at g2 hv u2 u3
      have r0 : 0 ≤ t.pr := by omega
      have r1 : t.pr < (ps.length : Int) := by omega
      have r2 : t.pr.toNat < ps.length := by omega
      have g3 := pd_get r2
      generalize pdA ps t.pr.toNat = z at g3 hv
      cases d1 : ((facI z c).2 != 0) with
      | true =>
        rw [if_neg (neq_b d1)] at hv
        rw [hv, if_neg (neq_b d1)] at hP
        simp (maxSteps:=500000) only [↓vp, vv, ↓reduceIte, simprocAttr, c34, r34, c34_1, c34_10, c34_11, c34_12, c34_2, c34_3, c34_4, c34_5, c34_6, c34_7, c34_8, c34_9, r34, SgT, SgF2, SgB, SgH2, SgH, selFa, selSd, selX, decPC, decII, tt, prdOf_x, cndOf_x, Cnd.row, Prd.row, ie, y1, y2, hj', hj, g1, g2, g3, p0, q1, q2, r0, r1, r2, Int.toNat_natCast, idx_nn, d1, e0, ← hP, Pu]
      | false =>
      have k1 := eq_b d1
      rw [if_pos k1] at hv
      rw [hv] at hP
      cases d2 : ((stdI p.vo (facI z c).1).2 != 0) with
      | true =>
        rw [if_neg (neq_b d2)] at hP
        simp (maxSteps:=500000) only [↓vp, vv, ↓reduceIte, simprocAttr, c34, r34, c34_1, c34_10, c34_11, c34_12, c34_2, c34_3, c34_4, c34_5, c34_6, c34_7, c34_8, c34_9, r34, SgT, SgF2, SgB, SgH2, SgH, selFa, selSd, selX, decPC, decII, tt, prdOf_x, cndOf_x, Cnd.row, Prd.row, ie, y1, y2, hj', hj, g1, g2, g3, p0, q1, q2, r0, r1, r2, Int.toNat_natCast, idx_nn, k1, d2, e0, ← hP, Pu]
      | false =>
        have k2 := eq_b d2
        rw [if_pos k2] at hP
        have nx : (out ++ [(stdI p.vo (facI z c).1).1]).length = j + 1 ∧ segGo ps bs c (f.drop (j + 1)) (sumW (out ++ [(stdI p.vo (facI z c).1).1]) 0) = X := ⟨by simp; omega, by rw [sumW_app]; exact hP⟩
        generalize hq : (stdI p.vo (facI z c).1).1 = v at nx
        simp (maxSteps:=500000) only [↓vp, vv, ↓reduceIte, simprocAttr, c34, r34, c34_1, c34_10, c34_11, c34_12, c34_2, c34_3, c34_4, c34_5, c34_6, c34_7, c34_8, c34_9, r34, SgT, SgF2, SgB, SgH2, SgH, selFa, selSd, selX, decPC, decII, tt, prdOf_x, cndOf_x, Cnd.row, Prd.row, ie, y1, y2, hj', hj, g1, g2, g3, p0, q1, q2, r0, r1, r2, Int.toNat_natCast, idx_nn, k1, k2, hq]
        refine rng_nextP hj (out ++ [v], g + 1) ?_ nx
        exact (weak_eq [] [(0, 1000), (0, 7)] (SgF2 ps bs f (out ++ [v]) (g + 1) ((j + 1 : Nat) : Int)) (by simp (maxSteps:=500000) only [↓vp, vv, ↓reduceIte, simprocAttr, coverS, SgF2, SgB, SgH2, SgH, Cnd.row, iR, w1, List.map_append, List.map_cons, List.map_nil, List.length_append, List.length_cons, List.length_nil]) (by simp (maxSteps:=500000) only [↓vp, vv, ↓reduceIte, simprocAttr, refsF, SgF2, SgB, SgH2, SgH, Cnd.row, iR, w1, List.map_append, List.map_cons, List.map_nil, List.length_append, List.length_cons, List.length_nil]) (by simp (maxSteps:=500000) only [↓vp, vv, ↓reduceIte, simprocAttr, SgF2, SgB, SgH2, SgH, Cnd.row, iR, w1, List.map_append, List.map_cons, List.map_nil, List.length_append, List.length_cons, List.length_nil]) (by simp) (by simp (maxSteps:=500000) only [↓vp, vv, ↓reduceIte, simprocAttr, SgF2, SgB, SgH2, SgH, Cnd.row, iR, w1, List.map_append, List.map_cons, List.map_nil, List.length_append, List.length_cons, List.length_nil]; try rfl))
    · obtain ⟨out, g⟩ := u
      obtain ⟨ho, hP⟩ := hP
      dsimp only at ho hP
      rw [List.drop_of_length_le (Nat.le_refl _), segGo] at hP
      have tk : (out.map iR).take out.length = out.map iR := List.take_of_length_le (by simp)
      have bo : I1Ok out := by unfold I1Ok; omega
      simp (maxSteps:=500000) only [↓vp, vv, ↓reduceIte, simprocAttr, c34, r34, c34_1, c34_10, c34_11, c34_12, c34_2, c34_3, c34_4, c34_5, c34_6, c34_7, c34_8, c34_9, r34, SgT, selSu, selX, decI1, intsOf_iR, tk, bo, SgF2, SgB, SgH2, SgH, Cnd.row, Int.lt_irrefl, eq_true (i_pl out), e0, ← hP, ie, Pu]
set_option maxHeartbeats 16000000 in
theorem rseg_c (ps : List Prd) (bs : List Bat) (f : List Pce) (c : Cnd) (h : SgPre ps bs f) (nn : Nm) : CallsA Tryd.prog 45 [.sl (ps.map Prd.row), .sl (bs.map Bat.row), .sl (f.map Pce.row), c.enc] Hp.none nn (Pu (ie (segI ps bs f c)) Hp.none) := by
  obtain ⟨code, h1, h2⟩ := c45_ok
  refine callsA_of SgU_ok mixed (N := fun t => (0, t)) Tryd.func45 h1 h2 r45_ok [] false js_nil js_nil' (by simp [Tryd.f45]) ?_
  have b1 : PsOk ps := h.ps
  have b2 : PfOk f := h.f
  have b3 := h.bs
  have b4 := h.f
  have b5 := h.ps
  cases a0 : (pckI ps != 0) with
  | true =>
    have e : segI ps bs f c = (0, pckI ps) := by unfold segI; rw [if_neg (neq_b a0)]
    simp (maxSteps:=500000) only [↓vp, vv, ↓reduceIte, simprocAttr, c45, r45, c45_1, c45_10, c45_11, c45_12, c45_2, c45_3, c45_4, c45_5, c45_6, c45_7, c45_8, c45_9, r45, SgU, selPk, selX, decPs, prdsOf_map, b1, a0, e, ie, Cnd.enc, Cnd.row, Pu]
  | false =>
  have k0 := eq_b a0
  cases a1 : flV f with
  | false =>
    have e : segI ps bs f c = (0, 14) := by unfold segI; rw [if_pos k0, a1]; rfl
    simp (maxSteps:=500000) only [↓vp, vv, ↓reduceIte, simprocAttr, c45, r45, c45_1, c45_10, c45_11, c45_12, c45_2, c45_3, c45_4, c45_5, c45_6, c45_7, c45_8, c45_9, r45, SgU, selPk, selFv, selX, decPs, decPf, prdsOf_map, pcsOf_map, b1, b2, k0, a1, e, ie, Cnd.enc, Cnd.row, Pu]
  | true =>
  have e0 : segI ps bs f c = if f.any (unkB ps bs) then (0, 8) else segGo ps bs c f 0 := by unfold segI; rw [if_pos k0, a1, if_pos rfl]
  have hf := flV_o a1
  generalize hb : f.any (unkB ps bs) = b at e0
  generalize hX : segGo ps bs c f 0 = X at e0
  simp (maxSteps:=500000) only [↓vp, vv, ↓reduceIte, simprocAttr, c45, r45, c45_1, c45_10, c45_11, c45_12, c45_2, c45_3, c45_4, c45_5, c45_6, c45_7, c45_8, c45_9, SgU, selPk, selFv, selX, decPs, decPf, prdsOf_map, pcsOf_map, b1, b2, k0, a1, Cnd.enc, Cnd.row]
  refine rng_loop f.length (fun j => ⟨fr (SgG1 ps bs f (j : Nat)), SgH c⟩) (fun j => (f.drop j).any (unkB ps bs) = b) (weak_eq [] [(0, 7)] (SgG1 ps bs f 0) (by simp (maxSteps:=500000) only [↓vp, vv, ↓reduceIte, simprocAttr, coverS, SgG1, SgB, SgH, Cnd.row]) (by simp (maxSteps:=500000) only [↓vp, vv, ↓reduceIte, simprocAttr, refsF, SgG1, SgB, SgH, Cnd.row]) (by simp (maxSteps:=500000) only [↓vp, vv, ↓reduceIte, simprocAttr, SgG1, SgB, SgH, Cnd.row]) (by simp) (by simp (maxSteps:=500000) only [↓vp, vv, ↓reduceIte, simprocAttr, SgG1, SgB, SgH, Cnd.row]; try rfl)) hb (fun j hj hP => ?_) (fun hP => ?_)
  · have hj' : (j : Int) < f.length := by omega
    have w1 := idx_next (j := j) (by omega)
    have g1 := pc_get hj
    obtain ⟨n1, n2⟩ := any_drop hj hP
    obtain ⟨⟨p0, p1⟩, _⟩ := pcBad_o (hf.2 j hj)
    have hu : unkB ps bs (pcA f j) = (decide ((bs.length : Int) ≤ (pcA f j).ba) || (decide ((btA bs (pcA f j).ba.toNat).pr < 0) || decide ((ps.length : Int) ≤ (btA bs (pcA f j).ba.toNat).pr))) := rfl
    generalize pcA f j = p at g1 n1 n2 p0 p1 hu
    cases c1 : decide ((bs.length : Int) ≤ p.ba) with
    | true =>
      have := n1 (by rw [hu, c1]; rfl)
      subst this
      simp (maxSteps:=500000) only [↓vp, vv, ↓reduceIte, simprocAttr, c45, r45, c45_1, c45_10, c45_11, c45_12, c45_2, c45_3, c45_4, c45_5, c45_6, c45_7, c45_8, c45_9, r45, SgU, SgG1, SgB, SgH, Cnd.row, hj', hj, g1, Int.toNat_natCast, idx_nn, c1, e0, ie, Pu]
    | false =>
    have q1 : p.ba < (bs.length : Int) := by have := of_decide_eq_false c1; omega
    have q2 : p.ba.toNat < bs.length := by omega
    have g2 := bt_get q2
    generalize btA bs p.ba.toNat = t at g2 hu
    cases c2 : decide (t.pr < 0) with
    | true =>
      have := n1 (by rw [hu, c1, c2]; rfl)
      subst this
      simp (maxSteps:=500000) only [↓vp, vv, ↓reduceIte, simprocAttr, c45, r45, c45_1, c45_10, c45_11, c45_12, c45_2, c45_3, c45_4, c45_5, c45_6, c45_7, c45_8, c45_9, r45, SgU, SgG1, SgB, SgH, Cnd.row, hj', hj, g1, g2, p0, q1, q2, Int.toNat_natCast, idx_nn, c1, c2, e0, ie, Pu]
    | false =>
    cases c3 : decide ((ps.length : Int) ≤ t.pr) with
    | true =>
      have := n1 (by rw [hu, c1, c2, c3]; rfl)
      subst this
      simp (maxSteps:=500000) only [↓vp, vv, ↓reduceIte, simprocAttr, c45, r45, c45_1, c45_10, c45_11, c45_12, c45_2, c45_3, c45_4, c45_5, c45_6, c45_7, c45_8, c45_9, r45, SgU, SgG1, SgB, SgH, Cnd.row, hj', hj, g1, g2, p0, q1, q2, Int.toNat_natCast, idx_nn, c1, c2, c3, e0, ie, Pu]
    | false =>
      have nx := n2 (by rw [hu, c1, c2, c3]; rfl)
      simp (maxSteps:=500000) only [↓vp, vv, ↓reduceIte, simprocAttr, c45, r45, c45_1, c45_10, c45_11, c45_12, c45_2, c45_3, c45_4, c45_5, c45_6, c45_7, c45_8, c45_9, r45, SgU, SgG1, SgB, SgH, Cnd.row, hj', hj, g1, g2, p0, q1, q2, Int.toNat_natCast, idx_nn, c1, c2, c3]
      refine rng_next hj ?_ nx
      exact (weak_eq [] [(0, 7)] (SgG1 ps bs f ((j + 1 : Nat) : Int)) (by simp (maxSteps:=500000) only [↓vp, vv, ↓reduceIte, simprocAttr, coverS, SgG1, SgB, SgH, Cnd.row, w1]) (by simp (maxSteps:=500000) only [↓vp, vv, ↓reduceIte, simprocAttr, refsF, SgG1, SgB, SgH, Cnd.row, w1]) (by simp (maxSteps:=500000) only [↓vp, vv, ↓reduceIte, simprocAttr, SgG1, SgB, SgH, Cnd.row, w1]) (by simp) (by simp (maxSteps:=500000) only [↓vp, vv, ↓reduceIte, simprocAttr, SgG1, SgB, SgH, Cnd.row, w1]; try rfl))
  · rw [List.drop_of_length_le (Nat.le_refl _)] at hP
    have : b = false := hP.symm
    subst this
    have hin : ∀ j, j < f.length → unkB ps bs (pcA f j) = false := fun j hj => by
      have := List.any_eq_false.1 hb (pcA f j) (by rw [← pc_at hj]; exact List.getElem_mem hj)
      simpa using this
    simp (maxSteps:=500000) only [↓vp, vv, ↓reduceIte, simprocAttr, c45, r45, c45_1, c45_10, c45_11, c45_12, c45_2, c45_3, c45_4, c45_5, c45_6, c45_7, c45_8, c45_9, SgU, SgG1, SgB, SgH, Cnd.row, Int.lt_irrefl]
    refine rng_loopP f.length (fun j (s : Int) => ⟨fr (SgG2 ps bs f s (j : Nat)), SgH c⟩) (fun j s => segGo ps bs c (f.drop j) s = X) (u0 := 0) (weak_eq [] [(0, 7)] (SgG2 ps bs f 0 0) (by simp (maxSteps:=500000) only [↓vp, vv, ↓reduceIte, simprocAttr, coverS, SgG2, SgB, SgH, Cnd.row]) (by simp (maxSteps:=500000) only [↓vp, vv, ↓reduceIte, simprocAttr, refsF, SgG2, SgB, SgH, Cnd.row]) (by simp (maxSteps:=500000) only [↓vp, vv, ↓reduceIte, simprocAttr, SgG2, SgB, SgH, Cnd.row]) (by simp) (by simp (maxSteps:=500000) only [↓vp, vv, ↓reduceIte, simprocAttr, SgG2, SgB, SgH, Cnd.row]; try rfl)) hX (fun j hj s hP => ?_) (fun s hP => ?_)
    · have y1 : True := trivial
      have y2 : True := trivial
      have hj' : (j : Int) < f.length := by omega
      have w1 := idx_next (j := j) (by omega)
      have g1 := pc_get hj
      have hu := hin j hj
      obtain ⟨⟨p0, p1⟩, _⟩ := pcBad_o (hf.2 j hj)
      rw [pc_drop hj, segGo] at hP
      generalize pcA f j = p at g1 hu p0 p1 hP
      unfold unkB at hu
      simp only [Bool.or_eq_false_iff, decide_eq_false_iff_not] at hu
      obtain ⟨u1, u2, u3⟩ := hu
      have q1 : p.ba < (bs.length : Int) := by omega
      have q2 : p.ba.toNat < bs.length := by omega
      have g2 := bt_get q2
      have hv : segV ps bs c p = if (facI (pdA ps (btA bs p.ba.toNat).pr.toNat) c).2 = 0 then stdI p.vo (facI (pdA ps (btA bs p.ba.toNat).pr.toNat) c).1 else (0, (facI (pdA ps (btA bs p.ba.toNat).pr.toNat) c).2) := rfl
      generalize btA bs p.ba.toNat = t at g2 hv u2 u3
      have r0 : 0 ≤ t.pr := by omega
      have r1 : t.pr < (ps.length : Int) := by omega
      have r2 : t.pr.toNat < ps.length := by omega
      have g3 := pd_get r2
      generalize pdA ps t.pr.toNat = z at g3 hv
      cases d1 : ((facI z c).2 != 0) with
      | true =>
        rw [if_neg (neq_b d1)] at hv
        rw [hv, if_neg (neq_b d1)] at hP
        simp (maxSteps:=500000) only [↓vp, vv, ↓reduceIte, simprocAttr, c45, r45, c45_1, c45_10, c45_11, c45_12, c45_2, c45_3, c45_4, c45_5, c45_6, c45_7, c45_8, c45_9, r45, SgU, SgG2, SgB, SgH2, SgH, selFa, selSd, selX, decPC, decII, tt, prdOf_x, cndOf_x, Cnd.row, Prd.row, ie, y1, y2, hj', hj, g1, g2, g3, p0, q1, q2, r0, r1, r2, Int.toNat_natCast, idx_nn, d1, e0, ← hP, Pu]
      | false =>
      have k1 := eq_b d1
      rw [if_pos k1] at hv
      rw [hv] at hP
      cases d2 : ((stdI p.vo (facI z c).1).2 != 0) with
      | true =>
        rw [if_neg (neq_b d2)] at hP
        simp (maxSteps:=500000) only [↓vp, vv, ↓reduceIte, simprocAttr, c45, r45, c45_1, c45_10, c45_11, c45_12, c45_2, c45_3, c45_4, c45_5, c45_6, c45_7, c45_8, c45_9, r45, SgU, SgG2, SgB, SgH2, SgH, selFa, selSd, selX, decPC, decII, tt, prdOf_x, cndOf_x, Cnd.row, Prd.row, ie, y1, y2, hj', hj, g1, g2, g3, p0, q1, q2, r0, r1, r2, Int.toNat_natCast, idx_nn, k1, d2, e0, ← hP, Pu]
      | false =>
        have k2 := eq_b d2
        rw [if_pos k2] at hP
        generalize hq : (stdI p.vo (facI z c).1).1 = v at hP
        simp (maxSteps:=500000) only [↓vp, vv, ↓reduceIte, simprocAttr, c45, r45, c45_1, c45_10, c45_11, c45_12, c45_2, c45_3, c45_4, c45_5, c45_6, c45_7, c45_8, c45_9, r45, SgU, SgG2, SgB, SgH2, SgH, selFa, selSd, selX, decPC, decII, tt, prdOf_x, cndOf_x, Cnd.row, Prd.row, ie, y1, y2, hj', hj, g1, g2, g3, p0, q1, q2, r0, r1, r2, Int.toNat_natCast, idx_nn, k1, k2, hq]
        refine rng_nextP hj (IntKind.i64.wrap (s + v)) ?_ hP
        exact (weak_eq [] [(0, 7)] (SgG2 ps bs f (IntKind.i64.wrap (s + v)) ((j + 1 : Nat) : Int)) (by simp (maxSteps:=500000) only [↓vp, vv, ↓reduceIte, simprocAttr, coverS, SgG2, SgB, SgH, Cnd.row, w1]) (by simp (maxSteps:=500000) only [↓vp, vv, ↓reduceIte, simprocAttr, refsF, SgG2, SgB, SgH, Cnd.row, w1]) (by simp (maxSteps:=500000) only [↓vp, vv, ↓reduceIte, simprocAttr, SgG2, SgB, SgH, Cnd.row, w1]) (by simp) (by simp (maxSteps:=500000) only [↓vp, vv, ↓reduceIte, simprocAttr, SgG2, SgB, SgH, Cnd.row, w1]; try rfl))
    · rw [List.drop_of_length_le (Nat.le_refl _), segGo] at hP
      simp (maxSteps:=500000) only [↓vp, vv, ↓reduceIte, simprocAttr, c45, r45, c45_1, c45_10, c45_11, c45_12, c45_2, c45_3, c45_4, c45_5, c45_6, c45_7, c45_8, c45_9, r45, SgU, SgG2, SgB, SgH, Cnd.row, Int.lt_irrefl, e0, ← hP, ie, Pu]
structure SgA where
  ps : List Prd
  bs : List Bat
  f : List Pce
  c : Cnd
def decSg : List D → Option SgA
  | [.sl x, .sl y, .sl z, .agg w] => match prdsOf x, btsOf y, pcsOf z, cndOf w with
    | some a, some b, some c, some d => some ⟨a, b, c, d⟩
    | _, _, _, _ => Option.none
  | _ => Option.none
theorem decSg_eq : ∀ l a, decSg l = some a → l = [.sl (a.ps.map Prd.row), .sl (a.bs.map Bat.row), .sl (a.f.map Pce.row), a.c.enc] := fun l a h => by
  unfold decSg at h
  split at h
  · split at h
    · rename_i e1 e2 e3 e4; cases h; rw [prdsOf_eq e1, btsOf_eq e2, pcsOf_eq e3, cndOf_eq e4]; rfl
    · cases h
  · cases h
def SgOk (a : SgA) : Prop := SgPre a.ps a.bs a.f
def selSg := selX decSg SgOk fun a => ie (segI a.ps a.bs a.f a.c)
theorem tc_sg {T : Tbl} (hT : TblOk Tryd.prog T) : TblOk Tryd.prog (tc 34 (rowPu selSg) T) := tc_x f34_ok decSg_eq (fun a h nn => pseg_c _ _ _ _ h nn) hT
theorem tc_rsg {T : Tbl} (hT : TblOk Tryd.prog T) : TblOk Tryd.prog (tc 45 (rowPu selSg) T) := tc_x f45_ok decSg_eq (fun a h nn => rseg_c _ _ _ _ h nn) hT
def decI2 : List D → Option (List Int × List Int)
  | [.sl x, .sl y] => match intsOf x, intsOf y with
    | some a, some b => some (a, b)
    | _, _ => Option.none
  | _ => Option.none
theorem decI2_eq : ∀ l a, decI2 l = some a → l = [.sl (a.1.map iR), .sl (a.2.map iR)] := fun l a h => by
  unfold decI2 at h
  split at h
  · split at h
    · rename_i e e'; cases h; rw [intsOf_eqR e, intsOf_eqR e']
    · cases h
  · cases h
def Sc2 (a : List Int × List Int) : Prop := SecPre a.1 a.2
def selSc := selX decI2 Sc2 fun a => ie (secI a.1 a.2)
theorem tc_sc {T : Tbl} (hT : TblOk Tryd.prog T) : TblOk Tryd.prog (tc 37 (rowPu selSc) T) := tc_x f37_ok decI2_eq (fun a h nn => psec_c _ _ h nn) hT
def ChgT : Tbl := tc 37 (rowPu selSc) T0
theorem ChgT_ok : TblOk Tryd.prog ChgT := tc_sc (T0_ok _)
structure ChgPre (a b s : List Int) : Prop where
  a : SecPre a s
  b : SecPre b s
set_option maxHeartbeats 4000000 in
theorem pchg_c (a b s : List Int) (h : ChgPre a b s) (nn : Nm) : CallsA Tryd.prog 38 [.sl (a.map iR), .sl (b.map iR), .sl (s.map iR)] Hp.none nn (Pu (ie (chgI a b s)) Hp.none) := by
  obtain ⟨code, h1, h2⟩ := c38_ok
  refine callsA_of ChgT_ok mixed (N := fun t => (0, t)) Tryd.func38 h1 h2 r38_ok [] false js_nil js_nil' (by simp [Tryd.f38]) ?_
  have p1 : Sc2 (a, s) := h.a
  have p2 : Sc2 (b, s) := h.b
  have e0 : chgI a b s = if (secI a s).2 = 0 then (if (secI b s).2 = 0 then (IntKind.i64.wrap ((secI b s).1 - (secI a s).1), 0) else (0, (secI b s).2)) else (0, (secI a s).2) := rfl
  cases c1 : ((secI a s).2 != 0) with
  | true =>
    rw [if_neg (neq_b c1)] at e0
    simp (maxSteps:=500000) only [↓vp, vv, ↓reduceIte, simprocAttr, c38, r38, c38_1, c38_2, r38, ChgT, selSc, selX, decI2, intsOf_iR, p1, p2, c1, e0, ie, Pu]
  | false =>
  have k1 := eq_b c1
  rw [if_pos k1] at e0
  cases c2 : ((secI b s).2 != 0) with
  | true =>
    rw [if_neg (neq_b c2)] at e0
    simp (maxSteps:=500000) only [↓vp, vv, ↓reduceIte, simprocAttr, c38, r38, c38_1, c38_2, r38, ChgT, selSc, selX, decI2, intsOf_iR, p1, p2, k1, c2, e0, ie, Pu]
  | false =>
    have k2 := eq_b c2
    rw [if_pos k2] at e0
    simp (maxSteps:=500000) only [↓vp, vv, ↓reduceIte, simprocAttr, c38, r38, c38_1, c38_2, r38, ChgT, selSc, selX, decI2, intsOf_iR, p1, p2, k1, k2, e0, ie, Pu]
def decI3 : List D → Option (List Int × List Int × List Int)
  | [.sl x, .sl y, .sl z] => match intsOf x, intsOf y, intsOf z with
    | some a, some b, some c => some (a, b, c)
    | _, _, _ => Option.none
  | _ => Option.none
theorem decI3_eq : ∀ l a, decI3 l = some a → l = [.sl (a.1.map iR), .sl (a.2.1.map iR), .sl (a.2.2.map iR)] := fun l a h => by
  unfold decI3 at h
  split at h
  · split at h
    · rename_i e e' e''; cases h; rw [intsOf_eqR e, intsOf_eqR e', intsOf_eqR e'']
    · cases h
  · cases h
def Ch3 (a : List Int × List Int × List Int) : Prop := ChgPre a.1 a.2.1 a.2.2
def selCg := selX decI3 Ch3 fun a => ie (chgI a.1 a.2.1 a.2.2)
theorem tc_cg {T : Tbl} (hT : TblOk Tryd.prog T) : TblOk Tryd.prog (tc 38 (rowPu selCg) T) := tc_x f38_ok decI3_eq (fun a h nn => pchg_c _ _ _ h nn) hT
def AwT : Tbl := tc 34 (rowPu selSg) (tc 38 (rowPu selCg) T0)
theorem AwT_ok : TblOk Tryd.prog AwT := tc_sg (tc_cg (T0_ok _))
set_option maxHeartbeats 4000000 in
theorem awake33_c (nn : Nm) : CallsA Tryd.prog 28 [] Hp.none nn (Pu (db true) Hp.none) := by
  obtain ⟨code, h1, h2⟩ := c28_ok
  refine callsA_of AwT_ok mixed (N := fun t => (0, t)) Tryd.func28 h1 h2 r28_ok [] false js_nil js_nil' (by simp [Tryd.f28]) ?_
  have d1 : prdsOf [[ds ⟨#[112]⟩, di 800, di 800, di 0, di 1000]] = some [⟨⟨#[112]⟩, 800, 800, 0, 1000⟩] := rfl
  have d2 : btsOf [[di 0, ds ⟨#[115]⟩, di 0, di 0]] = some [⟨0, ⟨#[115]⟩, 0, 0⟩] := rfl
  have d3 : pcsOf [[di 0, di 100]] = some [⟨0, 100⟩] := rfl
  have d4 : cndOf [di 150, di 0] = some ⟨150, 0⟩ := rfl
  have d5 : intsOf [[di 5], [di 7]] = some [5, 7] := rfl
  have d6 : intsOf [[di 6], [di 9]] = some [6, 9] := rfl
  have d7 : intsOf [[di 1]] = some [1] := rfl
  have o1 : SgOk ⟨[⟨⟨#[112]⟩, 800, 800, 0, 1000⟩], [⟨0, ⟨#[115]⟩, 0, 0⟩], [⟨0, 100⟩], ⟨150, 0⟩⟩ := ⟨by simp, by simp, by simp⟩
  have o2 : Ch3 ([5, 7], [6, 9], [1]) := ⟨⟨by simp, by simp, by unfold InI; simp⟩, ⟨by simp, by simp, by unfold InI; simp⟩⟩
  have v1 : segI [⟨⟨#[112]⟩, 800, 800, 0, 1000⟩] [⟨0, ⟨#[115]⟩, 0, 0⟩] [⟨0, 100⟩] ⟨150, 0⟩ = (100, 0) := by decide +kernel
  have v2 : chgI [5, 7] [6, 9] [1] = (2, 0) := by decide +kernel
  simp (maxSteps:=500000) only [↓vp, vv, ↓reduceIte, simprocAttr, c28, r28, r28, AwT, selSg, selCg, selX, decSg, decI3, d1, d2, d3, d4, d5, d6, d7, o1, o2, v1, v2, ie, Pu]
theorem AllI.map {α β : Type} {P : Nat → β → Prop} {Q : Nat → α → Prop} {l : List α} (f : α → β) (h : AllI Q l) (hq : ∀ j x, Q j x → P j (f x)) : AllI P (l.map f) := fun j y hj => by
  rw [List.getElem?_map] at hj
  cases hx : l[j]? with
  | none => rw [hx] at hj; cases hj
  | some x => rw [hx] at hj; cases hj; exact hq j x (h j x hx)
structure Pln where
  rates : List Int
  ports : List Int
  pumps : List Bool
def bRow (b : Bool) : List D := [db b]
def plnD (p : Pln) : List D := [.sl (p.rates.map iRow), .sl (p.ports.map iRow), .sl (p.pumps.map bRow)]
def Pln.enc (p : Pln) : D := .agg (plnD p)
def blk (th : List Bool) (k : Nat) (x : Seg × Int) : Bool := if (x.2 == 0) = true then false else if ((if x.2 < 0 then x.1.fr else x.1.to) == (k : Int)) = true then !(th.getD (if x.2 < 0 then x.1.to else x.1.fr).toNat false) else false
def pickB (E : List (Seg × Int)) (th : List Bool) (k : Nat) : Bool := if th.getD k true = true then false else !(E.any (blk th k))
def cntF (th : List Bool) : Nat := th.count false
def ordL (E : List (Seg × Int)) : Nat → List Bool → List Nat → List Nat
  | 0, _, out => out
  | m + 1, th, out => match (List.range th.length).find? (pickB E th) with
    | some k => ordL E m (th.set k true) (out ++ [k])
    | none => out
def ordB (n : Net) (p : Pln) : List Nat := ordL (n.segs.zip p.rates) n.nodes.length (List.replicate n.nodes.length false) []
theorem cntF_set : ∀ (th : List Bool) (k : Nat), th[k]? = some false → cntF (th.set k true) + 1 = cntF th
  | b :: th, 0, h => by simp at h; subst h; simp [cntF]
  | b :: th, k + 1, h => by
    have := cntF_set th k (by simpa using h)
    cases b <;> simp [cntF] at this ⊢ <;> omega
theorem getD_none {th : List Bool} {k : Nat} (h : th.getD k true = false) : th[k]? = some false := by
  rw [List.getD_eq_getElem?_getD] at h
  cases e : th[k]? with
  | none => rw [e] at h; cases h
  | some b => rw [e] at h; exact congrArg some h
theorem ord_pick {E : List (Seg × Int)} {th : List Bool} {out : List Nat} {k : Nat} (h0 : ∀ j, j < k → pickB E th j = false) (hk : pickB E th k = true) : ordL E (cntF th) th out = ordL E (cntF (th.set k true)) (th.set k true) (out ++ [k]) := by
  have hg : th.getD k true = false := by
    unfold pickB at hk
    split at hk
    · cases hk
    · rename_i h; simpa using h
  have hs := getD_none hg
  have hc := cntF_set th k hs
  have hkl : k < th.length := by
    rcases Nat.lt_or_ge k th.length with h | h
    · exact h
    · rw [List.getElem?_eq_none h] at hs; cases hs
  have hf : (List.range th.length).find? (pickB E th) = some k := by
    rw [List.find?_range_eq_some]
    exact ⟨hk, by simpa using hkl, fun j hj => by rw [h0 j hj]; rfl⟩
  rw [← hc, ordL, hf]
def frOf (x : Seg × Int) : Int := if x.2 < 0 then x.1.to else x.1.fr
def toOf (x : Seg × Int) : Int := if x.2 < 0 then x.1.fr else x.1.to
theorem blk_eq (th : List Bool) (k : Nat) (x : Seg × Int) : blk th k x = true ↔ x.2 ≠ 0 ∧ toOf x = k ∧ th.getD (frOf x).toNat false = false := by
  unfold blk
  by_cases h : x.2 = 0
  · rw [if_pos (beq_iff_eq.2 h)]
    simp [h]
  · rw [if_neg (fun e => h (beq_iff_eq.1 e))]
    by_cases h2 : toOf x = (k : Int)
    · have h3 : ((if x.2 < 0 then x.1.fr else x.1.to) == (k : Int)) = true := beq_iff_eq.2 h2
      rw [if_pos h3]
      simp [h, h2, frOf]
    · have h3 : ¬ ((if x.2 < 0 then x.1.fr else x.1.to) == (k : Int)) = true := fun e => h2 (beq_iff_eq.1 e)
      rw [if_neg h3]
      simp [h2]
theorem pick_iff (E : List (Seg × Int)) (th : List Bool) (k : Nat) : pickB E th k = true ↔ th.getD k true = false ∧ ∀ x ∈ E, x.2 ≠ 0 → toOf x = k → th.getD (frOf x).toNat false = true := by
  unfold pickB
  split
  · rename_i h; simp at h ⊢; simp [h]
  · rename_i h
    constructor
    · intro ha
      refine ⟨by simpa using h, fun x hx h1 h2 => ?_⟩
      cases h3 : th.getD (frOf x).toNat false with
      | true => rfl
      | false =>
        have := List.any_eq_true.2 ⟨x, hx, (blk_eq th k x).2 ⟨h1, h2, h3⟩⟩
        rw [this] at ha
        cases ha
    · rintro ⟨h1, h2⟩
      have : E.any (blk th k) = false := by
        rw [List.any_eq_false]
        intro x hx hb
        obtain ⟨b1, b2, b3⟩ := (blk_eq th k x).1 hb
        rw [h2 x hx b1 b2] at b3
        cases b3
      rw [this]
      rfl
structure OrdInv (E : List (Seg × Int)) (N : Nat) (th : List Bool) (out : List Nat) : Prop where
  len : th.length = N
  mem : ∀ j, th.getD j false = true ↔ j ∈ out
  nd : out.Nodup
  cnt : cntF th + out.length = N
  good : ∀ q k : Nat, out[q]? = some k → ∀ x ∈ E, x.2 ≠ 0 → toOf x = (k : Int) → ∃ q' k' : Nat, q' < q ∧ out[q']? = some k' ∧ frOf x = (k' : Int)
def EdgeIn (E : List (Seg × Int)) (N : Nat) : Prop := ∀ x ∈ E, (0 ≤ x.1.fr ∧ x.1.fr < N) ∧ 0 ≤ x.1.to ∧ x.1.to < N
theorem fr_in {E : List (Seg × Int)} {N : Nat} (h : EdgeIn E N) {x : Seg × Int} (hx : x ∈ E) : 0 ≤ frOf x ∧ frOf x < N := by
  have := h x hx
  unfold frOf
  split <;> omega
theorem OrdInv.lt {E : List (Seg × Int)} {N : Nat} {th : List Bool} {out : List Nat} (h : OrdInv E N th out) {j : Nat} (hj : j ∈ out) : j < N := by
  have := (h.mem j).2 hj
  rw [List.getD_eq_getElem?_getD] at this
  rcases Nat.lt_or_ge j th.length with h1 | h1
  · rw [← h.len]; exact h1
  · rw [List.getElem?_eq_none h1] at this; cases this
theorem OrdInv.step {E : List (Seg × Int)} {N : Nat} {th : List Bool} {out : List Nat} (h : OrdInv E N th out) (hE : EdgeIn E N) {k : Nat} (hk : pickB E th k = true) : OrdInv E N (th.set k true) (out ++ [k]) := by
  obtain ⟨h1, h2⟩ := (pick_iff E th k).1 hk
  have hs := getD_none h1
  have hkl : k < th.length := by
    rcases Nat.lt_or_ge k th.length with h | h
    · exact h
    · rw [List.getElem?_eq_none h] at hs; cases hs
  have hno : k ∉ out := fun hm => by
    have := (h.mem k).2 hm
    rw [List.getD_eq_getElem?_getD, hs] at this
    cases this
  refine ⟨by rw [List.length_set]; exact h.len, fun j => ?_, ?_, ?_, fun q j hj x hx hr ht => ?_⟩
  · rw [List.getD_eq_getElem?_getD, List.getElem?_set, List.mem_append, List.mem_singleton, ← h.mem j, List.getD_eq_getElem?_getD]
    by_cases e : k = j
    · subst e; simp [hkl]
    · simp [e, Ne.symm e]
  · rw [List.nodup_append]
    exact ⟨h.nd, by simp, fun a ha b hb => by rw [List.mem_singleton.1 hb]; exact fun e => hno (e ▸ ha)⟩
  · have := cntF_set th k hs
    have := h.cnt
    rw [List.length_append, List.length_singleton]
    omega
  · rcases Nat.lt_or_ge q out.length with hq | hq
    · rw [List.getElem?_append_left hq] at hj
      obtain ⟨q', k', a, b, c⟩ := h.good q j hj x hx hr ht
      exact ⟨q', k', a, by rw [List.getElem?_append_left (by omega)]; exact b, c⟩
    · have hj2 : j = k := by
        rw [List.getElem?_append_right hq] at hj
        cases e : q - out.length with
        | zero => rw [e] at hj; cases hj; rfl
        | succ => rw [e] at hj; simp at hj
      subst hj2
      have h3 := h2 x hx hr ht
      have h4 := (h.mem _).1 h3
      obtain ⟨q', hq'⟩ := List.getElem?_of_mem h4
      have hl : q' < out.length := by
        rcases Nat.lt_or_ge q' out.length with h | h
        · exact h
        · rw [List.getElem?_eq_none h] at hq'; cases hq'
      exact ⟨q', _, by omega, by rw [List.getElem?_append_left hl]; exact hq', by have := (fr_in hE hx).1; omega⟩
end Go.Proofs.YtehmmnnmkapfeaaDoor

/- Flow: ends, amounts. -/
/- Flow: ends, amounts. -/
namespace Go.Proofs.YtehmmnnmkapfeaaDoor
open Go
def zeros : List D := [di 0, di 0, di 0, di 0, di 0, di 0, di 0, di 0, di 0, di 0, di 0, di 0, di 0, di 0, di 0, di 0, di 0, di 0, di 0, di 0, di 0, di 0, di 0, di 0, di 0, di 0, di 0, di 0, di 0, di 0, di 0, di 0, di 0, di 0, di 0, di 0, di 0, di 0, di 0, di 0, di 0, di 0, di 0, di 0, di 0, di 0, di 0, di 0]
structure OI (n : Net) (p : Pln) (th : List Bool) (out : List Nat) (k : Nat) : Prop where
  tl : th.length = n.nodes.length
  kl : k ≤ n.nodes.length
  cnt : cntF th + out.length = n.nodes.length
  res : ordL (n.segs.zip p.rates) (cntF th) th out = ordB n p
  no : ∀ j, j < k → pickB (n.segs.zip p.rates) th j = false
theorem OI.skip {n : Net} {p : Pln} {th : List Bool} {out : List Nat} {k : Nat} (h : OI n p th out k) (hk : k < n.nodes.length) (hp : pickB (n.segs.zip p.rates) th k = false) : OI n p th out (k + 1) :=
  ⟨h.tl, hk, h.cnt, h.res, fun j hj => by
    rcases Nat.lt_or_ge j k with h1 | h1
    · exact h.no j h1
    · obtain rfl : j = k := by omega
      exact hp⟩
theorem OI.pick {n : Net} {p : Pln} {th : List Bool} {out : List Nat} {k : Nat} (h : OI n p th out k) (hp : pickB (n.segs.zip p.rates) th k = true) : OI n p (th.set k true) (out ++ [k]) 0 ∧ cntF (th.set k true) + 1 = cntF th := by
  have hs := getD_none ((pick_iff _ th k).1 hp).1
  have hc := cntF_set th k hs
  refine ⟨⟨by rw [List.length_set]; exact h.tl, Nat.zero_le _, ?_, ?_, fun j hj => absurd hj (Nat.not_lt_zero j)⟩, hc⟩
  · have := h.cnt
    rw [List.length_append, List.length_singleton]
    omega
  · rw [← h.res]
    exact (ord_pick h.no hp).symm
def most (s : Seg) : Int := if s.cap < 1000 then s.cap else 1000
end Go.Proofs.YtehmmnnmkapfeaaDoor
