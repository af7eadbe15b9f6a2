/- PackMoves: Ti1 NkOk Fl1 Fl2 CodeF Fw1 Ti2. -/
import Derived.Test.YtehmmnnmkapfeaaDoorKv12
import Derived.Test.YtehmmnnmkapfeaaDoorKv9
import Derived.Test.YtehmmnnmkapfeaaDoorKv3
import Derived.Test.YtehmmnnmkapfeaaDoorProg
set_option linter.unusedSimpArgs false
set_option linter.unusedVariables false
set_option maxRecDepth 100000

/- Pieces in the reference: joined, split, turned, shifted. -/
namespace Go.Proofs.YtehmmnnmkapfeaaDoor
open Go
def jn1 (out : List Pce) (p : Pce) : List Pce :=
 if (p.vo == 0) = true then out else if (decide (0 < out.length) && ((pcA out (out.length - 1)).ba == p.ba)) = true then out.set (out.length - 1) ⟨(pcA out (out.length - 1)).ba, IntKind.i64.wrap ((pcA out (out.length - 1)).vo + p.vo)⟩ else out ++ [p]
def joined (l : List Pce) : List Pce := l.foldl jn1 []
theorem pce_ref (js : List Nm) (x : Pce) : refsInL js x.row = true := rfl
theorem pcs_pl (x : Pce) : (∀ d, d ∈ x.row → d.plain = true) = True := by unfold Pce.row; simp only [List.forall_mem_cons, forall_nil, plain_v, and_self]
def JoF (l : List Pce) (g : Nat) (out : List Pce) (j : Int) : List (Nat × D) := [(3, .own (0, 15) g 0 out.length), (6, .sl (l.map Pce.row)), (7, di l.length), (8, di j)]
def JoH (g : Nat) (out : List Pce) : Hp := Hp.none.put (0, 15) ⟨g, 2, out.map Pce.row⟩
set_option maxHeartbeats 8000000 in
theorem joined_c (l : List Pce) (hl : l.length ≤ 1000000) (nn : Nm) : CallsA Tryd.prog 86 [.sl (l.map Pce.row)] Hp.none nn (Pu (.sl ((joined l).map Pce.row)) Hp.none) := by
 obtain ⟨code, h1, h2⟩ := c86_ok
 refine callsA_of (T0_ok _) mixed (N := fun t => (0, t)) Tryd.func86 h1 h2 r86_ok [] false js_nil js_nil' (by simp [Tryd.f86]) ?_
 generalize hX : joined l = X
 simp (maxSteps:=500000) only [↓vp, vv, ↓reduceIte, simprocAttr, c86, r86, c86_1, c86_2, c86_3, c86_4]
 refine rng_loopP l.length (fun j (u : Nat × List Pce) => ⟨fr (JoF l u.1 u.2 (j : Nat)), JoH u.1 u.2⟩) (fun j u => (l.drop j).foldl jn1 u.2 = X ∧ u.2.length ≤ j) (u0 := (0, [])) ((weak_own 3 (0, 15) 2 (by simp only [↓vp, vv, ↓reduceIte, simprocAttr, ]) (by simp only [↓vp, vv, ↓reduceIte, simprocAttr, ])).trans (weak_eqA [] [(0, 15)] (JoF l 0 [] 0) (by refine ⟨?_, ?_, ?_, by simp, ?_⟩ <;> (simp only [↓vp, vv, ↓reduceIte, simprocAttr, coverS, refsF, pce_ref, JoF, JoH] <;> try rfl)))) ⟨hX, Nat.le_refl _⟩ (fun j hj u hP => ?_) (fun u hP => ?_)
 ·obtain ⟨g, out⟩ := u
  obtain ⟨hP, ho⟩ := hP
  dsimp only at hP ho
  have hj' : (j : Int) < l.length := by omega
  have w1 := idx_next (j := j) (by omega)
  have g1 := pc_get hj
  rw [pc_drop hj, List.foldl_cons] at hP
  have y1 : (out.length + 1) * 16 ≤ 140737488355328 := by omega
  have y2 : out.length + 1 ≤ 4611686018427387904 := by omega
  generalize pcA l j = p at g1 hP
  cases c1 : (p.vo == 0) with
  | true =>
   have e : jn1 out p = out := by unfold jn1; rw [if_pos c1]
   rw [e] at hP
   simp (maxSteps:=500000) only [↓vp, vv, ↓reduceIte, simprocAttr, c86, r86, c86_1, c86_2, c86_3, c86_4, JoF, JoH, hj, hj', g1, Int.toNat_natCast, idx_nn, c1]
   refine rng_nextP hj (g, out) ?_ ⟨hP, by dsimp only; omega⟩
   exact (weak_eqA [] [(0, 15)] (JoF l g out ((j + 1 : Nat) : Int)) (by refine ⟨?_, ?_, ?_, by simp, ?_⟩ <;> (simp only [↓vp, vv, ↓reduceIte, simprocAttr, coverS, refsF, pce_ref, JoF, JoH, w1] <;> try rfl)))
  | false =>
   by_cases z : out.length = 0
   ·have z0 : out = [] := List.length_eq_zero_iff.1 z
    subst z0
    have e : jn1 [] p = [p] := by unfold jn1; rw [c1]; rfl
    rw [e] at hP
    simp (maxSteps:=500000) only [↓vp, vv, ↓reduceIte, simprocAttr, c86, r86, c86_1, c86_2, c86_3, c86_4, JoF, JoH, hj, hj', g1, Int.toNat_natCast, idx_nn, c1, Int.lt_irrefl]
    refine rng_nextP hj (g + 1, [p]) ?_ ⟨hP, by simp⟩
    exact (weak_eqA [] [(0, 15)] (JoF l (g + 1) [p] ((j + 1 : Nat) : Int)) (by refine ⟨?_, ?_, ?_, by simp, ?_⟩ <;> (simp only [↓vp, vv, ↓reduceIte, simprocAttr, coverS, refsF, pce_ref, JoF, JoH, Pce.row, w1] <;> try rfl)))
   ·have z1 : decide ((0 : Int) < (out.length : Int)) = true := decide_eq_true (by omega)
    have z2 : decide (0 < out.length) = true := decide_eq_true (by omega)
    have w2 : IntKind.i64.wrap ((out.length : Int) - 1) = ((out.length - 1 : Nat) : Int) := by rw [wrap_i (by omega)]; omega
    have hp : out.length - 1 < out.length := by omega
    have hp' : ((out.length - 1 : Nat) : Int) < out.length := by omega
    have g2 := pc_get hp
    have e : jn1 out p = if ((pcA out (out.length - 1)).ba == p.ba) = true then out.set (out.length - 1) ⟨(pcA out (out.length - 1)).ba, IntKind.i64.wrap ((pcA out (out.length - 1)).vo + p.vo)⟩ else out ++ [p] := by
     unfold jn1
     rw [c1, z2, Bool.true_and]
     rfl
    rw [e] at hP
    have em : ∀ q : Pce, (out.map Pce.row).set (out.length - 1) [di q.ba, di q.vo] = (out.set (out.length - 1) q).map Pce.row := fun q => List.map_set.symm
    generalize pcA out (out.length - 1) = q at g2 hP
    cases c2 : (q.ba == p.ba) with
    | true =>
     rw [if_pos c2] at hP
     have em := em ⟨q.ba, IntKind.i64.wrap (q.vo + p.vo)⟩
     simp (maxSteps:=500000) only [↓vp, vv, ↓reduceIte, simprocAttr, c86, r86, c86_1, c86_2, c86_3, c86_4, JoF, JoH, hj, hj', g1, g2, hp, hp', z1, w2, Int.toNat_natCast, idx_nn, c1, c2]
     refine rng_nextP hj (g, out.set (out.length - 1) ⟨q.ba, IntKind.i64.wrap (q.vo + p.vo)⟩) ?_ ⟨hP, by dsimp only; rw [List.length_set]; omega⟩
     exact (weak_eqA [] [(0, 15)] (JoF l g (out.set (out.length - 1) ⟨q.ba, IntKind.i64.wrap (q.vo + p.vo)⟩) ((j + 1 : Nat) : Int)) (by refine ⟨?_, ?_, ?_, by simp, ?_⟩ <;> (simp only [↓vp, vv, ↓reduceIte, simprocAttr, coverS, refsF, pce_ref, JoF, JoH, List.length_set, w1, em] <;> try rfl)))
    | false =>
     rw [if_neg (by rw [c2]; decide)] at hP
     simp (maxSteps:=500000) only [↓vp, vv, ↓reduceIte, simprocAttr, c86, r86, c86_1, c86_2, c86_3, c86_4, JoF, JoH, hj, hj', g1, g2, hp, hp', z1, w2, y1, y2, Int.toNat_natCast, idx_nn, c1, c2]
     refine rng_nextP hj (g + 1, out ++ [p]) ?_ ⟨hP, by simp; omega⟩
     exact (weak_eqA [] [(0, 15)] (JoF l (g + 1) (out ++ [p]) ((j + 1 : Nat) : Int)) (by refine ⟨?_, ?_, ?_, by simp, ?_⟩ <;> (simp only [↓vp, vv, ↓reduceIte, simprocAttr, coverS, refsF, pce_ref, JoF, JoH, List.map_append, Pce.row, w1] <;> try rfl)))
 ·obtain ⟨g, out⟩ := u
  obtain ⟨hP, ho⟩ := hP
  rw [List.drop_of_length_le (Nat.le_refl _), List.foldl_nil] at hP
  dsimp only at hP
  subst hP
  simp (maxSteps:=500000) only [↓vp, vv, ↓reduceIte, simprocAttr, c86, r86, c86_1, c86_2, c86_3, c86_4, r86, Int.lt_irrefl, JoF, JoH, pcs_pl, Pu]
def selJo := selX decPf PfOk fun a => .sl ((joined a).map Pce.row)
theorem tc_jo {T : Tbl} (hT : TblOk Tryd.prog T) : TblOk Tryd.prog (tc 86 (rowPu selJo) T) := tc_x f86_ok decPf_eq (fun a h nn => joined_c _ h nn) hT
def spl : List Pce → Int → List Pce × List Pce
 | [], _ => ([], [])
 | p :: l, n => let k := if p.vo < n then p.vo else n
  let r := spl l (IntKind.i64.wrap (n - k))
  (⟨p.ba, k⟩ :: r.1, ⟨p.ba, IntKind.i64.wrap (p.vo - k)⟩ :: r.2)
def SpF (l : List Pce) (n : Int) (g : Nat) (a b : List Pce) (j : Int) : List (Nat × D) := [(1, di n), (6, .own (0, 30) g 0 a.length), (7, .own (0, 40) g 0 b.length), (11, .sl (l.map Pce.row)), (12, di l.length), (13, di j)]
def SpH (g : Nat) (a b : List Pce) : Hp := (Hp.none.put (0, 40) ⟨g, 2, b.map Pce.row⟩).put (0, 30) ⟨g, 2, a.map Pce.row⟩
def SpP (l : List Pce) (X : D) (j : Nat) (u : Int × List Pce × List Pce) : Prop := X = .tup [.sl ((joined (u.2.1 ++ (spl (l.drop j) u.1).1)).map Pce.row), .sl ((joined (u.2.2 ++ (spl (l.drop j) u.1).2)).map Pce.row)] ∧ u.2.1.length = j ∧ u.2.2.length = j
def SpT : Tbl := tc 86 (rowPu selJo) T0
theorem SpT_ok : TblOk Tryd.prog SpT := tc_jo (T0_ok _)
def splR (l : List Pce) (n : Int) : D := .tup [.sl ((joined (spl l n).1).map Pce.row), .sl ((joined (spl l n).2).map Pce.row)]
set_option maxHeartbeats 8000000 in
theorem split_c (l : List Pce) (n : Int) (hl : l.length ≤ 1000000) (nn : Nm) : CallsA Tryd.prog 126 [.sl (l.map Pce.row), di n] Hp.none nn (Pu (splR l n) Hp.none) := by
 obtain ⟨code, h1, h2⟩ := c126_ok
 refine callsA_of SpT_ok mixed (N := fun t => (0, t)) Tryd.func126 h1 h2 r126_ok [] false js_nil js_nil' (by simp [Tryd.f126]) ?_
 generalize hX : splR l n = X
 have hX' : splR l n = .tup [.sl ((joined ([] ++ (spl l n).1)).map Pce.row), .sl ((joined ([] ++ (spl l n).2)).map Pce.row)] := rfl
 rw [hX] at hX'
 simp (maxSteps:=500000) only [↓vp, vv, ↓reduceIte, simprocAttr, c126, r126, c126_1, c126_2, c126_3, SpT]
 refine rng_loopP l.length (fun j (u : Int × List Pce × List Pce) => ⟨fr (SpF l u.1 j u.2.1 u.2.2 (j : Nat)), SpH j u.2.1 u.2.2⟩) (SpP l X) (u0 := (n, [], [])) (((weak_own 6 (0, 30) 2 (by simp only [↓vp, vv, ↓reduceIte, simprocAttr, ]) (by simp only [↓vp, vv, ↓reduceIte, simprocAttr, ])).trans (weak_own 7 (0, 40) 2 (by simp only [↓vp, vv, ↓reduceIte, simprocAttr, ]) (by simp only [↓vp, vv, ↓reduceIte, simprocAttr, ]))).trans (weak_eqA [] [(0, 30), (0, 40)] (SpF l n 0 [] [] 0) (by refine ⟨?_, ?_, ?_, by simp, ?_⟩ <;> (simp only [↓vp, vv, ↓reduceIte, simprocAttr, coverS, refsF, pce_ref, SpF, SpH] <;> try rfl)))) ⟨hX', rfl, rfl⟩ (fun j hj u hP => ?_) (fun u hP => ?_)
 ·obtain ⟨m, a, b⟩ := u
  obtain ⟨hP, ha, hb⟩ := hP
  dsimp only at hP ha hb
  have hj' : (j : Int) < l.length := by omega
  have w1 := idx_next (j := j) (by omega)
  have g1 := pc_get hj
  rw [pc_drop hj, spl] at hP
  have y1 : (j + 1) * 16 ≤ 140737488355328 := by omega
  have y2 : j + 1 ≤ 4611686018427387904 := by omega
  generalize pcA l j = p at g1 hP
  generalize hk : (if p.vo < m then p.vo else m) = k at hP
  dsimp only at hP
  simp (maxSteps:=500000) only [↓vp, vv, ↓reduceIte, simprocAttr, c126, r126, c126_1, c126_2, c126_3, SpT, SpF, SpH, hj, hj', g1, y1, y2, ha, hb, hk, Int.toNat_natCast, idx_nn]
  refine rng_nextP hj (IntKind.i64.wrap (m - k), a ++ [Pce.mk p.ba k], b ++ [Pce.mk p.ba (IntKind.i64.wrap (p.vo - k))]) ?_ ⟨by rw [hP]; dsimp only; rw [List.append_assoc, List.append_assoc, List.singleton_append, List.singleton_append], by simp [ha], by simp [hb]⟩
  exact (weak_eqA [] [(0, 30), (0, 40)] (SpF l (IntKind.i64.wrap (m - k)) (j + 1) (a ++ [Pce.mk p.ba k]) (b ++ [Pce.mk p.ba (IntKind.i64.wrap (p.vo - k))]) ((j + 1 : Nat) : Int)) (by refine ⟨?_, ?_, ?_, by simp, ?_⟩ <;> (simp only [↓vp, vv, ↓reduceIte, simprocAttr, coverS, refsF, pce_ref, ha, hb, hk, SpF, SpH, List.map_append, Pce.row, w1] <;> try rfl)))
 ·obtain ⟨m, a, b⟩ := u
  obtain ⟨hP, ha, hb⟩ := hP
  dsimp only at hP ha hb
  rw [List.drop_of_length_le (Nat.le_refl _), spl, List.append_nil, List.append_nil] at hP
  have pa : PfOk a := by unfold PfOk; omega
  have pb : PfOk b := by unfold PfOk; omega
  simp (maxSteps:=500000) only [↓vp, vv, ↓reduceIte, simprocAttr, c126, r126, c126_1, c126_2, c126_3, r126, SpT, selJo, selX, decPf, pcsOf_map, pa, pb, Int.lt_irrefl, SpF, SpH, pcs_pl, hP, Pu]
def decPfI : List D → Option (List Pce × Int)
 | [.sl x, .v (.int .i64 n)] => (pcsOf x).map fun l => (l, n)
 | _ => Option.none
theorem decPfI_eq : ∀ l a, decPfI l = some a → l = [.sl (a.1.map Pce.row), di a.2] := fun l a h => by
 unfold decPfI at h
 split at h
 ·obtain ⟨b, hb, rfl⟩ := Option.map_eq_some_iff.1 h
  rw [pcsOf_eq hb]
 ·cases h
def PsiOk (a : List Pce × Int) : Prop := a.1.length ≤ 1000000
def selSpl := selX decPfI PsiOk fun a => splR a.1 a.2
theorem tc_spl {T : Tbl} (hT : TblOk Tryd.prog T) : TblOk Tryd.prog (tc 126 (rowPu selSpl) T) := tc_x f126_ok decPfI_eq (fun a h nn => split_c _ _ h nn) hT
def TuF (l : List Pce) (g : Nat) (out : List Pce) (j : Int) : List (Nat × D) := [(0, .sl (l.map Pce.row)), (3, .own (0, 18) g 0 out.length), (4, di j)]
def TuH (g : Nat) (out : List Pce) : Hp := Hp.none.put (0, 18) ⟨g, 2, out.map Pce.row⟩
set_option maxHeartbeats 8000000 in
theorem turned_c (l : List Pce) (hl : l.length ≤ 1000000) (nn : Nm) : CallsA Tryd.prog 88 [.sl (l.map Pce.row)] Hp.none nn (Pu (.sl (l.reverse.map Pce.row)) Hp.none) := by
 obtain ⟨code, h1, h2⟩ := c88_ok
 refine callsA_of (T0_ok _) mixed (N := fun t => (0, t)) Tryd.func88 h1 h2 r88_ok [] false js_nil js_nil' (by simp [Tryd.f88]) ?_
 have w0 : IntKind.i64.wrap ((l.length : Int) - 1) = (l.length : Int) - 1 - ((0 : Nat) : Int) := by rw [wrap_i (by omega)]; omega
 simp (maxSteps:=500000) only [↓vp, vv, ↓reduceIte, simprocAttr, c88, r88, c88_1, c88_2, c88_3]
 refine rng_loopP l.length (fun j (u : List Pce) => ⟨fr (TuF l j u ((l.length : Int) - 1 - (j : Nat))), TuH j u⟩) (fun j u => u = l.reverse.take j ∧ u.length = j) (u0 := []) ((weak_own 3 (0, 18) 2 (by simp only [↓vp, vv, ↓reduceIte, simprocAttr, ]) (by simp only [↓vp, vv, ↓reduceIte, simprocAttr, ])).trans (weak_eqA [] [(0, 18)] (TuF l 0 [] ((l.length : Int) - 1 - ((0 : Nat) : Int))) (by refine ⟨?_, ?_, ?_, by simp, ?_⟩ <;> (simp only [↓vp, vv, ↓reduceIte, simprocAttr, coverS, refsF, pce_ref, TuF, TuH, w0] <;> try rfl)))) ⟨rfl, rfl⟩ (fun j hj u hP => ?_) (fun u hP => ?_)
 ·obtain ⟨hP, ha⟩ := hP
  have q0 : (0 : Int) ≤ (l.length : Int) - 1 - (j : Int) := by omega
  have q1 : (l.length : Int) - 1 - (j : Int) < l.length := by omega
  have q2 : ((l.length : Int) - 1 - (j : Int)).toNat = l.length - 1 - j := by omega
  have q3 : l.length - 1 - j < l.length := by omega
  have w1 : IntKind.i64.wrap ((l.length : Int) - 1 - (j : Int) - 1) = (l.length : Int) - 1 - ((j + 1 : Nat) : Int) := by rw [wrap_i (by omega)]; omega
  have g1 := pc_get q3
  have y1 : (j + 1) * 16 ≤ 140737488355328 := by omega
  have y2 : j + 1 ≤ 4611686018427387904 := by omega
  have nx : u ++ [pcA l (l.length - 1 - j)] = l.reverse.take (j + 1) := by
   rw [hP, List.take_add_one, List.getElem?_reverse (by omega), List.getElem?_eq_getElem q3, ← pc_at q3]
   rfl
  generalize pcA l (l.length - 1 - j) = p at g1 nx
  simp (maxSteps:=500000) only [↓vp, vv, ↓reduceIte, simprocAttr, c88, r88, c88_1, c88_2, c88_3, TuF, TuH, hj, q0, q1, q2, q3, g1, ha, y1, y2]
  refine rng_nextP hj (u ++ [p]) ?_ ⟨nx, by simp [ha]⟩
  exact (weak_eqA [] [(0, 18)] (TuF l (j + 1) (u ++ [p]) ((l.length : Int) - 1 - ((j + 1 : Nat) : Int))) (by refine ⟨?_, ?_, ?_, by simp, ?_⟩ <;> (simp only [↓vp, vv, ↓reduceIte, simprocAttr, coverS, refsF, pce_ref, ha, TuF, TuH, List.map_append, Pce.row, w1] <;> try rfl)))
 ·obtain ⟨hP, ha⟩ := hP
  have e : u = l.reverse := by rw [hP]; exact List.take_of_length_le (by simp)
  subst e
  have q0 : ¬ (0 : Int) ≤ (l.length : Int) - 1 - ((l.length : Nat) : Int) := by omega
  simp (maxSteps:=500000) only [↓vp, vv, ↓reduceIte, simprocAttr, c88, r88, c88_1, c88_2, c88_3, r88, q0, TuF, TuH, pcs_pl, Pu]
def selTu := selX decPf PfOk fun a => .sl (a.reverse.map Pce.row)
theorem tc_tu {T : Tbl} (hT : TblOk Tryd.prog T) : TblOk Tryd.prog (tc 88 (rowPu selTu) T) := tc_x f88_ok decPf_eq (fun a h nn => turned_c _ h nn) hT
def shiftL (f i : List Pce) (back : Bool) : List Pce × List Pce :=
 if back = true then (joined (spl (f ++ i) (volW i 0)).2, joined (spl (f ++ i) (volW i 0)).1) else (joined (spl (i ++ f) (volW f 0)).1, joined (spl (i ++ f) (volW f 0)).2)
def ShT : Tbl := tc 126 (rowPu selSpl) (tc 71 (rowPu selTo) T0)
theorem ShT_ok : TblOk Tryd.prog ShT := tc_spl (tc_rsu (T0_ok _))
set_option maxHeartbeats 8000000 in
theorem shift_c (f i : List Pce) (b : Bool) (hf : f.length ≤ 500000) (hi : i.length ≤ 500000) (nn : Nm) : CallsA Tryd.prog 89 [.sl (f.map Pce.row), .sl (i.map Pce.row), db b] Hp.none nn (Pu (.tup [.sl ((shiftL f i b).1.map Pce.row), .sl ((shiftL f i b).2.map Pce.row)]) Hp.none) := by
 obtain ⟨code, h1, h2⟩ := c89_ok
 refine callsA_of ShT_ok mixed (N := fun t => (0, t)) Tryd.func89 h1 h2 r89_ok [] false js_nil js_nil' (by simp [Tryd.f89]) ?_
 have pf : PfOk f := by unfold PfOk; omega
 have pi : PfOk i := by unfold PfOk; omega
 have e1 : f.map Pce.row ++ i.map Pce.row = (f ++ i).map Pce.row := List.map_append.symm
 have e2 : i.map Pce.row ++ f.map Pce.row = (i ++ f).map Pce.row := List.map_append.symm
 have p1 : ∀ n, PsiOk (f ++ i, n) := fun n => by unfold PsiOk; simp; omega
 have p2 : ∀ n, PsiOk (i ++ f, n) := fun n => by unfold PsiOk; simp; omega
 have y1 : f.length * 16 ≤ 140737488355328 := by omega
 have y2 : f.length ≤ 4611686018427387904 := by omega
 have y3 : i.length * 16 ≤ 140737488355328 := by omega
 have y4 : i.length ≤ 4611686018427387904 := by omega
 have y5 : (f.length + i.length) * 16 ≤ 140737488355328 := by omega
 have y6 : f.length + i.length ≤ 4611686018427387904 := by omega
 have y7 : (i.length + f.length) * 16 ≤ 140737488355328 := by omega
 have y8 : i.length + f.length ≤ 4611686018427387904 := by omega
 have rl : ∀ x : Pce, x.row.length = 2 := fun _ => rfl
 have t1 : ((f ++ i).map Pce.row).take (f.length + i.length) = (f ++ i).map Pce.row := List.take_of_length_le (by simp)
 have t2 : ((i ++ f).map Pce.row).take (i.length + f.length) = (i ++ f).map Pce.row := List.take_of_length_le (by simp)
 cases b with
 | true => simp (maxSteps:=500000) only [↓vp, vv, ↓reduceIte, simprocAttr, c89, r89, c89_1, r89, ShT, selSpl, selTo, selX, decPf, decPfI, pcsOf_map, Option.map_some, rl, splR, shiftL, pf, pi, e1, t1, p1, y1, y2, y3, y4, y5, y6, pcs_pl, Pu]
 | false => simp (maxSteps:=500000) only [↓vp, vv, ↓reduceIte, simprocAttr, c89, r89, c89_1, r89, ShT, selSpl, selTo, selX, decPf, decPfI, pcsOf_map, Option.map_some, rl, splR, shiftL, pf, pi, e2, t2, p2, y1, y2, y3, y4, y7, y8, pcs_pl, Pu]
def decShf : List D → Option (List Pce × List Pce × Bool)
 | [.sl x, .sl y, .v (.bool b)] => (pcsOf x).bind fun l => (pcsOf y).map fun m => (l, m, b)
 | _ => Option.none
theorem decShf_eq : ∀ l a, decShf l = some a → l = [.sl (a.1.map Pce.row), .sl (a.2.1.map Pce.row), db a.2.2] := fun l a h => by
 unfold decShf at h
 split at h
 ·obtain ⟨b, hb, h⟩ := Option.bind_eq_some_iff.1 h
  obtain ⟨c, hc, rfl⟩ := Option.map_eq_some_iff.1 h
  rw [pcsOf_eq hb, pcsOf_eq hc]
 ·cases h
def ShOk (a : List Pce × List Pce × Bool) : Prop := a.1.length ≤ 500000 ∧ a.2.1.length ≤ 500000
def selShf := selX decShf ShOk fun a => .tup [.sl ((shiftL a.1 a.2.1 a.2.2).1.map Pce.row), .sl ((shiftL a.1 a.2.1 a.2.2).2.map Pce.row)]
theorem tc_shf {T : Tbl} (hT : TblOk Tryd.prog T) : TblOk Tryd.prog (tc 89 (rowPu selShf) T) := tc_x f89_ok decShf_eq (fun a h nn => shift_c _ _ _ h.1 h.2 nn) hT
theorem net_sz {n : Net} (h : NetOk n) : NetSz n := by
 have h1 := h.nlen
 have h2 := h.slen
 have h3 := h.ports.len
 have h4 := h.sts.len
 refine ⟨by omega, by omega, by omega, by omega, fun s hs => ?_⟩
 obtain ⟨j, a, b, _, _, _, hk, _⟩ := h.segs.mem hs
 have := hk.len
 omega
theorem nm_two (c : UInt8) (j : Nat) (h : j < 26) : nm1B ⟨#[c]⟩ (j : Int) = ⟨#[c, UInt8.ofNat (97 + j)]⟩ := by
 have e : (j : Int).tmod 26 = j := by rw [Int.tmod_eq_emod_of_nonneg (by omega)]; omega
 have e2 : IntKind.i64.wrap (97 + (j : Int)) = 97 + j := wrap_i (by omega)
 have e3 : IntKind.u8.wrap (97 + (j : Int)) = 97 + j := by
  simp [IntKind.wrap, IntKind.signed, IntKind.bits]
  omega
 unfold nm1B
 rw [e, e2, e3]
 have e4 : (97 + (j : Int)).toNat = 97 + j := by omega
 simp only [strOf, List.foldl_cons, List.foldl_nil, e4]
 rfl
theorem toList_two (a b : UInt8) : (ByteArray.mk #[a, b]).toList = [a, b] := by rw [ba_toList]
theorem nm_ne (c : UInt8) (i j : Nat) (hi : i < 26) (hj : j < 26) (h : i ≠ j) : eqS (nm1B ⟨#[c]⟩ (i : Int)) (nm1B ⟨#[c]⟩ (j : Int)) = false := by
 rw [nm_two c i hi, nm_two c j hj]
 unfold eqS
 rw [toList_two, toList_two]
 refine beq_false_of_ne fun e => h ?_
 simp at e
 have := congrArg UInt8.toNat e
 simp at this
 omega
theorem nm_good : ∀ c ∈ [(110 : UInt8), 103, 113, 115], ∀ j, j < 26 → nameB ⟨#[c, UInt8.ofNat (97 + j)]⟩ = true := by decide
theorem dup_nm (c : UInt8) {l : List ByteArray} (h : AllI (fun j s => s = nm1B ⟨#[c]⟩ (j : Int)) l) (hl : l.length ≤ 26) : dupB eqS l = false := by
 unfold dupB
 rw [List.any_eq_false]
 intro i hi
 have hi : i < l.length := List.mem_range.1 hi
 rw [dup_at hi]
 refine fun hc => ?_
 rw [List.any_eq_true] at hc
 obtain ⟨y, hy, he⟩ := hc
 obtain ⟨k, hk⟩ := List.getElem?_of_mem hy
 have hkl : k < (l.take i).length := by
  rcases Nat.lt_or_ge k (l.take i).length with h | h
  ·exact h
  ·rw [List.getElem?_eq_none h] at hk; cases hk
 rw [List.length_take] at hkl
 rw [List.getElem?_take_of_lt (by omega)] at hk
 rw [h k y hk, h i l[i] (List.getElem?_eq_getElem hi), nm_ne c i k (by omega) (by omega) (by omega)] at he
 cases he
theorem form_nm (c : UInt8) (hc : c ∈ [(110 : UInt8), 103, 113, 115]) {l : List ByteArray} (h : AllI (fun j s => s = nm1B ⟨#[c]⟩ (j : Int)) l) (hl : l.length ≤ 26) : l.any nmBad = false := by
 rw [List.any_eq_false]
 intro s hs hb
 obtain ⟨j, hj⟩ := List.getElem?_of_mem hs
 have hjl : j < l.length := by
  rcases Nat.lt_or_ge j l.length with h | h
  ·exact h
  ·rw [List.getElem?_eq_none h] at hj; cases hj
 rw [h j s hj, nm_two c j (by omega)] at hb
 unfold nmBad at hb
 rw [nm_good c hc j (by omega)] at hb
 cases hb
theorem AllI.map {α β : Type} {P : Nat → β → Prop} {Q : Nat → α → Prop} {l : List α} (f : α → β) (h : AllI Q l) (hq : ∀ j x, Q j x → P j (f x)) : AllI P (l.map f) := fun j y hj => by
 rw [List.getElem?_map] at hj
 cases hx : l[j]? with
 | none => rw [hx] at hj; cases hj
 | some x => rw [hx] at hj; cases hj; exact hq j x (h j x hx)
theorem inB_t {a b c : Int} (h1 : b ≤ a) (h2 : a ≤ c) : inB a b c = true := by unfold inB; rw [if_pos (decide_eq_true h1)]; exact decide_eq_true h2
theorem pair_lt {α : Type} {R : α → α → Prop} {l : List α} (h : l.Pairwise R) {i j : Nat} (hij : i < j) (hj : j < l.length) : R (l[i]'(by omega)) l[j] := List.pairwise_iff_getElem.1 h i j (by omega) hj hij
theorem head_at {α : Type} {l : List α} (h : 0 < l.length) (d : α) : l.head? = some (l.getD 0 d) := by
 cases l with
 | nil => cases h
 | cons => rfl
theorem last_at {α : Type} {l : List α} (h : 0 < l.length) (d : α) : l.getLast? = some (l.getD (l.length - 1) d) := by
 rw [List.getLast?_eq_getElem?, List.getD_eq_getElem?_getD, List.getElem?_eq_getElem (show l.length - 1 < l.length by omega)]
 rfl
theorem pipe_ok {k a b : Int} {s : Seg} (h : SegOk k a b s) (hab : a < b) : pipeB s = true := by
 have hc := h.cap
 have hr := h.res
 have hw := h.wav
 have hl := h.len
 have e0 : (s.fr == s.to) = false := beq_false_of_ne (by rcases h.ends with ⟨h1, h2⟩ | ⟨h1, h2⟩ <;> omega)
 have e1 : (List.range s.points.length).any (ptBad s.points) = false := by
  rw [List.any_eq_false]
  intro i hi
  have hi : i < s.points.length := List.mem_range.1 hi
  obtain ⟨a1, a2, a3, a4⟩ := h.pts.le _ (List.getElem_mem hi)
  rw [pt_at hi, if_pos (inB_t a1 a2), if_pos (inB_t a3 a4)]
  by_cases h0 : 0 < i
  ·rw [if_pos h0]
   have := pair_lt h.pts.asc (show i - 1 < i by omega) hi
   rw [getD_lt (show i - 1 < s.points.length by omega)]
   simp
   omega
  ·rw [if_neg h0]; simp
 have e2 : (s.points.getD 0 ⟨0, 0, 0⟩).at' = 0 := by
  have := h.pts.hd
  rw [head_at (show 0 < s.points.length by omega) ⟨0, 0, 0⟩] at this
  simpa using this
 have e3 : (s.points.getD (s.points.length - 1) ⟨0, 0, 0⟩).at' = s.cap := by
  have := h.pts.last
  rw [last_at (show 0 < s.points.length by omega) ⟨0, 0, 0⟩] at this
  simpa using this
 unfold pipeB
 rw [e0, inB_t hc.1 (by omega), inB_t hr.1 hr.2, inB_t hw.1 hw.2, e1, e2, e3]
 simp
theorem check_ok {n : Net} (h : NetOk n) : checkI n = 0 := by
 have h1 := h.nlen
 have h2 := h.slen
 have h3 := h.ports.len
 have h4 := h.sts.len
 have l1 : limB n = true := by
  have : n.segs.any ptsBad = false := by
   rw [List.any_eq_false]
   intro s hs
   obtain ⟨j, a, b, _, _, _, hk, _⟩ := h.segs.mem hs
   have := hk.len
   unfold ptsBad
   rw [if_neg (by simp; omega)]
   simp
   omega
  unfold limB
  rw [if_neg (by omega), if_neg (by omega), if_neg (by omega), if_neg (by omega), if_neg (by omega), this]
  rfl
 have n1 : AllI (fun j s => s = nm1B ⟨#[110]⟩ (j : Int)) n.nodes := h.nodes
 have n2 : AllI (fun j s => s = nm1B ⟨#[103]⟩ (j : Int)) (n.segs.map (·.name)) := h.segs.map _ fun j x hx => by
  obtain ⟨a, b, _, _, _, hk, _⟩ := hx
  exact hk.name
 have n3 : AllI (fun j s => s = nm1B ⟨#[113]⟩ (j : Int)) (n.ports.map (·.name)) := h.ports.all.map _ fun j x hx => hx.1
 have n4 : AllI (fun j s => s = nm1B ⟨#[115]⟩ (j : Int)) (n.sts.map (·.name)) := h.sts.all.map _ fun j x hx => hx.1
 have f1 : formBad n = false := by
  unfold formBad nms4
  simp only [List.any_cons, List.any_nil]
  rw [form_nm 110 (by decide) n1 (by omega), form_nm 103 (by decide) n2 (by rw [List.length_map]; omega), form_nm 113 (by decide) n3 (by rw [List.length_map]; omega), form_nm 115 (by decide) n4 (by rw [List.length_map]; omega)]
  rfl
 have t1 : twB n = false := by
  have hd : [n.nodes, n.segs.map (·.name), n.ports.map (·.name), n.sts.map (·.name)].any (dupB eqS) = false := by
   simp only [List.any_cons, List.any_nil]
   rw [dup_nm 110 n1 (by omega), dup_nm 103 n2 (by rw [List.length_map]; omega), dup_nm 113 n3 (by rw [List.length_map]; omega), dup_nm 115 n4 (by rw [List.length_map]; omega)]
   rfl
  unfold twB nms4
  rw [if_neg (by rw [hd]; simp)]
  unfold dupB
  rw [List.any_eq_false]
  intro i hi
  have hi : i < n.sts.length := List.mem_range.1 hi
  rw [dup_at hi]
  refine fun hc => ?_
  rw [List.any_eq_true] at hc
  obtain ⟨y, hy, he⟩ := hc
  obtain ⟨k, hk⟩ := List.getElem?_of_mem hy
  have hkl : k < (n.sts.take i).length := by
   rcases Nat.lt_or_ge k (n.sts.take i).length with h | h
   ·exact h
   ·rw [List.getElem?_eq_none h] at hk; cases hk
  rw [List.length_take] at hkl
  rw [List.getElem?_take_of_lt (by omega), List.getElem?_eq_getElem (by omega)] at hk
  cases hk
  have := pair_lt h.sts.asc (show k < i by omega) hi
  have := beq_iff_eq.1 he
  omega
 have k1 : knB n = true := by
  have : (allIx n).any (unk n) = false := by
   rw [List.any_eq_false]
   intro k hk
   have key : 0 ≤ k ∧ k < n.nodes.length := by
    unfold allIx at hk
    rcases List.mem_append.1 hk with hk | hk
    ·rcases List.mem_append.1 hk with hk | hk
     ·obtain ⟨s, hs, hk⟩ := List.mem_flatMap.1 hk
      obtain ⟨j, a, b, x1, x2, x3, hx, _⟩ := h.segs.mem hs
      have hk : k = s.fr ∨ k = s.to := by simpa [endsOf] using hk
      rcases hx.ends with ⟨e1, e2⟩ | ⟨e1, e2⟩ <;> omega
     ·obtain ⟨s, hs, hk⟩ := List.mem_map.1 hk
      obtain ⟨j, a, b, c, _⟩ := h.ports.all.mem hs
      omega
    ·obtain ⟨s, hs, hk⟩ := List.mem_map.1 hk
     obtain ⟨j, a, b, c, _⟩ := h.sts.all.mem hs
     omega
   unfold unk
   rw [if_neg (by simp; omega)]
   simp
   omega
  unfold knB
  rw [this]
  rfl
 have p1 : prB n = true := by
  have a1 : n.segs.any segBad = false := by
   rw [List.any_eq_false]
   intro s hs
   obtain ⟨j, a, b, _, hab, _, hk, _⟩ := h.segs.mem hs
   unfold segBad
   rw [pipe_ok hk hab]
   simp
  have a2 : n.ports.any portBad = false := by
   rw [List.any_eq_false]
   intro s hs
   obtain ⟨j, _, _, _, h1, h2⟩ := h.ports.all.mem hs
   unfold portBad
   rw [inB_t h1 h2]
   simp
  have a3 : n.sts.any stnBad = false := by
   rw [List.any_eq_false]
   intro s hs
   obtain ⟨j, _, _, _, h1, h2, h3, h4, h5, h6⟩ := h.sts.all.mem hs
   unfold stnBad
   rw [inB_t h1 h2, inB_t h3 h4, inB_t h5 h6]
   simp
  have hv := h.vap
  have hs := h.set
  unfold prB
  rw [a1, a2, a3, inB_t hv.1 (by omega), inB_t hs.1 hs.2]
  simp
 unfold checkI
 rw [l1, f1, t1, k1, p1]
 rfl
structure Pln where
 rates : List Int
 ports : List Int
 pumps : List Bool
def bRow (b : Bool) : List D := [db b]
def plnD (p : Pln) : List D := [.sl (p.rates.map iRow), .sl (p.ports.map iRow), .sl (p.pumps.map bRow)]
def Pln.enc (p : Pln) : D := .agg (plnD p)
theorem intOf1_row (k : Int) : intOf1 (iRow k) = some k := rfl
theorem intOf1_eq {r : List D} {k : Int} (h : intOf1 r = some k) : r = iRow k := by
 unfold intOf1 at h
 split at h
 ·cases h; rfl
 ·cases h
def boolOf1 : List D → Option Bool
 | [.v (.bool b)] => some b
 | _ => Option.none
theorem boolOf1_row (b : Bool) : boolOf1 (bRow b) = some b := rfl
theorem boolOf1_eq {r : List D} {b : Bool} (h : boolOf1 r = some b) : r = bRow b := by
 unfold boolOf1 at h
 split at h
 ·cases h; rfl
 ·cases h
def plnOf1 : List D → Option Pln
 | [.sl a, .sl b, .sl c] => match lsOf intOf1 a, lsOf intOf1 b, lsOf boolOf1 c with
  | some x, some y, some z => some ⟨x, y, z⟩
  | _, _, _ => Option.none
 | _ => Option.none
theorem plnOf1_row (p : Pln) : plnOf1 (plnD p) = some p := by
 unfold plnD plnOf1
 simp only [lsOf_map intOf1_row, lsOf_map boolOf1_row]
theorem plnOf1_x (p : Pln) : plnOf1 [D.sl (p.rates.map iRow), .sl (p.ports.map iRow), .sl (p.pumps.map bRow)] = some p := plnOf1_row p
theorem plnOf1_eq {r : List D} {p : Pln} (h : plnOf1 r = some p) : r = plnD p := by
 unfold plnOf1 at h
 split at h
 ·split at h
  ·rename_i e1 e2 e3
   cases h
   rw [lsOf_eq (fun r x => intOf1_eq) e1, lsOf_eq (fun r x => intOf1_eq) e2, lsOf_eq (fun r x => boolOf1_eq) e3]
   rfl
  ·cases h
 ·cases h
def sumI {α : Type} (f : α → Int) : List α → Int
 | [] => 0
 | x :: l => f x + sumI f l
theorem sumI_app {α : Type} (f : α → Int) : ∀ (l m : List α), sumI f (l ++ m) = sumI f l + sumI f m
 | [], m => by simp [sumI]
 | x :: l, m => by rw [List.cons_append, sumI, sumI, sumI_app f l m]; omega
theorem sumI_snoc {α : Type} (f : α → Int) (l : List α) (x : α) : sumI f (l ++ [x]) = sumI f l + f x := by rw [sumI_app]; simp [sumI]
theorem sumI_sub {α : Type} (f g : α → Int) : ∀ (l : List α), sumI f l - sumI g l = sumI (fun x => f x - g x) l
 | [] => rfl
 | x :: l => by have := sumI_sub f g l; simp only [sumI]; omega
theorem sumI_congr {α : Type} {f g : α → Int} : ∀ {l : List α}, (∀ x ∈ l, f x = g x) → sumI f l = sumI g l
 | [], _ => rfl
 | x :: l, h => by rw [sumI, sumI, h x (List.mem_cons_self ..), sumI_congr fun y hy => h y (List.mem_cons_of_mem _ hy)]
theorem sumI_zero {α : Type} {f : α → Int} : ∀ {l : List α}, (∀ x ∈ l, f x = 0) → sumI f l = 0
 | [], _ => rfl
 | x :: l, h => by rw [sumI, h x (List.mem_cons_self ..), sumI_zero fun y hy => h y (List.mem_cons_of_mem _ hy)]; rfl
theorem sumI_nn {α : Type} {f : α → Int} : ∀ {l : List α}, (∀ x ∈ l, 0 ≤ f x) → 0 ≤ sumI f l
 | [], _ => by simp [sumI]
 | x :: l, h => by have a := h x (List.mem_cons_self ..); have b := sumI_nn fun y hy => h y (List.mem_cons_of_mem x hy); rw [sumI]; omega
theorem sumI_le {α : Type} {f : α → Int} (b : Int) : ∀ {l : List α}, (∀ x ∈ l, f x ≤ b) → sumI f l ≤ b * l.length
 | [], _ => by simp [sumI]
 | x :: l, h => by have a := h x (List.mem_cons_self ..); have c := sumI_le b fun y hy => h y (List.mem_cons_of_mem x hy); rw [sumI, List.length_cons, Int.natCast_add, Int.mul_add]; omega
theorem sumI_map {α β : Type} (f : β → Int) (g : α → β) : ∀ (l : List α), sumI f (l.map g) = sumI (fun x => f (g x)) l
 | [] => rfl
 | x :: l => by rw [List.map_cons, sumI, sumI, sumI_map f g l]
abbrev Fl := Int × Int × Int
def segFl (s : Seg) (r : Int) : Fl := (s.fr, s.to, r)
def portFl (x : Port) (r : Int) : Fl := (-1, x.node, r)
def flowsOf (n : Net) (p : Pln) : List Fl := List.zipWith segFl n.segs p.rates ++ List.zipWith portFl n.ports p.ports
def comeOf (v : Int) (t : Fl) : Int := if t.2.2 < 0 then (if t.1 = v then -t.2.2 else 0) else (if t.2.1 = v then t.2.2 else 0)
def leaveOf (v : Int) (t : Fl) : Int := if t.2.2 < 0 then (if t.2.1 = v then -t.2.2 else 0) else (if t.1 = v then t.2.2 else 0)
def netOf (v : Int) (t : Fl) : Int := (if t.2.1 = v then t.2.2 else 0) - (if t.1 = v then t.2.2 else 0)
theorem come_leave (v : Int) (t : Fl) : comeOf v t - leaveOf v t = netOf v t := by
 unfold comeOf leaveOf netOf
 split <;> split <;> split <;> omega
theorem come_nn (v : Int) (t : Fl) : 0 ≤ comeOf v t := by unfold comeOf; split <;> split <;> omega
theorem leave_nn (v : Int) (t : Fl) : 0 ≤ leaveOf v t := by unfold leaveOf; split <;> split <;> omega
theorem come_le {v : Int} {t : Fl} (h : -1000 ≤ t.2.2 ∧ t.2.2 ≤ 1000) : comeOf v t ≤ 1000 := by unfold comeOf; split <;> split <;> omega
theorem leave_le {v : Int} {t : Fl} (h : -1000 ≤ t.2.2 ∧ t.2.2 ≤ 1000) : leaveOf v t ≤ 1000 := by unfold leaveOf; split <;> split <;> omega
def amt (f : Int → Fl → Int) (T : List Fl) : List Int := (List.range 24).map fun v : Nat => sumI (f (v : Int)) T
def Bal (T : List Fl) : Prop := ∀ v : Nat, v < 24 → sumI (netOf (v : Int)) T = 0
theorem bal_iff (T : List Fl) : amt comeOf T = amt leaveOf T ↔ Bal T := by
 unfold amt Bal
 constructor
 ·intro h v hv
  have := congrArg (fun l => l[v]?) h
  simp [hv] at this
  have e := sumI_sub (comeOf v) (leaveOf v) T
  rw [sumI_congr fun t _ => come_leave v t] at e
  omega
 ·intro h
  refine List.map_congr_left fun v hv => ?_
  have := h v (List.mem_range.1 hv)
  have e := sumI_sub (comeOf v) (leaveOf v) T
  rw [sumI_congr fun t _ => come_leave v t] at e
  omega
def blk (th : List Bool) (k : Nat) (x : Seg × Int) : Bool := if (x.2 == 0) = true then false else if ((if x.2 < 0 then x.1.fr else x.1.to) == (k : Int)) = true then !(th.getD (if x.2 < 0 then x.1.to else x.1.fr).toNat false) else false
def pickB (E : List (Seg × Int)) (th : List Bool) (k : Nat) : Bool := if th.getD k true = true then false else !(E.any (blk th k))
def cntF (th : List Bool) : Nat := th.count false
def ordL (E : List (Seg × Int)) : Nat → List Bool → List Nat → List Nat
 | 0, _, out => out
 | m + 1, th, out => match (List.range th.length).find? (pickB E th) with
  | some k => ordL E m (th.set k true) (out ++ [k])
  | none => out
def ordB (n : Net) (p : Pln) : List Nat := ordL (n.segs.zip p.rates) n.nodes.length (List.replicate n.nodes.length false) []
theorem cntF_set : ∀ (th : List Bool) (k : Nat), th[k]? = some false → cntF (th.set k true) + 1 = cntF th
 | b :: th, 0, h => by simp at h; subst h; simp [cntF]
 | b :: th, k + 1, h => by
  have := cntF_set th k (by simpa using h)
  cases b <;> simp [cntF] at this ⊢ <;> omega
theorem getD_none {th : List Bool} {k : Nat} (h : th.getD k true = false) : th[k]? = some false := by
 rw [List.getD_eq_getElem?_getD] at h
 cases e : th[k]? with
 | none => rw [e] at h; cases h
 | some b => rw [e] at h; exact congrArg some h
theorem ord_pick {E : List (Seg × Int)} {th : List Bool} {out : List Nat} {k : Nat} (h0 : ∀ j, j < k → pickB E th j = false) (hk : pickB E th k = true) : ordL E (cntF th) th out = ordL E (cntF (th.set k true)) (th.set k true) (out ++ [k]) := by
 have hg : th.getD k true = false := by
  unfold pickB at hk
  split at hk
  ·cases hk
  ·rename_i h; simpa using h
 have hs := getD_none hg
 have hc := cntF_set th k hs
 have hkl : k < th.length := by
  rcases Nat.lt_or_ge k th.length with h | h
  ·exact h
  ·rw [List.getElem?_eq_none h] at hs; cases hs
 have hf : (List.range th.length).find? (pickB E th) = some k := by
  rw [List.find?_range_eq_some]
  exact ⟨hk, by simpa using hkl, fun j hj => by rw [h0 j hj]; rfl⟩
 rw [← hc, ordL, hf]
theorem ord_end {E : List (Seg × Int)} {th : List Bool} {out : List Nat} (h0 : ∀ j, j < th.length → pickB E th j = false) : ordL E (cntF th) th out = out := by
 have hf : (List.range th.length).find? (pickB E th) = none := by
  rw [List.find?_eq_none]
  intro j hj
  rw [h0 j (List.mem_range.1 hj)]
  simp
 cases cntF th with
 | zero => rfl
 | succ m => rw [ordL, hf]
def frOf (x : Seg × Int) : Int := if x.2 < 0 then x.1.to else x.1.fr
def toOf (x : Seg × Int) : Int := if x.2 < 0 then x.1.fr else x.1.to
theorem blk_eq (th : List Bool) (k : Nat) (x : Seg × Int) : blk th k x = true ↔ x.2 ≠ 0 ∧ toOf x = k ∧ th.getD (frOf x).toNat false = false := by
 unfold blk
 by_cases h : x.2 = 0
 ·rw [if_pos (beq_iff_eq.2 h)]
  simp [h]
 ·rw [if_neg (fun e => h (beq_iff_eq.1 e))]
  by_cases h2 : toOf x = (k : Int)
  ·have h3 : ((if x.2 < 0 then x.1.fr else x.1.to) == (k : Int)) = true := beq_iff_eq.2 h2
   rw [if_pos h3]
   simp [h, h2, frOf]
  ·have h3 : ¬ ((if x.2 < 0 then x.1.fr else x.1.to) == (k : Int)) = true := fun e => h2 (beq_iff_eq.1 e)
   rw [if_neg h3]
   simp [h2]
theorem pick_iff (E : List (Seg × Int)) (th : List Bool) (k : Nat) : pickB E th k = true ↔ th.getD k true = false ∧ ∀ x ∈ E, x.2 ≠ 0 → toOf x = k → th.getD (frOf x).toNat false = true := by
 unfold pickB
 split
 ·rename_i h; simp at h ⊢; simp [h]
 ·rename_i h
  constructor
  ·intro ha
   refine ⟨by simpa using h, fun x hx h1 h2 => ?_⟩
   cases h3 : th.getD (frOf x).toNat false with
   | true => rfl
   | false =>
    have := List.any_eq_true.2 ⟨x, hx, (blk_eq th k x).2 ⟨h1, h2, h3⟩⟩
    rw [this] at ha
    cases ha
  ·rintro ⟨h1, h2⟩
   have : E.any (blk th k) = false := by
    rw [List.any_eq_false]
    intro x hx hb
    obtain ⟨b1, b2, b3⟩ := (blk_eq th k x).1 hb
    rw [h2 x hx b1 b2] at b3
    cases b3
   rw [this]
   rfl
structure OrdInv (E : List (Seg × Int)) (N : Nat) (th : List Bool) (out : List Nat) : Prop where
 len : th.length = N
 mem : ∀ j, th.getD j false = true ↔ j ∈ out
 nd : out.Nodup
 cnt : cntF th + out.length = N
 good : ∀ q k : Nat, out[q]? = some k → ∀ x ∈ E, x.2 ≠ 0 → toOf x = (k : Int) → ∃ q' k' : Nat, q' < q ∧ out[q']? = some k' ∧ frOf x = (k' : Int)
def EdgeIn (E : List (Seg × Int)) (N : Nat) : Prop := ∀ x ∈ E, (0 ≤ x.1.fr ∧ x.1.fr < N) ∧ 0 ≤ x.1.to ∧ x.1.to < N
theorem fr_in {E : List (Seg × Int)} {N : Nat} (h : EdgeIn E N) {x : Seg × Int} (hx : x ∈ E) : 0 ≤ frOf x ∧ frOf x < N := by
 have := h x hx
 unfold frOf
 split <;> omega
theorem OrdInv.lt {E : List (Seg × Int)} {N : Nat} {th : List Bool} {out : List Nat} (h : OrdInv E N th out) {j : Nat} (hj : j ∈ out) : j < N := by
 have := (h.mem j).2 hj
 rw [List.getD_eq_getElem?_getD] at this
 rcases Nat.lt_or_ge j th.length with h1 | h1
 ·rw [← h.len]; exact h1
 ·rw [List.getElem?_eq_none h1] at this; cases this
theorem OrdInv.step {E : List (Seg × Int)} {N : Nat} {th : List Bool} {out : List Nat} (h : OrdInv E N th out) (hE : EdgeIn E N) {k : Nat} (hk : pickB E th k = true) : OrdInv E N (th.set k true) (out ++ [k]) := by
 obtain ⟨h1, h2⟩ := (pick_iff E th k).1 hk
 have hs := getD_none h1
 have hkl : k < th.length := by
  rcases Nat.lt_or_ge k th.length with h | h
  ·exact h
  ·rw [List.getElem?_eq_none h] at hs; cases hs
 have hno : k ∉ out := fun hm => by
  have := (h.mem k).2 hm
  rw [List.getD_eq_getElem?_getD, hs] at this
  cases this
 refine ⟨by rw [List.length_set]; exact h.len, fun j => ?_, ?_, ?_, fun q j hj x hx hr ht => ?_⟩
 ·rw [List.getD_eq_getElem?_getD, List.getElem?_set, List.mem_append, List.mem_singleton, ← h.mem j, List.getD_eq_getElem?_getD]
  by_cases e : k = j
  ·subst e; simp [hkl]
  ·simp [e, Ne.symm e]
 ·rw [List.nodup_append]
  exact ⟨h.nd, by simp, fun a ha b hb => by rw [List.mem_singleton.1 hb]; exact fun e => hno (e ▸ ha)⟩
 ·have := cntF_set th k hs
  have := h.cnt
  rw [List.length_append, List.length_singleton]
  omega
 ·rcases Nat.lt_or_ge q out.length with hq | hq
  ·rw [List.getElem?_append_left hq] at hj
   obtain ⟨q', k', a, b, c⟩ := h.good q j hj x hx hr ht
   exact ⟨q', k', a, by rw [List.getElem?_append_left (by omega)]; exact b, c⟩
  ·have hj2 : j = k := by
    rw [List.getElem?_append_right hq] at hj
    cases e : q - out.length with
    | zero => rw [e] at hj; cases hj; rfl
    | succ => rw [e] at hj; simp at hj
   subst hj2
   have h3 := h2 x hx hr ht
   have h4 := (h.mem _).1 h3
   obtain ⟨q', hq'⟩ := List.getElem?_of_mem h4
   have hl : q' < out.length := by
    rcases Nat.lt_or_ge q' out.length with h | h
    ·exact h
    ·rw [List.getElem?_eq_none h] at hq'; cases hq'
   exact ⟨q', _, by omega, by rw [List.getElem?_append_left hl]; exact hq', by have := (fr_in hE hx).1; omega⟩
theorem cntF_zero : ∀ {th : List Bool}, cntF th = 0 → ∀ j, th.getD j true = true
 | [], _, j => by simp
 | b :: th, h, 0 => by cases b <;> simp [cntF] at h ⊢
 | b :: th, h, j + 1 => by
  have := @cntF_zero th (by cases b <;> simp [cntF] at h ⊢; omega) j
  simpa using this
theorem ordL_inv {E : List (Seg × Int)} {N : Nat} (hE : EdgeIn E N) : ∀ (m : Nat) {th : List Bool} {out : List Nat}, cntF th = m → OrdInv E N th out → ∃ th', OrdInv E N th' (ordL E m th out) ∧ ∀ j, pickB E th' j = false
 | 0, th, out, hm, h => ⟨th, h, fun j => by unfold pickB; rw [cntF_zero hm j]; rfl⟩
 | m + 1, th, out, hm, h => by
  rw [ordL]
  cases hf : (List.range th.length).find? (pickB E th) with
  | none =>
   refine ⟨th, h, fun j => ?_⟩
   rcases Nat.lt_or_ge j th.length with h1 | h1
   ·have := List.find?_eq_none.1 hf j (List.mem_range.2 h1)
    simpa using this
   ·unfold pickB
    rw [List.getD_eq_getElem?_getD, List.getElem?_eq_none h1]
    rfl
  | some k =>
   have hk : pickB E th k = true := List.find?_some hf
   have hs := getD_none ((pick_iff E th k).1 hk).1
   have hc := cntF_set th k hs
   exact ordL_inv hE m (by omega) (h.step hE hk)
def UpOk (x : Seg × Int) : Prop := x.2 ≠ 0 → frOf x < toOf x
def DownOk (x : Seg × Int) : Prop := x.2 ≠ 0 → toOf x < frOf x
theorem init_inv (E : List (Seg × Int)) (N : Nat) : OrdInv E N (List.replicate N false) [] ∧ cntF (List.replicate N false) = N := by
 have hc : cntF (List.replicate N false) = N := by unfold cntF; rw [List.count_replicate_self]
 refine ⟨⟨List.length_replicate, fun j => ?_, List.nodup_nil, by rw [hc]; rfl, fun q k h => by simp at h⟩, hc⟩
 rw [List.getD_eq_getElem?_getD, List.getElem?_replicate]
 split <;> simp
theorem ord_inv {E : List (Seg × Int)} {N : Nat} (hE : EdgeIn E N) : ∃ th', OrdInv E N th' (ordL E N (List.replicate N false) []) ∧ ∀ j, pickB E th' j = false := by
 obtain ⟨h1, h2⟩ := init_inv E N
 exact ordL_inv hE N h2 h1
theorem ord_all {E : List (Seg × Int)} {N : Nat} {th : List Bool} {out : List Nat} (h : OrdInv E N th out) (hp : ∀ j, pickB E th j = false) (hE : EdgeIn E N) (hm : (∀ x ∈ E, UpOk x) ∨ ∀ x ∈ E, DownOk x) : ∀ j, th.getD j true = true := by
 have key : ∀ j, th.getD j true = false → ∃ x ∈ E, x.2 ≠ 0 ∧ toOf x = (j : Int) ∧ th.getD (frOf x).toNat true = false := fun j hj => by
  have h1 := hp j
  cases h2 : E.any (fun x => blk th j x) with
  | false =>
   have : pickB E th j = true := by
    unfold pickB
    rw [hj, if_neg (by simp)]
    rw [show E.any (blk th j) = false from h2]
    rfl
   rw [this] at h1
   cases h1
  | true =>
   obtain ⟨x, hx, hb⟩ := List.any_eq_true.1 h2
   obtain ⟨b1, b2, b3⟩ := (blk_eq th j x).1 hb
   refine ⟨x, hx, b1, b2, ?_⟩
   have := fr_in hE hx
   have hl : (frOf x).toNat < th.length := by rw [h.len]; omega
   rw [List.getD_eq_getElem?_getD, List.getElem?_eq_getElem hl] at b3 ⊢
   exact b3
 rcases hm with hm | hm
 ·intro j
  induction j using Nat.strongRecOn with
  | ind j ih =>
   cases e : th.getD j true with
   | true => rfl
   | false =>
    obtain ⟨x, hx, h1, h2, h3⟩ := key j e
    have := fr_in hE hx
    have hu := hm x hx h1
    rw [ih _ (by omega)] at h3
    cases h3
 ·have : ∀ d j, N - j = d → th.getD j true = true := by
   intro d
   induction d using Nat.strongRecOn with
   | ind d ih =>
    intro j hd
    cases e : th.getD j true with
    | true => rfl
    | false =>
     obtain ⟨x, hx, h1, h2, h3⟩ := key j e
     have := fr_in hE hx
     have hu := hm x hx h1
     rw [ih (N - (frOf x).toNat) (by omega) _ rfl] at h3
     cases h3
  intro j
  exact this _ j rfl
theorem cntF_all : ∀ {th : List Bool}, (∀ j, th.getD j true = true) → cntF th = 0
 | [], _ => rfl
 | b :: th, h => by
  have h0 : b = true := by simpa using h 0
  subst h0
  have := @cntF_all th fun j => by simpa using h (j + 1)
  simp [cntF] at this ⊢
  exact this
theorem ord_full {E : List (Seg × Int)} {N : Nat} (hE : EdgeIn E N) (hm : (∀ x ∈ E, UpOk x) ∨ ∀ x ∈ E, DownOk x) : (ordL E N (List.replicate N false) []).length = N := by
 obtain ⟨th, h, hp⟩ := ord_inv hE
 have := h.cnt
 rw [cntF_all (ord_all h hp hE hm)] at this
 omega
end Go.Proofs.YtehmmnnmkapfeaaDoor

/- Flow: ends, amounts. -/
/- Flow: ends, amounts. -/
namespace Go.Proofs.YtehmmnnmkapfeaaDoor
open Go
def withB (r m : Int) : Bool := if -m ≤ r then decide (r ≤ m) else false
def FlIn (t : Fl) : Prop := (-1 ≤ t.1 ∧ t.1 < 24) ∧ (-1 ≤ t.2.1 ∧ t.2.1 < 24) ∧ -1000 ≤ t.2.2 ∧ t.2.2 ≤ 1000
structure FlOk (n : Net) (p : Pln) : Prop where
 sl : n.segs.length ≤ 32
 ql : n.ports.length ≤ 24
 rl : p.rates.length = n.segs.length
 pl : p.ports.length = n.ports.length
 fl : ∀ t ∈ flowsOf n p, FlIn t
def zeros : List D := [di 0, di 0, di 0, di 0, di 0, di 0, di 0, di 0, di 0, di 0, di 0, di 0, di 0, di 0, di 0, di 0, di 0, di 0, di 0, di 0, di 0, di 0, di 0, di 0, di 0, di 0, di 0, di 0, di 0, di 0, di 0, di 0, di 0, di 0, di 0, di 0, di 0, di 0, di 0, di 0, di 0, di 0, di 0, di 0, di 0, di 0, di 0, di 0]
theorem iRow_at (R : List Int) (j : Nat) (h : j < R.length) : (R.map iRow).getD j [] = [di R[j]] := by rw [getD_map iRow R j h]; rfl
def nRow (k : Nat) : List D := [di (k : Int)]
def selEnds : List D → Option (Prop × D)
 | [.agg r, .v (.int .i64 k)] => match segOf1 r with
  | some s => some (True, .tup [di (frOf (s, k)), di (toOf (s, k))])
  | Option.none => Option.none
 | _ => Option.none
structure OI (n : Net) (p : Pln) (th : List Bool) (out : List Nat) (k : Nat) : Prop where
 tl : th.length = n.nodes.length
 kl : k ≤ n.nodes.length
 cnt : cntF th + out.length = n.nodes.length
 res : ordL (n.segs.zip p.rates) (cntF th) th out = ordB n p
 no : ∀ j, j < k → pickB (n.segs.zip p.rates) th j = false
theorem OI.skip {n : Net} {p : Pln} {th : List Bool} {out : List Nat} {k : Nat} (h : OI n p th out k) (hk : k < n.nodes.length) (hp : pickB (n.segs.zip p.rates) th k = false) : OI n p th out (k + 1) :=
 ⟨h.tl, hk, h.cnt, h.res, fun j hj => by
  rcases Nat.lt_or_ge j k with h1 | h1
  ·exact h.no j h1
  ·obtain rfl : j = k := by omega
   exact hp⟩
theorem OI.pick {n : Net} {p : Pln} {th : List Bool} {out : List Nat} {k : Nat} (h : OI n p th out k) (hp : pickB (n.segs.zip p.rates) th k = true) : OI n p (th.set k true) (out ++ [k]) 0 ∧ cntF (th.set k true) + 1 = cntF th := by
 have hs := getD_none ((pick_iff _ th k).1 hp).1
 have hc := cntF_set th k hs
 refine ⟨⟨by rw [List.length_set]; exact h.tl, Nat.zero_le _, ?_, ?_, fun j hj => absurd hj (Nat.not_lt_zero j)⟩, hc⟩
 ·have := h.cnt
  rw [List.length_append, List.length_singleton]
  omega
 ·rw [← h.res]
  exact (ord_pick h.no hp).symm
theorem zip_get {α β : Type} {l : List α} {m : List β} {i : Nat} (h1 : i < l.length) (h2 : i < m.length) : (l.zip m)[i]? = some (l[i], m[i]) := by
 rw [List.getElem?_zip_eq_some]
 exact ⟨List.getElem?_eq_getElem h1, List.getElem?_eq_getElem h2⟩
theorem weak_ownR {J : List Nm} {F : Fr} {H : Hp} (j : Nm) (g sz : Nat) (rows rows' : List (List D)) (i : Nm) (isz : Nat) (hj : H j = some ⟨g, sz, rows⟩) (hi : H i = Option.none) (hl : rows'.length = rows.length)
  (hc : ∀ (r : Nat) (row' : List D), rows'[r]? = some row' → ∃ row, rows[r]? = some row ∧ row'.length = row.length ∧ ∀ (q : Nat) (d : D), row'[q]? = some d → ∃ d0, row[q]? = some d0 ∧ (d = d0 ∨ d0 = .mt ∧ d = .own i 0 0 0)) :
  Weak J ⟨F, H⟩ ⟨F, (H.put i ⟨0, isz, []⟩).put j ⟨g, sz, rows'⟩⟩ := by
 intro E hE Im p a w hR
 have hnil : rows' ≠ [] ↔ rows ≠ [] := by rw [← List.length_pos_iff, ← List.length_pos_iff, hl]
 have hne : j ≠ i := fun h => by rw [h, hi] at hj; cases hj
 have T : Turn Im p H w.heap i ⟨0, 0, []⟩ ⟨0, isz, []⟩ (0, 0) w.heap := ⟨.inr ⟨hi, rfl⟩, .inl hi, fun _ _ _ => rfl, Nat.le_refl _, fun h => absurd rfl h, fun h => absurd rfl h⟩
 have G := T.grows hR.hp
 have R1 := T.relH hR.hp
 have X1 := T.relE hR.hp hR.en rfl rfl rfl
 generalize p.put i (0, 0) = p1 at *
 have hj1 : (H.put i ⟨0, isz, []⟩) j = some ⟨g, sz, rows⟩ := by rw [Hp.put_other _ hne]; exact hj
 have hi1 : (H.put i ⟨0, isz, []⟩) i = some ⟨0, isz, []⟩ := Hp.put_same _ _ _
 generalize H.put i ⟨0, isz, []⟩ = H1 at *
 have G2 : Grows Im p1 H1 w.heap Im p1 (H1.put j ⟨g, sz, rows'⟩) w.heap := ⟨fun _ h => h, fun _ _ => rfl, fun k ek hk => by
  by_cases h : k = j
  ·subst h
   rw [hj1] at hk
   cases hk
   exact ⟨_, Hp.put_same _ _ _, Nat.le_refl _, fun _ => ⟨rfl, rfl, fun hn => ⟨hnil.2 hn, fun c t hc => ⟨c, hc, rfl⟩⟩⟩⟩
  ·exact ⟨ek, by rw [Hp.put_other _ h]; exact hk, Nat.le_refl _, fun _ => ⟨rfl, rfl, fun hn => ⟨hn, fun c t hc => ⟨c, hc, rfl⟩⟩⟩⟩⟩
 have key : ∀ k ek, (H1.put j ⟨g, sz, rows'⟩) k = some ek → ek.rows ≠ [] → ∃ ek', H1 k = some ek' ∧ ek'.rows ≠ [] := fun k ek hk hn => by
  by_cases h : k = j
  ·subst h
   rw [Hp.put_same] at hk
   cases hk
   exact ⟨_, hj1, hnil.1 hn⟩
  ·rw [Hp.put_other _ h] at hk
   exact ⟨ek, hk, hn⟩
 refine ⟨Im, p1, hR.sz, fun k => ((hR.fr k).mono G).mono G2, ⟨fun k ek hk hn => ?_, fun k l ek el hk hl nk nl hkl => ?_, R1.im⟩, ⟨X1.os, X1.tape, X1.output, X1.size, X1.block, X1.im, X1.im', fun k ek hk hn => ?_⟩, (hR.gr.trans G).trans G2, hR.df⟩
 ·dsimp only at hk ⊢
  by_cases h : k = j
  ·subst h
   rw [Hp.put_same] at hk
   cases hk
   obtain ⟨c, t, k1, k2, k3⟩ := R1.cell k _ hj1 (hnil.1 hn)
   refine ⟨c, t, k1, k2, fun r hr => ?_, by have := k3.le; dsimp only at this ⊢; rw [hl]; exact this, fun r q row d hr hd => ?_⟩
   ·obtain ⟨m, hm, rfl⟩ := List.getElem_of_mem hr
    obtain ⟨row, e1, e2, _⟩ := hc m _ (List.getElem?_eq_getElem hm)
    rw [e2]
    exact k3.len _ (List.mem_of_getElem? e1)
   ·obtain ⟨row0, e1, e2, e3⟩ := hc r _ hr
    obtain ⟨d0, e4, e5⟩ := e3 q d hd
    obtain ⟨u, u1, u2, u3⟩ := k3.cell r q _ d0 e1 e4
    refine ⟨u, u1, ?_, u3⟩
    rcases e5 with rfl | ⟨rfl, rfl⟩
    ·exact u2.mono G2
    ·obtain ⟨ao, rfl⟩ := rel_mt u2
     exact .own i 0 0 0 _ 0 ⟨0, isz, []⟩ (by rw [Hp.put_other _ (Ne.symm hne)]; exact hi1) (Nat.le_refl _) (Nat.le_refl _) fun _ h => absurd h (Nat.lt_irrefl _)
  ·rw [Hp.put_other _ h] at hk
   obtain ⟨c, t, k1, k2, k3⟩ := R1.cell k ek hk hn
   exact ⟨c, t, k1, k2, k3.mono G2⟩
 ·obtain ⟨_, a1, a2⟩ := key k ek hk nk
  obtain ⟨_, b1, b2⟩ := key l el hl nl
  exact R1.inj k l _ _ a1 b1 a2 b2 hkl
 ·obtain ⟨_, a1, a2⟩ := key k ek hk hn
  exact X1.ids k _ a1 a2
def fNm (i : Nat) : Nm := (0, 7000 + i)
def pA (os : List (List Pce)) (i : Nat) : List Pce := os.getD i []
def famH (os : List (List Pce)) (H : Hp) : Hp := fun k => if k.1 = 0 ∧ 7000 ≤ k.2 ∧ k.2 < 7000 + os.length then some ⟨(pA os (k.2 - 7000)).length, 2, (pA os (k.2 - 7000)).map Pce.row⟩ else H k
def oRow (os : List (List Pce)) (i : Nat) : List D := [.own (fNm i) (pA os i).length 0 (pA os i).length]
def oRows (os : List (List Pce)) : List (List D) := (List.range os.length).map (oRow os)
theorem oRows_len (os : List (List Pce)) : (oRows os).length = os.length := by unfold oRows; simp
theorem fNm_ne (i n : Nat) (h : n < 7000) : (fNm i = (0, n)) = False := eq_false fun e => by unfold fNm at e; have := congrArg Prod.snd e; dsimp only at this; omega
theorem fNm_ne' (i n : Nat) (h : n < 7000) : (((0, n) : Nm) = fNm i) = False := eq_false fun e => by unfold fNm at e; have := congrArg Prod.snd e; dsimp only at this; omega
theorem fNm_inj {i k : Nat} (h : fNm i = fNm k) : i = k := by unfold fNm at h; have := congrArg Prod.snd h; dsimp only at this; omega
theorem famH_at (os : List (List Pce)) (H : Hp) (i : Nat) (h : i < os.length) : famH os H (fNm i) = some ⟨(pA os i).length, 2, (pA os i).map Pce.row⟩ := by
 unfold famH fNm
 dsimp only
 rw [if_pos ⟨rfl, by omega, by omega⟩, Nat.add_sub_cancel_left]
theorem famH_no (os : List (List Pce)) (H : Hp) (n : Nat) (h : n < 7000) : famH os H (0, n) = H (0, n) := by
 unfold famH
 rw [if_neg (fun e => by dsimp only at e; omega)]
theorem famH_put (os : List (List Pce)) (H : Hp) (n : Nat) (e : En) (h : n < 7000) : (famH os H).put (0, n) e = famH os (H.put (0, n) e) := by
 funext k
 by_cases h1 : k = (0, n)
 ·subst h1
  rw [famH_no _ _ _ h, Hp.put_same, Hp.put_same]
 ·rw [Hp.put_other _ h1]
  unfold famH
  rw [Hp.put_other _ h1]
theorem pA_set (os : List (List Pce)) (i k : Nat) (x : List Pce) (h : i < os.length) : pA (os.set i x) k = if k = i then x else pA os k := by
 unfold pA
 rw [List.getD_eq_getElem?_getD, List.getElem?_set]
 by_cases e : i = k
 ·subst e; rw [if_pos rfl, if_pos h, if_pos rfl]; rfl
 ·rw [if_neg e, if_neg (fun h => e h.symm), List.getD_eq_getElem?_getD]
theorem famH_set (os : List (List Pce)) (H : Hp) (i : Nat) (p : Pce) (h : i < os.length) : (famH os H).put (fNm i) ⟨(pA os i).length + 1, 2, (pA os i).map Pce.row ++ [[di p.ba, di p.vo]]⟩ = famH (os.set i (pA os i ++ [p])) H := by
 funext k
 unfold Hp.put
 by_cases h1 : k = fNm i
 ·subst h1
  rw [if_pos rfl, famH_at _ _ _ (by simpa using h), pA_set _ _ _ _ h, if_pos rfl, List.length_append, List.map_append]
  rfl
 ·rw [if_neg h1]
  unfold famH
  rw [List.length_set]
  split
  ·rename_i e
   have : k.2 - 7000 ≠ i := fun e' => h1 (by obtain ⟨a, b⟩ := k; dsimp only at e e'; unfold fNm; rw [e.1]; congr 1; omega)
   rw [pA_set _ _ _ _ h, if_neg this]
  ·rfl
theorem oRows_get (os : List (List Pce)) (i : Nat) (h : i < os.length) : (oRows os).getD i [] = oRow os i := by
 unfold oRows
 rw [List.getD_eq_getElem?_getD, List.getElem?_map, List.getElem?_range h]
 rfl
theorem oRows_set (os : List (List Pce)) (i : Nat) (p : Pce) (h : i < os.length) : (oRows os).set i [.own (fNm i) ((pA os i).length + 1) 0 ((pA os i).length + 1)] = oRows (os.set i (pA os i ++ [p])) := by
 refine List.ext_getElem? fun k => ?_
 rw [List.getElem?_set, oRows_len]
 unfold oRows
 rw [List.length_set, List.getElem?_map, List.getElem?_map]
 by_cases hk : k < os.length
 ·rw [List.getElem?_range hk]
  by_cases e : i = k
  ·subst e
   rw [if_pos rfl, if_pos h]
   show _ = some (oRow _ _)
   unfold oRow
   rw [pA_set _ _ _ _ h, if_pos rfl, List.length_append]
   rfl
  ·rw [if_neg e]
   show some (oRow _ _) = some (oRow _ _)
   unfold oRow
   rw [pA_set _ _ _ _ h, if_neg (fun h => e h.symm)]
 ·have hn : (List.range os.length)[k]? = Option.none := List.getElem?_eq_none (by simp; omega)
  rw [hn]
  by_cases e : i = k
  ·omega
  ·rw [if_neg e]; rfl
def fams (n : Nat) : List Nm := (List.range n).map fNm
theorem fams_in {n i : Nat} (h : i < n) : fNm i ∈ fams n := List.mem_map.2 ⟨i, List.mem_range.2 h, rfl⟩
theorem nmIn_mono {i : Nm} {a b : List Nm} (h : ∀ x ∈ a, x ∈ b) (k : nmIn i a = true) : nmIn i b = true := nmIn_iff.2 (h _ (nmIn_iff.1 k))
theorem oRows_ref (os : List (List Pce)) (js : List Nm) : ∀ r ∈ oRows os, refsInL (js ++ fams os.length) r = true := fun r hr => by
 unfold oRows at hr
 obtain ⟨i, hi, rfl⟩ := List.mem_map.1 hr
 unfold oRow
 rw [refsInL, refsInL, Bool.and_true, D.refsIn]
 exact nmIn_iff.2 (List.mem_append_right _ (fams_in (List.mem_range.1 hi)))
mutual
theorem refsIn_mono {a b : List Nm} (h : ∀ x ∈ a, x ∈ b) : ∀ d : D, d.refsIn a = true → d.refsIn b = true
 | .v _, _ => by rw [D.refsIn]
 | .any, _ => by rw [D.refsIn]
 | .sl _, _ => by rw [D.refsIn]
 | .ip _, _ => by rw [D.refsIn]
 | .mt, _ => by rw [D.refsIn]
 | .own _ _ _ _, k => by rw [D.refsIn] at k ⊢; exact nmIn_mono h k
 | .ptr _ _ _ _, k => by rw [D.refsIn] at k ⊢; exact nmIn_mono h k
 | .agg cs, k => by rw [D.refsIn] at k ⊢; exact refsInL_mono h cs k
 | .tup cs, k => by rw [D.refsIn] at k ⊢; exact refsInL_mono h cs k
 | .clo _ fs cs, k => by rw [D.refsIn, Bool.and_eq_true] at k ⊢; exact ⟨refsInL_mono h fs k.1, refsInL_mono h cs k.2⟩
theorem refsInL_mono {a b : List Nm} (h : ∀ x ∈ a, x ∈ b) : ∀ l : List D, refsInL a l = true → refsInL b l = true
 | [], _ => by rw [refsInL]
 | d :: l, k => by rw [refsInL, Bool.and_eq_true] at k ⊢; exact ⟨refsIn_mono h d k.1, refsInL_mono h l k.2⟩
end
theorem refsF_mono {a b : List Nm} (h : ∀ x ∈ a, x ∈ b) : ∀ {l : List (Nat × D)}, refsF a l = true → refsF b l = true
 | [], _ => rfl
 | (t, d) :: l, k => by rw [refsF, Bool.and_eq_true] at k ⊢; exact ⟨refsIn_mono h d k.1, refsF_mono h k.2⟩
theorem closedH_of {H : Hp} {js : List Nm} : ∀ {is : List Nm}, (∀ i ∈ is, ∀ e, H i = some e → ∀ r ∈ e.rows, refsInL js r = true) → ClosedH H js is
 | [], _ => trivial
 | i :: is, h => by
  rw [ClosedH]
  refine ⟨?_, closedH_of fun k hk => h k (List.mem_cons_of_mem _ hk)⟩
  cases e : H i with
  | none => trivial
  | some x => exact h i (List.mem_cons_self ..) x e
theorem weak_fam {F : Fr} {B B' : Hp} (js : List Nm) (l : List (Nat × D)) (os : List (List Pce)) (hjs : ∀ i ∈ js, i.1 = 0 ∧ i.2 < 7000) (h1 : coverS F (famH os B) [] l) (h2 : refsF js l = true) (h3 : ClosedH B (js ++ fams os.length) js) (h5 : B.restr js = B') : Weak [] ⟨F, famH os B⟩ ⟨fr l, famH os B'⟩ := by
 subst h5
 refine weak_eq [] (js ++ fams os.length) l h1 (refsF_mono (fun x h => List.mem_append_left _ h) h2) ?_ (by simp) ?_
 ·exact closedH_of fun i hi e he r hr => by
   rcases List.mem_append.1 hi with h | h
   ·obtain ⟨a, b⟩ := i
    obtain ⟨h6, h7⟩ := hjs _ h
    dsimp only at h6 h7
    subst h6
    rw [Hp.kills, famH_no _ _ _ h7] at he
    exact closedH_mem h3 _ h e he r hr
   ·obtain ⟨k, hk, rfl⟩ := List.mem_map.1 h
    rw [Hp.kills, famH_at _ _ _ (List.mem_range.1 hk)] at he
    cases he
    obtain ⟨x, hx, rfl⟩ := List.mem_map.1 hr
    rfl
 ·funext k
  rw [Hp.kills]
  by_cases hf : k.1 = 0 ∧ 7000 ≤ k.2 ∧ k.2 < 7000 + os.length
  ·have hk : k = fNm (k.2 - 7000) := by obtain ⟨a, b⟩ := k; dsimp only at hf ⊢; unfold fNm; rw [hf.1]; congr 1; omega
   rw [restr_in (List.mem_append_right _ (by rw [hk]; exact fams_in (by omega)))]
   unfold famH
   rw [if_pos hf, if_pos hf]
  ·have e1 : famH os B k = B k := by unfold famH; rw [if_neg hf]
   have e2 : famH os (B.restr js) k = B.restr js k := by unfold famH; rw [if_neg hf]
   rw [e2]
   by_cases hk : k ∈ js
   ·rw [restr_in (List.mem_append_left _ hk), e1, restr_in hk]
   ·rw [restr_out (js := js) hk, restr_out]
    intro h
    rcases List.mem_append.1 h with h | h
    ·exact hk h
    ·obtain ⟨m, hm, rfl⟩ := List.mem_map.1 h
     have := List.mem_range.1 hm
     exact hf ⟨rfl, by unfold fNm; dsimp only; omega, by unfold fNm; dsimp only; omega⟩
end Go.Proofs.YtehmmnnmkapfeaaDoor
