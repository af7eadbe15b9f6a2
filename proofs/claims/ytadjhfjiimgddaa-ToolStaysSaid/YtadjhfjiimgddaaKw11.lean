/- ToolStays: Ti1 NkOk Fl1 Fl2 CodeF. -/
import Derived.Test.YtadjhfjiimgddaaKw10
import Derived.Test.YtadjhfjiimgddaaKw9
import Derived.Test.YtadjhfjiimgddaaKw3
import Derived.Test.YtadjhfjiimgddaaProg
set_option linter.unusedSimpArgs false
set_option linter.unusedVariables false
set_option maxRecDepth 100000

/- Pieces in the reference: joined, split, turned, shifted. -/
namespace Go.Proofs.Ytadjhfjiimgddaa
open Go
def jn1 (out : List Pce) (p : Pce) : List Pce :=
 if (p.vo == 0) = true then out else if (decide (0 < out.length) && ((pcA out (out.length - 1)).ba == p.ba)) = true then out.set (out.length - 1) ⟨(pcA out (out.length - 1)).ba, IntKind.i64.wrap ((pcA out (out.length - 1)).vo + p.vo)⟩ else out ++ [p]
def joined (l : List Pce) : List Pce := l.foldl jn1 []
theorem jn1_len (out : List Pce) (p : Pce) : (jn1 out p).length ≤ out.length + 1 := by
 unfold jn1
 split
 ·omega
 ·split <;> simp
theorem foldl_jn1_len : ∀ (l out : List Pce), (l.foldl jn1 out).length ≤ out.length + l.length
 | [], out => by simp
 | p :: l, out => by
  have := foldl_jn1_len l (jn1 out p)
  have := jn1_len out p
  rw [List.foldl_cons, List.length_cons]
  omega
theorem joined_len (l : List Pce) : (joined l).length ≤ l.length := by
 have := foldl_jn1_len l []
 unfold joined
 simpa using this
theorem pce_ref (js : List Nm) (x : Pce) : refsInL js x.row = true := rfl
theorem pcs_pl (x : Pce) : (∀ d, d ∈ x.row → d.plain = true) = True := by unfold Pce.row; simp only [List.forall_mem_cons, forall_nil, plain_v, and_self]
def JoF (l : List Pce) (g : Nat) (out : List Pce) (j : Int) : List (Nat × D) := [(3, .own (0, 15) g 0 out.length), (6, .sl (l.map Pce.row)), (7, di l.length), (8, di j)]
def JoH (g : Nat) (out : List Pce) : Hp := Hp.none.put (0, 15) ⟨g, 2, out.map Pce.row⟩
set_option maxHeartbeats 8000000 in
theorem joined_c (l : List Pce) (hl : l.length ≤ 1000000) (nn : Nm) : CallsA Try.prog 85 [.sl (l.map Pce.row)] Hp.none nn (Pu (.sl ((joined l).map Pce.row)) Hp.none) := by
 obtain ⟨code, h1, h2⟩ := c85_ok
 refine callsA_of (T0_ok _) mixed (N := fun t => (0, t)) Try.func85 h1 h2 r85_ok [] false js_nil js_nil' (by simp [Try.f85]) ?_
 generalize hX : joined l = X
 simp (maxSteps:=500000) only [↓vp, vv, ↓reduceIte, simprocAttr, c85, r85, c85_1, c85_2, c85_3, c85_4]
 refine rng_loopP l.length (fun j (u : Nat × List Pce) => ⟨fr (JoF l u.1 u.2 (j : Nat)), JoH u.1 u.2⟩) (fun j u => (l.drop j).foldl jn1 u.2 = X ∧ u.2.length ≤ j) (u0 := (0, [])) ((weak_own 3 (0, 15) 2 (by simp only [↓vp, vv, ↓reduceIte, simprocAttr, ]) (by simp only [↓vp, vv, ↓reduceIte, simprocAttr, ])).trans (weak_eqA [] [(0, 15)] (JoF l 0 [] 0) (by refine ⟨?_, ?_, ?_, by simp, ?_⟩ <;> (simp only [↓vp, vv, ↓reduceIte, simprocAttr, coverS, refsF, pce_ref, JoF, JoH] <;> try rfl)))) ⟨hX, Nat.le_refl _⟩ (fun j hj u hP => ?_) (fun u hP => ?_)
 ·obtain ⟨g, out⟩ := u
  obtain ⟨hP, ho⟩ := hP
  dsimp only at hP ho
  have hj' : (j : Int) < l.length := by omega
  have w1 := idx_next (j := j) (by omega)
  have g1 := pc_get hj
  rw [pc_drop hj, List.foldl_cons] at hP
  have y1 : (out.length + 1) * 16 ≤ 140737488355328 := by omega
  have y2 : out.length + 1 ≤ 4611686018427387904 := by omega
  generalize pcA l j = p at g1 hP
  cases c1 : (p.vo == 0) with
  | true =>
   have e : jn1 out p = out := by unfold jn1; rw [if_pos c1]
   rw [e] at hP
   simp (maxSteps:=500000) only [↓vp, vv, ↓reduceIte, simprocAttr, c85, r85, c85_1, c85_2, c85_3, c85_4, JoF, JoH, hj, hj', g1, Int.toNat_natCast, idx_nn, c1]
   refine rng_nextP hj (g, out) ?_ ⟨hP, by dsimp only; omega⟩
   exact (weak_eqA [] [(0, 15)] (JoF l g out ((j + 1 : Nat) : Int)) (by refine ⟨?_, ?_, ?_, by simp, ?_⟩ <;> (simp only [↓vp, vv, ↓reduceIte, simprocAttr, coverS, refsF, pce_ref, JoF, JoH, w1] <;> try rfl)))
  | false =>
   by_cases z : out.length = 0
   ·have z0 : out = [] := List.length_eq_zero_iff.1 z
    subst z0
    have e : jn1 [] p = [p] := by unfold jn1; rw [c1]; rfl
    rw [e] at hP
    simp (maxSteps:=500000) only [↓vp, vv, ↓reduceIte, simprocAttr, c85, r85, c85_1, c85_2, c85_3, c85_4, JoF, JoH, hj, hj', g1, Int.toNat_natCast, idx_nn, c1, Int.lt_irrefl]
    refine rng_nextP hj (g + 1, [p]) ?_ ⟨hP, by simp⟩
    exact (weak_eqA [] [(0, 15)] (JoF l (g + 1) [p] ((j + 1 : Nat) : Int)) (by refine ⟨?_, ?_, ?_, by simp, ?_⟩ <;> (simp only [↓vp, vv, ↓reduceIte, simprocAttr, coverS, refsF, pce_ref, JoF, JoH, Pce.row, w1] <;> try rfl)))
   ·have z1 : decide ((0 : Int) < (out.length : Int)) = true := decide_eq_true (by omega)
    have z2 : decide (0 < out.length) = true := decide_eq_true (by omega)
    have w2 : IntKind.i64.wrap ((out.length : Int) - 1) = ((out.length - 1 : Nat) : Int) := by rw [wrap_i (by omega)]; omega
    have hp : out.length - 1 < out.length := by omega
    have hp' : ((out.length - 1 : Nat) : Int) < out.length := by omega
    have g2 := pc_get hp
    have e : jn1 out p = if ((pcA out (out.length - 1)).ba == p.ba) = true then out.set (out.length - 1) ⟨(pcA out (out.length - 1)).ba, IntKind.i64.wrap ((pcA out (out.length - 1)).vo + p.vo)⟩ else out ++ [p] := by
     unfold jn1
     rw [c1, z2, Bool.true_and]
     rfl
    rw [e] at hP
    have em : ∀ q : Pce, (out.map Pce.row).set (out.length - 1) [di q.ba, di q.vo] = (out.set (out.length - 1) q).map Pce.row := fun q => List.map_set.symm
    generalize pcA out (out.length - 1) = q at g2 hP
    cases c2 : (q.ba == p.ba) with
    | true =>
     rw [if_pos c2] at hP
     have em := em ⟨q.ba, IntKind.i64.wrap (q.vo + p.vo)⟩
     simp (maxSteps:=500000) only [↓vp, vv, ↓reduceIte, simprocAttr, c85, r85, c85_1, c85_2, c85_3, c85_4, JoF, JoH, hj, hj', g1, g2, hp, hp', z1, w2, Int.toNat_natCast, idx_nn, c1, c2]
     refine rng_nextP hj (g, out.set (out.length - 1) ⟨q.ba, IntKind.i64.wrap (q.vo + p.vo)⟩) ?_ ⟨hP, by dsimp only; rw [List.length_set]; omega⟩
     exact (weak_eqA [] [(0, 15)] (JoF l g (out.set (out.length - 1) ⟨q.ba, IntKind.i64.wrap (q.vo + p.vo)⟩) ((j + 1 : Nat) : Int)) (by refine ⟨?_, ?_, ?_, by simp, ?_⟩ <;> (simp only [↓vp, vv, ↓reduceIte, simprocAttr, coverS, refsF, pce_ref, JoF, JoH, List.length_set, w1, em] <;> try rfl)))
    | false =>
     rw [if_neg (by rw [c2]; decide)] at hP
     simp (maxSteps:=500000) only [↓vp, vv, ↓reduceIte, simprocAttr, c85, r85, c85_1, c85_2, c85_3, c85_4, JoF, JoH, hj, hj', g1, g2, hp, hp', z1, w2, y1, y2, Int.toNat_natCast, idx_nn, c1, c2]
     refine rng_nextP hj (g + 1, out ++ [p]) ?_ ⟨hP, by simp; omega⟩
     exact (weak_eqA [] [(0, 15)] (JoF l (g + 1) (out ++ [p]) ((j + 1 : Nat) : Int)) (by refine ⟨?_, ?_, ?_, by simp, ?_⟩ <;> (simp only [↓vp, vv, ↓reduceIte, simprocAttr, coverS, refsF, pce_ref, JoF, JoH, List.map_append, Pce.row, w1] <;> try rfl)))
 ·obtain ⟨g, out⟩ := u
  obtain ⟨hP, ho⟩ := hP
  rw [List.drop_of_length_le (Nat.le_refl _), List.foldl_nil] at hP
  dsimp only at hP
  subst hP
  simp (maxSteps:=500000) only [↓vp, vv, ↓reduceIte, simprocAttr, c85, r85, c85_1, c85_2, c85_3, c85_4, r85, Int.lt_irrefl, JoF, JoH, pcs_pl, Pu]
def selJo := selX decPf PfOk fun a => .sl ((joined a).map Pce.row)
theorem tc_jo {T : Tbl} (hT : TblOk Try.prog T) : TblOk Try.prog (tc 85 (rowPu selJo) T) := tc_x f85_ok decPf_eq (fun a h nn => joined_c _ h nn) hT
def spl : List Pce → Int → List Pce × List Pce
 | [], _ => ([], [])
 | p :: l, n => let k := if p.vo < n then p.vo else n
  let r := spl l (IntKind.i64.wrap (n - k))
  (⟨p.ba, k⟩ :: r.1, ⟨p.ba, IntKind.i64.wrap (p.vo - k)⟩ :: r.2)
def SpF (l : List Pce) (n : Int) (g : Nat) (a b : List Pce) (j : Int) : List (Nat × D) := [(1, di n), (6, .own (0, 30) g 0 a.length), (7, .own (0, 40) g 0 b.length), (11, .sl (l.map Pce.row)), (12, di l.length), (13, di j)]
def SpH (g : Nat) (a b : List Pce) : Hp := (Hp.none.put (0, 40) ⟨g, 2, b.map Pce.row⟩).put (0, 30) ⟨g, 2, a.map Pce.row⟩
def SpP (l : List Pce) (X : D) (j : Nat) (u : Int × List Pce × List Pce) : Prop := X = .tup [.sl ((joined (u.2.1 ++ (spl (l.drop j) u.1).1)).map Pce.row), .sl ((joined (u.2.2 ++ (spl (l.drop j) u.1).2)).map Pce.row)] ∧ u.2.1.length = j ∧ u.2.2.length = j
def SpT : Tbl := tc 85 (rowPu selJo) T0
theorem SpT_ok : TblOk Try.prog SpT := tc_jo (T0_ok _)
def splR (l : List Pce) (n : Int) : D := .tup [.sl ((joined (spl l n).1).map Pce.row), .sl ((joined (spl l n).2).map Pce.row)]
set_option maxHeartbeats 8000000 in
theorem split_c (l : List Pce) (n : Int) (hl : l.length ≤ 1000000) (nn : Nm) : CallsA Try.prog 130 [.sl (l.map Pce.row), di n] Hp.none nn (Pu (splR l n) Hp.none) := by
 obtain ⟨code, h1, h2⟩ := c130_ok
 refine callsA_of SpT_ok mixed (N := fun t => (0, t)) Try.func130 h1 h2 r130_ok [] false js_nil js_nil' (by simp [Try.f130]) ?_
 generalize hX : splR l n = X
 have hX' : splR l n = .tup [.sl ((joined ([] ++ (spl l n).1)).map Pce.row), .sl ((joined ([] ++ (spl l n).2)).map Pce.row)] := rfl
 rw [hX] at hX'
 simp (maxSteps:=500000) only [↓vp, vv, ↓reduceIte, simprocAttr, c130, r130, c130_1, c130_2, c130_3, SpT]
 refine rng_loopP l.length (fun j (u : Int × List Pce × List Pce) => ⟨fr (SpF l u.1 j u.2.1 u.2.2 (j : Nat)), SpH j u.2.1 u.2.2⟩) (SpP l X) (u0 := (n, [], [])) (((weak_own 6 (0, 30) 2 (by simp only [↓vp, vv, ↓reduceIte, simprocAttr, ]) (by simp only [↓vp, vv, ↓reduceIte, simprocAttr, ])).trans (weak_own 7 (0, 40) 2 (by simp only [↓vp, vv, ↓reduceIte, simprocAttr, ]) (by simp only [↓vp, vv, ↓reduceIte, simprocAttr, ]))).trans (weak_eqA [] [(0, 30), (0, 40)] (SpF l n 0 [] [] 0) (by refine ⟨?_, ?_, ?_, by simp, ?_⟩ <;> (simp only [↓vp, vv, ↓reduceIte, simprocAttr, coverS, refsF, pce_ref, SpF, SpH] <;> try rfl)))) ⟨hX', rfl, rfl⟩ (fun j hj u hP => ?_) (fun u hP => ?_)
 ·obtain ⟨m, a, b⟩ := u
  obtain ⟨hP, ha, hb⟩ := hP
  dsimp only at hP ha hb
  have hj' : (j : Int) < l.length := by omega
  have w1 := idx_next (j := j) (by omega)
  have g1 := pc_get hj
  rw [pc_drop hj, spl] at hP
  have y1 : (j + 1) * 16 ≤ 140737488355328 := by omega
  have y2 : j + 1 ≤ 4611686018427387904 := by omega
  generalize pcA l j = p at g1 hP
  generalize hk : (if p.vo < m then p.vo else m) = k at hP
  dsimp only at hP
  simp (maxSteps:=500000) only [↓vp, vv, ↓reduceIte, simprocAttr, c130, r130, c130_1, c130_2, c130_3, SpT, SpF, SpH, hj, hj', g1, y1, y2, ha, hb, hk, Int.toNat_natCast, idx_nn]
  refine rng_nextP hj (IntKind.i64.wrap (m - k), a ++ [Pce.mk p.ba k], b ++ [Pce.mk p.ba (IntKind.i64.wrap (p.vo - k))]) ?_ ⟨by rw [hP]; dsimp only; rw [List.append_assoc, List.append_assoc, List.singleton_append, List.singleton_append], by simp [ha], by simp [hb]⟩
  exact (weak_eqA [] [(0, 30), (0, 40)] (SpF l (IntKind.i64.wrap (m - k)) (j + 1) (a ++ [Pce.mk p.ba k]) (b ++ [Pce.mk p.ba (IntKind.i64.wrap (p.vo - k))]) ((j + 1 : Nat) : Int)) (by refine ⟨?_, ?_, ?_, by simp, ?_⟩ <;> (simp only [↓vp, vv, ↓reduceIte, simprocAttr, coverS, refsF, pce_ref, ha, hb, hk, SpF, SpH, List.map_append, Pce.row, w1] <;> try rfl)))
 ·obtain ⟨m, a, b⟩ := u
  obtain ⟨hP, ha, hb⟩ := hP
  dsimp only at hP ha hb
  rw [List.drop_of_length_le (Nat.le_refl _), spl, List.append_nil, List.append_nil] at hP
  have pa : PfOk a := by unfold PfOk; omega
  have pb : PfOk b := by unfold PfOk; omega
  simp (maxSteps:=500000) only [↓vp, vv, ↓reduceIte, simprocAttr, c130, r130, c130_1, c130_2, c130_3, r130, SpT, selJo, selX, decPf, pcsOf_map, pa, pb, Int.lt_irrefl, SpF, SpH, pcs_pl, hP, Pu]
def decPfI : List D → Option (List Pce × Int)
 | [.sl x, .v (.int .i64 n)] => (pcsOf x).map fun l => (l, n)
 | _ => Option.none
theorem decPfI_eq : ∀ l a, decPfI l = some a → l = [.sl (a.1.map Pce.row), di a.2] := fun l a h => by
 unfold decPfI at h
 split at h
 ·obtain ⟨b, hb, rfl⟩ := Option.map_eq_some_iff.1 h
  rw [pcsOf_eq hb]
 ·cases h
def PsiOk (a : List Pce × Int) : Prop := a.1.length ≤ 1000000
def selSpl := selX decPfI PsiOk fun a => splR a.1 a.2
theorem tc_spl {T : Tbl} (hT : TblOk Try.prog T) : TblOk Try.prog (tc 130 (rowPu selSpl) T) := tc_x f130_ok decPfI_eq (fun a h nn => split_c _ _ h nn) hT
def TuF (l : List Pce) (g : Nat) (out : List Pce) (j : Int) : List (Nat × D) := [(0, .sl (l.map Pce.row)), (3, .own (0, 18) g 0 out.length), (4, di j)]
def TuH (g : Nat) (out : List Pce) : Hp := Hp.none.put (0, 18) ⟨g, 2, out.map Pce.row⟩
set_option maxHeartbeats 8000000 in
theorem turned_c (l : List Pce) (hl : l.length ≤ 1000000) (nn : Nm) : CallsA Try.prog 87 [.sl (l.map Pce.row)] Hp.none nn (Pu (.sl (l.reverse.map Pce.row)) Hp.none) := by
 obtain ⟨code, h1, h2⟩ := c87_ok
 refine callsA_of (T0_ok _) mixed (N := fun t => (0, t)) Try.func87 h1 h2 r87_ok [] false js_nil js_nil' (by simp [Try.f87]) ?_
 have w0 : IntKind.i64.wrap ((l.length : Int) - 1) = (l.length : Int) - 1 - ((0 : Nat) : Int) := by rw [wrap_i (by omega)]; omega
 simp (maxSteps:=500000) only [↓vp, vv, ↓reduceIte, simprocAttr, c87, r87, c87_1, c87_2, c87_3]
 refine rng_loopP l.length (fun j (u : List Pce) => ⟨fr (TuF l j u ((l.length : Int) - 1 - (j : Nat))), TuH j u⟩) (fun j u => u = l.reverse.take j ∧ u.length = j) (u0 := []) ((weak_own 3 (0, 18) 2 (by simp only [↓vp, vv, ↓reduceIte, simprocAttr, ]) (by simp only [↓vp, vv, ↓reduceIte, simprocAttr, ])).trans (weak_eqA [] [(0, 18)] (TuF l 0 [] ((l.length : Int) - 1 - ((0 : Nat) : Int))) (by refine ⟨?_, ?_, ?_, by simp, ?_⟩ <;> (simp only [↓vp, vv, ↓reduceIte, simprocAttr, coverS, refsF, pce_ref, TuF, TuH, w0] <;> try rfl)))) ⟨rfl, rfl⟩ (fun j hj u hP => ?_) (fun u hP => ?_)
 ·obtain ⟨hP, ha⟩ := hP
  have q0 : (0 : Int) ≤ (l.length : Int) - 1 - (j : Int) := by omega
  have q1 : (l.length : Int) - 1 - (j : Int) < l.length := by omega
  have q2 : ((l.length : Int) - 1 - (j : Int)).toNat = l.length - 1 - j := by omega
  have q3 : l.length - 1 - j < l.length := by omega
  have w1 : IntKind.i64.wrap ((l.length : Int) - 1 - (j : Int) - 1) = (l.length : Int) - 1 - ((j + 1 : Nat) : Int) := by rw [wrap_i (by omega)]; omega
  have g1 := pc_get q3
  have y1 : (j + 1) * 16 ≤ 140737488355328 := by omega
  have y2 : j + 1 ≤ 4611686018427387904 := by omega
  have nx : u ++ [pcA l (l.length - 1 - j)] = l.reverse.take (j + 1) := by
   rw [hP, List.take_add_one, List.getElem?_reverse (by omega), List.getElem?_eq_getElem q3, ← pc_at q3]
   rfl
  generalize pcA l (l.length - 1 - j) = p at g1 nx
  simp (maxSteps:=500000) only [↓vp, vv, ↓reduceIte, simprocAttr, c87, r87, c87_1, c87_2, c87_3, TuF, TuH, hj, q0, q1, q2, q3, g1, ha, y1, y2]
  refine rng_nextP hj (u ++ [p]) ?_ ⟨nx, by simp [ha]⟩
  exact (weak_eqA [] [(0, 18)] (TuF l (j + 1) (u ++ [p]) ((l.length : Int) - 1 - ((j + 1 : Nat) : Int))) (by refine ⟨?_, ?_, ?_, by simp, ?_⟩ <;> (simp only [↓vp, vv, ↓reduceIte, simprocAttr, coverS, refsF, pce_ref, ha, TuF, TuH, List.map_append, Pce.row, w1] <;> try rfl)))
 ·obtain ⟨hP, ha⟩ := hP
  have e : u = l.reverse := by rw [hP]; exact List.take_of_length_le (by simp)
  subst e
  have q0 : ¬ (0 : Int) ≤ (l.length : Int) - 1 - ((l.length : Nat) : Int) := by omega
  simp (maxSteps:=500000) only [↓vp, vv, ↓reduceIte, simprocAttr, c87, r87, c87_1, c87_2, c87_3, r87, q0, TuF, TuH, pcs_pl, Pu]
def selTu := selX decPf PfOk fun a => .sl (a.reverse.map Pce.row)
theorem tc_tu {T : Tbl} (hT : TblOk Try.prog T) : TblOk Try.prog (tc 87 (rowPu selTu) T) := tc_x f87_ok decPf_eq (fun a h nn => turned_c _ h nn) hT
def shiftL (f i : List Pce) (back : Bool) : List Pce × List Pce :=
 if back = true then (joined (spl (f ++ i) (volW i 0)).2, joined (spl (f ++ i) (volW i 0)).1) else (joined (spl (i ++ f) (volW f 0)).1, joined (spl (i ++ f) (volW f 0)).2)
def ShT : Tbl := tc 130 (rowPu selSpl) (tc 77 (rowPu selTo) T0)
theorem ShT_ok : TblOk Try.prog ShT := tc_spl (tc_rsu (T0_ok _))
set_option maxHeartbeats 8000000 in
theorem shift_c (f i : List Pce) (b : Bool) (hf : f.length ≤ 500000) (hi : i.length ≤ 500000) (nn : Nm) : CallsA Try.prog 88 [.sl (f.map Pce.row), .sl (i.map Pce.row), db b] Hp.none nn (Pu (.tup [.sl ((shiftL f i b).1.map Pce.row), .sl ((shiftL f i b).2.map Pce.row)]) Hp.none) := by
 obtain ⟨code, h1, h2⟩ := c88_ok
 refine callsA_of ShT_ok mixed (N := fun t => (0, t)) Try.func88 h1 h2 r88_ok [] false js_nil js_nil' (by simp [Try.f88]) ?_
 have pf : PfOk f := by unfold PfOk; omega
 have pi : PfOk i := by unfold PfOk; omega
 have e1 : f.map Pce.row ++ i.map Pce.row = (f ++ i).map Pce.row := List.map_append.symm
 have e2 : i.map Pce.row ++ f.map Pce.row = (i ++ f).map Pce.row := List.map_append.symm
 have p1 : ∀ n, PsiOk (f ++ i, n) := fun n => by unfold PsiOk; simp; omega
 have p2 : ∀ n, PsiOk (i ++ f, n) := fun n => by unfold PsiOk; simp; omega
 have y1 : f.length * 16 ≤ 140737488355328 := by omega
 have y2 : f.length ≤ 4611686018427387904 := by omega
 have y3 : i.length * 16 ≤ 140737488355328 := by omega
 have y4 : i.length ≤ 4611686018427387904 := by omega
 have y5 : (f.length + i.length) * 16 ≤ 140737488355328 := by omega
 have y6 : f.length + i.length ≤ 4611686018427387904 := by omega
 have y7 : (i.length + f.length) * 16 ≤ 140737488355328 := by omega
 have y8 : i.length + f.length ≤ 4611686018427387904 := by omega
 have rl : ∀ x : Pce, x.row.length = 2 := fun _ => rfl
 have t1 : ((f ++ i).map Pce.row).take (f.length + i.length) = (f ++ i).map Pce.row := List.take_of_length_le (by simp)
 have t2 : ((i ++ f).map Pce.row).take (i.length + f.length) = (i ++ f).map Pce.row := List.take_of_length_le (by simp)
 cases b with
 | true => simp (maxSteps:=500000) only [↓vp, vv, ↓reduceIte, simprocAttr, c88, r88, c88_1, r88, ShT, selSpl, selTo, selX, decPf, decPfI, pcsOf_map, Option.map_some, rl, splR, shiftL, pf, pi, e1, t1, p1, y1, y2, y3, y4, y5, y6, pcs_pl, Pu]
 | false => simp (maxSteps:=500000) only [↓vp, vv, ↓reduceIte, simprocAttr, c88, r88, c88_1, r88, ShT, selSpl, selTo, selX, decPf, decPfI, pcsOf_map, Option.map_some, rl, splR, shiftL, pf, pi, e2, t2, p2, y1, y2, y3, y4, y7, y8, pcs_pl, Pu]
def decShf : List D → Option (List Pce × List Pce × Bool)
 | [.sl x, .sl y, .v (.bool b)] => (pcsOf x).bind fun l => (pcsOf y).map fun m => (l, m, b)
 | _ => Option.none
theorem decShf_eq : ∀ l a, decShf l = some a → l = [.sl (a.1.map Pce.row), .sl (a.2.1.map Pce.row), db a.2.2] := fun l a h => by
 unfold decShf at h
 split at h
 ·obtain ⟨b, hb, h⟩ := Option.bind_eq_some_iff.1 h
  obtain ⟨c, hc, rfl⟩ := Option.map_eq_some_iff.1 h
  rw [pcsOf_eq hb, pcsOf_eq hc]
 ·cases h
def ShOk (a : List Pce × List Pce × Bool) : Prop := a.1.length ≤ 500000 ∧ a.2.1.length ≤ 500000
def selShf := selX decShf ShOk fun a => .tup [.sl ((shiftL a.1 a.2.1 a.2.2).1.map Pce.row), .sl ((shiftL a.1 a.2.1 a.2.2).2.map Pce.row)]
theorem tc_shf {T : Tbl} (hT : TblOk Try.prog T) : TblOk Try.prog (tc 88 (rowPu selShf) T) := tc_x f88_ok decShf_eq (fun a h nn => shift_c _ _ _ h.1 h.2 nn) hT
theorem AllI.map {α β : Type} {P : Nat → β → Prop} {Q : Nat → α → Prop} {l : List α} (f : α → β) (h : AllI Q l) (hq : ∀ j x, Q j x → P j (f x)) : AllI P (l.map f) := fun j y hj => by
 rw [List.getElem?_map] at hj
 cases hx : l[j]? with
 | none => rw [hx] at hj; cases hj
 | some x => rw [hx] at hj; cases hj; exact hq j x (h j x hx)
structure Pln where
 rates : List Int
 ports : List Int
 pumps : List Bool
def bRow (b : Bool) : List D := [db b]
def plnD (p : Pln) : List D := [.sl (p.rates.map iRow), .sl (p.ports.map iRow), .sl (p.pumps.map bRow)]
def Pln.enc (p : Pln) : D := .agg (plnD p)
theorem intOf1_row (k : Int) : intOf1 (iRow k) = some k := rfl
theorem intOf1_eq {r : List D} {k : Int} (h : intOf1 r = some k) : r = iRow k := by
 unfold intOf1 at h
 split at h
 ·cases h; rfl
 ·cases h
def boolOf1 : List D → Option Bool
 | [.v (.bool b)] => some b
 | _ => Option.none
theorem boolOf1_row (b : Bool) : boolOf1 (bRow b) = some b := rfl
theorem boolOf1_eq {r : List D} {b : Bool} (h : boolOf1 r = some b) : r = bRow b := by
 unfold boolOf1 at h
 split at h
 ·cases h; rfl
 ·cases h
def plnOf1 : List D → Option Pln
 | [.sl a, .sl b, .sl c] => match lsOf intOf1 a, lsOf intOf1 b, lsOf boolOf1 c with
  | some x, some y, some z => some ⟨x, y, z⟩
  | _, _, _ => Option.none
 | _ => Option.none
theorem plnOf1_row (p : Pln) : plnOf1 (plnD p) = some p := by
 unfold plnD plnOf1
 simp only [lsOf_map intOf1_row, lsOf_map boolOf1_row]
theorem plnOf1_x (p : Pln) : plnOf1 [D.sl (p.rates.map iRow), .sl (p.ports.map iRow), .sl (p.pumps.map bRow)] = some p := plnOf1_row p
theorem plnOf1_eq {r : List D} {p : Pln} (h : plnOf1 r = some p) : r = plnD p := by
 unfold plnOf1 at h
 split at h
 ·split at h
  ·rename_i e1 e2 e3
   cases h
   rw [lsOf_eq (fun r x => intOf1_eq) e1, lsOf_eq (fun r x => intOf1_eq) e2, lsOf_eq (fun r x => boolOf1_eq) e3]
   rfl
  ·cases h
 ·cases h
def sumI {α : Type} (f : α → Int) : List α → Int
 | [] => 0
 | x :: l => f x + sumI f l
theorem sumI_app {α : Type} (f : α → Int) : ∀ (l m : List α), sumI f (l ++ m) = sumI f l + sumI f m
 | [], m => by simp [sumI]
 | x :: l, m => by rw [List.cons_append, sumI, sumI, sumI_app f l m]; omega
theorem sumI_snoc {α : Type} (f : α → Int) (l : List α) (x : α) : sumI f (l ++ [x]) = sumI f l + f x := by rw [sumI_app]; simp [sumI]
theorem sumI_sub {α : Type} (f g : α → Int) : ∀ (l : List α), sumI f l - sumI g l = sumI (fun x => f x - g x) l
 | [] => rfl
 | x :: l => by have := sumI_sub f g l; simp only [sumI]; omega
theorem sumI_congr {α : Type} {f g : α → Int} : ∀ {l : List α}, (∀ x ∈ l, f x = g x) → sumI f l = sumI g l
 | [], _ => rfl
 | x :: l, h => by rw [sumI, sumI, h x (List.mem_cons_self ..), sumI_congr fun y hy => h y (List.mem_cons_of_mem _ hy)]
theorem sumI_zero {α : Type} {f : α → Int} : ∀ {l : List α}, (∀ x ∈ l, f x = 0) → sumI f l = 0
 | [], _ => rfl
 | x :: l, h => by rw [sumI, h x (List.mem_cons_self ..), sumI_zero fun y hy => h y (List.mem_cons_of_mem _ hy)]; rfl
theorem sumI_nn {α : Type} {f : α → Int} : ∀ {l : List α}, (∀ x ∈ l, 0 ≤ f x) → 0 ≤ sumI f l
 | [], _ => by simp [sumI]
 | x :: l, h => by have a := h x (List.mem_cons_self ..); have b := sumI_nn fun y hy => h y (List.mem_cons_of_mem x hy); rw [sumI]; omega
theorem sumI_le {α : Type} {f : α → Int} (b : Int) : ∀ {l : List α}, (∀ x ∈ l, f x ≤ b) → sumI f l ≤ b * l.length
 | [], _ => by simp [sumI]
 | x :: l, h => by have a := h x (List.mem_cons_self ..); have c := sumI_le b fun y hy => h y (List.mem_cons_of_mem x hy); rw [sumI, List.length_cons, Int.natCast_add, Int.mul_add]; omega
theorem sumI_map {α β : Type} (f : β → Int) (g : α → β) : ∀ (l : List α), sumI f (l.map g) = sumI (fun x => f (g x)) l
 | [] => rfl
 | x :: l => by rw [List.map_cons, sumI, sumI, sumI_map f g l]
abbrev Fl := Int × Int × Int
def segFl (s : Seg) (r : Int) : Fl := (s.fr, s.to, r)
def portFl (x : Port) (r : Int) : Fl := (-1, x.node, r)
def flowsOf (n : Net) (p : Pln) : List Fl := List.zipWith segFl n.segs p.rates ++ List.zipWith portFl n.ports p.ports
def comeOf (v : Int) (t : Fl) : Int := if t.2.2 < 0 then (if t.1 = v then -t.2.2 else 0) else (if t.2.1 = v then t.2.2 else 0)
def leaveOf (v : Int) (t : Fl) : Int := if t.2.2 < 0 then (if t.2.1 = v then -t.2.2 else 0) else (if t.1 = v then t.2.2 else 0)
def netOf (v : Int) (t : Fl) : Int := (if t.2.1 = v then t.2.2 else 0) - (if t.1 = v then t.2.2 else 0)
theorem come_leave (v : Int) (t : Fl) : comeOf v t - leaveOf v t = netOf v t := by
 unfold comeOf leaveOf netOf
 split <;> split <;> split <;> omega
theorem come_nn (v : Int) (t : Fl) : 0 ≤ comeOf v t := by unfold comeOf; split <;> split <;> omega
theorem leave_nn (v : Int) (t : Fl) : 0 ≤ leaveOf v t := by unfold leaveOf; split <;> split <;> omega
theorem come_le {v : Int} {t : Fl} (h : -1000 ≤ t.2.2 ∧ t.2.2 ≤ 1000) : comeOf v t ≤ 1000 := by unfold comeOf; split <;> split <;> omega
theorem leave_le {v : Int} {t : Fl} (h : -1000 ≤ t.2.2 ∧ t.2.2 ≤ 1000) : leaveOf v t ≤ 1000 := by unfold leaveOf; split <;> split <;> omega
def amt (f : Int → Fl → Int) (T : List Fl) : List Int := (List.range 24).map fun v : Nat => sumI (f (v : Int)) T
def Bal (T : List Fl) : Prop := ∀ v : Nat, v < 24 → sumI (netOf (v : Int)) T = 0
theorem bal_iff (T : List Fl) : amt comeOf T = amt leaveOf T ↔ Bal T := by
 unfold amt Bal
 constructor
 ·intro h v hv
  have := congrArg (fun l => l[v]?) h
  simp [hv] at this
  have e := sumI_sub (comeOf v) (leaveOf v) T
  rw [sumI_congr fun t _ => come_leave v t] at e
  omega
 ·intro h
  refine List.map_congr_left fun v hv => ?_
  have := h v (List.mem_range.1 hv)
  have e := sumI_sub (comeOf v) (leaveOf v) T
  rw [sumI_congr fun t _ => come_leave v t] at e
  omega
def blk (th : List Bool) (k : Nat) (x : Seg × Int) : Bool := if (x.2 == 0) = true then false else if ((if x.2 < 0 then x.1.fr else x.1.to) == (k : Int)) = true then !(th.getD (if x.2 < 0 then x.1.to else x.1.fr).toNat false) else false
def pickB (E : List (Seg × Int)) (th : List Bool) (k : Nat) : Bool := if th.getD k true = true then false else !(E.any (blk th k))
def cntF (th : List Bool) : Nat := th.count false
def ordL (E : List (Seg × Int)) : Nat → List Bool → List Nat → List Nat
 | 0, _, out => out
 | m + 1, th, out => match (List.range th.length).find? (pickB E th) with
  | some k => ordL E m (th.set k true) (out ++ [k])
  | none => out
def ordB (n : Net) (p : Pln) : List Nat := ordL (n.segs.zip p.rates) n.nodes.length (List.replicate n.nodes.length false) []
theorem cntF_set : ∀ (th : List Bool) (k : Nat), th[k]? = some false → cntF (th.set k true) + 1 = cntF th
 | b :: th, 0, h => by simp at h; subst h; simp [cntF]
 | b :: th, k + 1, h => by
  have := cntF_set th k (by simpa using h)
  cases b <;> simp [cntF] at this ⊢ <;> omega
theorem getD_none {th : List Bool} {k : Nat} (h : th.getD k true = false) : th[k]? = some false := by
 rw [List.getD_eq_getElem?_getD] at h
 cases e : th[k]? with
 | none => rw [e] at h; cases h
 | some b => rw [e] at h; exact congrArg some h
theorem ord_pick {E : List (Seg × Int)} {th : List Bool} {out : List Nat} {k : Nat} (h0 : ∀ j, j < k → pickB E th j = false) (hk : pickB E th k = true) : ordL E (cntF th) th out = ordL E (cntF (th.set k true)) (th.set k true) (out ++ [k]) := by
 have hg : th.getD k true = false := by
  unfold pickB at hk
  split at hk
  ·cases hk
  ·rename_i h; simpa using h
 have hs := getD_none hg
 have hc := cntF_set th k hs
 have hkl : k < th.length := by
  rcases Nat.lt_or_ge k th.length with h | h
  ·exact h
  ·rw [List.getElem?_eq_none h] at hs; cases hs
 have hf : (List.range th.length).find? (pickB E th) = some k := by
  rw [List.find?_range_eq_some]
  exact ⟨hk, by simpa using hkl, fun j hj => by rw [h0 j hj]; rfl⟩
 rw [← hc, ordL, hf]
theorem ord_end {E : List (Seg × Int)} {th : List Bool} {out : List Nat} (h0 : ∀ j, j < th.length → pickB E th j = false) : ordL E (cntF th) th out = out := by
 have hf : (List.range th.length).find? (pickB E th) = none := by
  rw [List.find?_eq_none]
  intro j hj
  rw [h0 j (List.mem_range.1 hj)]
  simp
 cases cntF th with
 | zero => rfl
 | succ m => rw [ordL, hf]
def frOf (x : Seg × Int) : Int := if x.2 < 0 then x.1.to else x.1.fr
def toOf (x : Seg × Int) : Int := if x.2 < 0 then x.1.fr else x.1.to
theorem blk_eq (th : List Bool) (k : Nat) (x : Seg × Int) : blk th k x = true ↔ x.2 ≠ 0 ∧ toOf x = k ∧ th.getD (frOf x).toNat false = false := by
 unfold blk
 by_cases h : x.2 = 0
 ·rw [if_pos (beq_iff_eq.2 h)]
  simp [h]
 ·rw [if_neg (fun e => h (beq_iff_eq.1 e))]
  by_cases h2 : toOf x = (k : Int)
  ·have h3 : ((if x.2 < 0 then x.1.fr else x.1.to) == (k : Int)) = true := beq_iff_eq.2 h2
   rw [if_pos h3]
   simp [h, h2, frOf]
  ·have h3 : ¬ ((if x.2 < 0 then x.1.fr else x.1.to) == (k : Int)) = true := fun e => h2 (beq_iff_eq.1 e)
   rw [if_neg h3]
   simp [h2]
theorem pick_iff (E : List (Seg × Int)) (th : List Bool) (k : Nat) : pickB E th k = true ↔ th.getD k true = false ∧ ∀ x ∈ E, x.2 ≠ 0 → toOf x = k → th.getD (frOf x).toNat false = true := by
 unfold pickB
 split
 ·rename_i h; simp at h ⊢; simp [h]
 ·rename_i h
  constructor
  ·intro ha
   refine ⟨by simpa using h, fun x hx h1 h2 => ?_⟩
   cases h3 : th.getD (frOf x).toNat false with
   | true => rfl
   | false =>
    have := List.any_eq_true.2 ⟨x, hx, (blk_eq th k x).2 ⟨h1, h2, h3⟩⟩
    rw [this] at ha
    cases ha
  ·rintro ⟨h1, h2⟩
   have : E.any (blk th k) = false := by
    rw [List.any_eq_false]
    intro x hx hb
    obtain ⟨b1, b2, b3⟩ := (blk_eq th k x).1 hb
    rw [h2 x hx b1 b2] at b3
    cases b3
   rw [this]
   rfl
structure OrdInv (E : List (Seg × Int)) (N : Nat) (th : List Bool) (out : List Nat) : Prop where
 len : th.length = N
 mem : ∀ j, th.getD j false = true ↔ j ∈ out
 nd : out.Nodup
 cnt : cntF th + out.length = N
 good : ∀ q k : Nat, out[q]? = some k → ∀ x ∈ E, x.2 ≠ 0 → toOf x = (k : Int) → ∃ q' k' : Nat, q' < q ∧ out[q']? = some k' ∧ frOf x = (k' : Int)
def EdgeIn (E : List (Seg × Int)) (N : Nat) : Prop := ∀ x ∈ E, (0 ≤ x.1.fr ∧ x.1.fr < N) ∧ 0 ≤ x.1.to ∧ x.1.to < N
theorem fr_in {E : List (Seg × Int)} {N : Nat} (h : EdgeIn E N) {x : Seg × Int} (hx : x ∈ E) : 0 ≤ frOf x ∧ frOf x < N := by
 have := h x hx
 unfold frOf
 split <;> omega
theorem OrdInv.lt {E : List (Seg × Int)} {N : Nat} {th : List Bool} {out : List Nat} (h : OrdInv E N th out) {j : Nat} (hj : j ∈ out) : j < N := by
 have := (h.mem j).2 hj
 rw [List.getD_eq_getElem?_getD] at this
 rcases Nat.lt_or_ge j th.length with h1 | h1
 ·rw [← h.len]; exact h1
 ·rw [List.getElem?_eq_none h1] at this; cases this
theorem OrdInv.step {E : List (Seg × Int)} {N : Nat} {th : List Bool} {out : List Nat} (h : OrdInv E N th out) (hE : EdgeIn E N) {k : Nat} (hk : pickB E th k = true) : OrdInv E N (th.set k true) (out ++ [k]) := by
 obtain ⟨h1, h2⟩ := (pick_iff E th k).1 hk
 have hs := getD_none h1
 have hkl : k < th.length := by
  rcases Nat.lt_or_ge k th.length with h | h
  ·exact h
  ·rw [List.getElem?_eq_none h] at hs; cases hs
 have hno : k ∉ out := fun hm => by
  have := (h.mem k).2 hm
  rw [List.getD_eq_getElem?_getD, hs] at this
  cases this
 refine ⟨by rw [List.length_set]; exact h.len, fun j => ?_, ?_, ?_, fun q j hj x hx hr ht => ?_⟩
 ·rw [List.getD_eq_getElem?_getD, List.getElem?_set, List.mem_append, List.mem_singleton, ← h.mem j, List.getD_eq_getElem?_getD]
  by_cases e : k = j
  ·subst e; simp [hkl]
  ·simp [e, Ne.symm e]
 ·rw [List.nodup_append]
  exact ⟨h.nd, by simp, fun a ha b hb => by rw [List.mem_singleton.1 hb]; exact fun e => hno (e ▸ ha)⟩
 ·have := cntF_set th k hs
  have := h.cnt
  rw [List.length_append, List.length_singleton]
  omega
 ·rcases Nat.lt_or_ge q out.length with hq | hq
  ·rw [List.getElem?_append_left hq] at hj
   obtain ⟨q', k', a, b, c⟩ := h.good q j hj x hx hr ht
   exact ⟨q', k', a, by rw [List.getElem?_append_left (by omega)]; exact b, c⟩
  ·have hj2 : j = k := by
    rw [List.getElem?_append_right hq] at hj
    cases e : q - out.length with
    | zero => rw [e] at hj; cases hj; rfl
    | succ => rw [e] at hj; simp at hj
   subst hj2
   have h3 := h2 x hx hr ht
   have h4 := (h.mem _).1 h3
   obtain ⟨q', hq'⟩ := List.getElem?_of_mem h4
   have hl : q' < out.length := by
    rcases Nat.lt_or_ge q' out.length with h | h
    ·exact h
    ·rw [List.getElem?_eq_none h] at hq'; cases hq'
   exact ⟨q', _, by omega, by rw [List.getElem?_append_left hl]; exact hq', by have := (fr_in hE hx).1; omega⟩
theorem cntF_zero : ∀ {th : List Bool}, cntF th = 0 → ∀ j, th.getD j true = true
 | [], _, j => by simp
 | b :: th, h, 0 => by cases b <;> simp [cntF] at h ⊢
 | b :: th, h, j + 1 => by
  have := @cntF_zero th (by cases b <;> simp [cntF] at h ⊢; omega) j
  simpa using this
theorem ordL_inv {E : List (Seg × Int)} {N : Nat} (hE : EdgeIn E N) : ∀ (m : Nat) {th : List Bool} {out : List Nat}, cntF th = m → OrdInv E N th out → ∃ th', OrdInv E N th' (ordL E m th out) ∧ ∀ j, pickB E th' j = false
 | 0, th, out, hm, h => ⟨th, h, fun j => by unfold pickB; rw [cntF_zero hm j]; rfl⟩
 | m + 1, th, out, hm, h => by
  rw [ordL]
  cases hf : (List.range th.length).find? (pickB E th) with
  | none =>
   refine ⟨th, h, fun j => ?_⟩
   rcases Nat.lt_or_ge j th.length with h1 | h1
   ·have := List.find?_eq_none.1 hf j (List.mem_range.2 h1)
    simpa using this
   ·unfold pickB
    rw [List.getD_eq_getElem?_getD, List.getElem?_eq_none h1]
    rfl
  | some k =>
   have hk : pickB E th k = true := List.find?_some hf
   have hs := getD_none ((pick_iff E th k).1 hk).1
   have hc := cntF_set th k hs
   exact ordL_inv hE m (by omega) (h.step hE hk)
def UpOk (x : Seg × Int) : Prop := x.2 ≠ 0 → frOf x < toOf x
def DownOk (x : Seg × Int) : Prop := x.2 ≠ 0 → toOf x < frOf x
theorem init_inv (E : List (Seg × Int)) (N : Nat) : OrdInv E N (List.replicate N false) [] ∧ cntF (List.replicate N false) = N := by
 have hc : cntF (List.replicate N false) = N := by unfold cntF; rw [List.count_replicate_self]
 refine ⟨⟨List.length_replicate, fun j => ?_, List.nodup_nil, by rw [hc]; rfl, fun q k h => by simp at h⟩, hc⟩
 rw [List.getD_eq_getElem?_getD, List.getElem?_replicate]
 split <;> simp
theorem ord_inv {E : List (Seg × Int)} {N : Nat} (hE : EdgeIn E N) : ∃ th', OrdInv E N th' (ordL E N (List.replicate N false) []) ∧ ∀ j, pickB E th' j = false := by
 obtain ⟨h1, h2⟩ := init_inv E N
 exact ordL_inv hE N h2 h1
theorem ord_all {E : List (Seg × Int)} {N : Nat} {th : List Bool} {out : List Nat} (h : OrdInv E N th out) (hp : ∀ j, pickB E th j = false) (hE : EdgeIn E N) (hm : (∀ x ∈ E, UpOk x) ∨ ∀ x ∈ E, DownOk x) : ∀ j, th.getD j true = true := by
 have key : ∀ j, th.getD j true = false → ∃ x ∈ E, x.2 ≠ 0 ∧ toOf x = (j : Int) ∧ th.getD (frOf x).toNat true = false := fun j hj => by
  have h1 := hp j
  cases h2 : E.any (fun x => blk th j x) with
  | false =>
   have : pickB E th j = true := by
    unfold pickB
    rw [hj, if_neg (by simp)]
    rw [show E.any (blk th j) = false from h2]
    rfl
   rw [this] at h1
   cases h1
  | true =>
   obtain ⟨x, hx, hb⟩ := List.any_eq_true.1 h2
   obtain ⟨b1, b2, b3⟩ := (blk_eq th j x).1 hb
   refine ⟨x, hx, b1, b2, ?_⟩
   have := fr_in hE hx
   have hl : (frOf x).toNat < th.length := by rw [h.len]; omega
   rw [List.getD_eq_getElem?_getD, List.getElem?_eq_getElem hl] at b3 ⊢
   exact b3
 rcases hm with hm | hm
 ·intro j
  induction j using Nat.strongRecOn with
  | ind j ih =>
   cases e : th.getD j true with
   | true => rfl
   | false =>
    obtain ⟨x, hx, h1, h2, h3⟩ := key j e
    have := fr_in hE hx
    have hu := hm x hx h1
    rw [ih _ (by omega)] at h3
    cases h3
 ·have : ∀ d j, N - j = d → th.getD j true = true := by
   intro d
   induction d using Nat.strongRecOn with
   | ind d ih =>
    intro j hd
    cases e : th.getD j true with
    | true => rfl
    | false =>
     obtain ⟨x, hx, h1, h2, h3⟩ := key j e
     have := fr_in hE hx
     have hu := hm x hx h1
     rw [ih (N - (frOf x).toNat) (by omega) _ rfl] at h3
     cases h3
  intro j
  exact this _ j rfl
theorem cntF_all : ∀ {th : List Bool}, (∀ j, th.getD j true = true) → cntF th = 0
 | [], _ => rfl
 | b :: th, h => by
  have h0 : b = true := by simpa using h 0
  subst h0
  have := @cntF_all th fun j => by simpa using h (j + 1)
  simp [cntF] at this ⊢
  exact this
theorem ord_full {E : List (Seg × Int)} {N : Nat} (hE : EdgeIn E N) (hm : (∀ x ∈ E, UpOk x) ∨ ∀ x ∈ E, DownOk x) : (ordL E N (List.replicate N false) []).length = N := by
 obtain ⟨th, h, hp⟩ := ord_inv hE
 have := h.cnt
 rw [cntF_all (ord_all h hp hE hm)] at this
 omega
def c124_1 : C := (.ops false [oP 57 (.bin .add (.t 42) (cI 1)), oM 42 57])
def c124_2 : C := (.seq (.block 1 (.seq (.ops false [oM 44 42, oP 45 (.iaS 7 (.t 40) (.t 42)), oP 46 (.ld 7 true (.t 45)), oP 7 (.new [(.v (.string ({ data := #[] }))), (.v (.int .i64 0)), (.v (.int .i64 0)), (.v (.int .i64 0)), (.v (.int .i64 0)), (.v (.int .i64 0)), .mt]), oM 6 44, oS (.st 7 (.t 7) (.t 46))]) (.seq (.ops true [oP 47 (.fa 0 (.t 3)), oA 48 (.ld 1 false (.t 47)) [0],
 oM 49 6, oA 50 (.iaS 1 (.t 48) (.t 49)) [0, 2, 1], oA 51 (.ld 1 false (.t 50)) [1, 2, 0, 3], oP 52 (.fa 3 (.t 7)), oA 53 (.ld 1 false (.t 52)) [5], oA 54 (.mnx false (cI 1000) (.t 53)) [5, 6], oE 55 (.call 151 [(.t 51), (.t 54)]) [6, 5, 3, 0, 2, 1, 7, 4], oA 56 (.not (.t 55)) [4, 7, 1, 2, 0, 3, 5, 6, 8]]) (.cond (.t 56) (.seq (.ops false [oP 4 (.mv (cI 1))]) .ret) .skip)))) c124_1)
def c124_3 : C := (.seq (.ops false [oP 43 (.bin .lss (.t 42) (.t 41))]) (.seq (.cond (.t 43) .skip (.exit 0)) c124_2))
def c124_4 : C := (.seq (.ops false [oP 4 (.mv (cI 0))]) .ret)
def c124_5 : C := (.seq (.seq (.ops true [oP 69 (.ld 6 true (.t 2)), oP 70 (.ld 3 true (.t 3)), oA 71 (.call 154 [(.t 69), (.t 70)]) [1, 0], oA 72 (.len (.t 71)) [0, 1, 2], oP 73 (.fa 0 (.t 2)), oA 74 (.ld 1 false (.t 73)) [4], oA 75 (.len (.t 74)) [4, 5], oA 76 (.bin .lss (.t 72) (.t 75)) [5, 4, 2, 1, 0, 6, 3]]) (.cond (.t 76) (.seq (.ops false [oP 4 (.mv (cI 13))]) .ret) .skip)) c124_4)
def c124_6 : C := (.seq (.seq (.ops false [oP 61 (.ld 6 true (.t 2)), oP 62 (.ld 3 true (.t 3)), oB 63 (.call 153 [(.t 61), (.t 62)]), oP 8 (.new [(.v (.int .i64 0)), (.v (.int .i64 0)), (.v (.int .i64 0)), (.v (.int .i64 0)), (.v (.int .i64 0)), (.v (.int .i64 0)), (.v (.int .i64 0)), (.v (.int .i64 0)), (.v (.int .i64 0)), (.v (.int .i64 0)), (.v (.int .i64 0)), (.v (.int .i64 0)), (.v (.int .i64 0)),
 (.v (.int .i64 0)), (.v (.int .i64 0)), (.v (.int .i64 0)), (.v (.int .i64 0)), (.v (.int .i64 0)), (.v (.int .i64 0)), (.v (.int .i64 0)), (.v (.int .i64 0)), (.v (.int .i64 0)), (.v (.int .i64 0)), (.v (.int .i64 0)), (.v (.int .i64 0)), (.v (.int .i64 0)), (.v (.int .i64 0)), (.v (.int .i64 0)), (.v (.int .i64 0)), (.v (.int .i64 0)), (.v (.int .i64 0)), (.v (.int .i64 0)), (.v (.int .i64 0)),
 (.v (.int .i64 0)), (.v (.int .i64 0)), (.v (.int .i64 0)), (.v (.int .i64 0)), (.v (.int .i64 0)), (.v (.int .i64 0)), (.v (.int .i64 0)), (.v (.int .i64 0)), (.v (.int .i64 0)), (.v (.int .i64 0)), (.v (.int .i64 0)), (.v (.int .i64 0)), (.v (.int .i64 0)), (.v (.int .i64 0)), (.v (.int .i64 0))]), oS (.st 48 (.t 8) (.t 63))]) (.seq (.ops false [oP 64 (.fa 0 (.t 8)), oP 65 (.ld 24 true (.t 64)),
 oP 66 (.fa 24 (.t 8)), oP 67 (.ld 24 true (.t 66)), oP 68 (.eqa true [0, 0, 0, 0, 0, 0, 0, 0, 0, 0, 0, 0, 0, 0, 0, 0, 0, 0, 0, 0, 0, 0, 0, 0] (.t 65) (.t 67))]) (.cond (.t 68) (.seq (.ops false [oP 4 (.mv (cI 12))]) .ret) .skip))) c124_5)
def c124_7 : C := (.seq (.seq (.ops false [oP 58 (.fa 1 (.t 3)), oP 59 (.ld 1 false (.t 58)), oB 60 (.call 145 [(.t 59), (.c (.clo 152 [] []))])]) (.cond (.t 60) (.seq (.ops false [oP 4 (.mv (cI 1))]) .ret) .skip)) c124_6)
def c124_8 : C := (.seq (.seq (.ops false [oP 39 (.fa 1 (.t 2)), oP 40 (.ld 1 false (.t 39)), oP 41 (.len (.t 40)), oP 42 (.mv (cI 0))]) (.block 0 (.loop c124_3))) c124_7)
def c124_9 : C := (.seq (.seq (.ops false [oP 14 (.fa 0 (.t 3)), oP 15 (.ld 1 false (.t 14)), oP 16 (.len (.t 15)), oP 17 (.fa 1 (.t 2)), oP 18 (.ld 1 false (.t 17)), oP 19 (.len (.t 18)), oP 20 (.bin .neq (.t 16) (.t 19)), oM 21 20, oG 22 21 false (.fa 1 (.t 3)), oG 23 21 false (.ld 1 false (.t 22)), oG 24 21 false (.len (.t 23)), oG 25 21 false (.fa 2 (.t 2)), oG 26 21 false (.ld 1 false (.t 25)),
 oG 27 21 false (.len (.t 26)), oG 28 21 false (.bin .neq (.t 24) (.t 27)), oP 29 (.pick (.t 21) (cB true) (.t 28)), oM 30 29, oG 31 30 false (.fa 2 (.t 3)), oG 32 30 false (.ld 1 false (.t 31)), oG 33 30 false (.len (.t 32)), oG 34 30 false (.fa 3 (.t 2)), oG 35 30 false (.ld 1 false (.t 34)), oG 36 30 false (.len (.t 35)), oG 37 30 false (.bin .neq (.t 33) (.t 36)),
 oP 38 (.pick (.t 30) (cB true) (.t 37))]) (.cond (.t 38) (.seq (.ops false [oP 4 (.mv (cI 9))]) .ret) .skip)) c124_8)
def c124 : C := (.seq (.ops false [oP 2 (.box 6 (.t 0)), oP 3 (.box 3 (.t 1)), oP 4 (.mv (cI 0))]) (.seq (.seq (.ops false [oP 9 (.ld 6 true (.t 2)), oB 10 (.call 95 [(.t 9)]), oM 5 10]) (.seq (.ops false [oM 11 5, oP 12 (.bin .neq (.t 11) (cI 0))]) (.cond (.t 12) (.seq (.ops false [oM 13 5, oM 4 13]) .ret) .skip))) c124_9))
def r124 : List RV := [(.tmp 4)]
theorem c124_ok : ∃ code, Try.f124.body = some code ∧ compC Try.prog Try.f124.ntmps code = some (C.strip c124) := ⟨_, rfl, by kernel_rfl⟩
theorem r124_ok : compRes Try.prog Try.f124.results.toList = some r124 := by kernel_rfl
theorem f124_ok : fnOk Try.prog 124 = true := by kernel_rfl
def c151 : C := (.seq (.ops false [oP 4 (.mv (cB false))]) (.seq (.ops false [oM 5 0, oM 6 1, oP 7 (.neg (.t 6)), oP 8 (.bin .geq (.t 5) (.t 7)), oM 9 8, oG 10 9 true (.mv (.t 0)), oG 11 9 true (.mv (.t 1)), oG 12 9 true (.bin .leq (.t 10) (.t 11)), oP 13 (.pick (.t 9) (.t 12) (cB false)), oM 4 13]) .ret))
def r151 : List RV := [(.tmp 4)]
theorem c151_ok : ∃ code, Try.f151.body = some code ∧ compC Try.prog Try.f151.ntmps code = some (C.strip c151) := ⟨_, rfl, by kernel_rfl⟩
theorem r151_ok : compRes Try.prog Try.f151.results.toList = some r151 := by kernel_rfl
theorem f151_ok : fnOk Try.prog 151 = true := by kernel_rfl
def c152 : C := (.seq (.ops false [oP 2 (.mv (cB false))]) (.seq (.ops false [oM 3 0, oB 4 (.call 151 [(.t 3), (cI 1000)]), oP 5 (.not (.t 4)), oM 2 5]) .ret))
def r152 : List RV := [(.tmp 2)]
theorem c152_ok : ∃ code, Try.f152.body = some code ∧ compC Try.prog Try.f152.ntmps code = some (C.strip c152) := ⟨_, rfl, by kernel_rfl⟩
theorem r152_ok : compRes Try.prog Try.f152.results.toList = some r152 := by kernel_rfl
theorem f152_ok : fnOk Try.prog 152 = true := by kernel_rfl
def c153_1 : C := (.seq (.block 1 (.seq (.ops false [oM 15 13, oP 16 (.iaS 7 (.t 11) (.t 13)), oP 17 (.ld 7 true (.t 16)), oP 7 (.new [(.v (.string ({ data := #[] }))), (.v (.int .i64 0)), (.v (.int .i64 0)), (.v (.int .i64 0)), (.v (.int .i64 0)), (.v (.int .i64 0)), .mt]), oM 6 15, oS (.st 7 (.t 7) (.t 17))]) (.ops true [oP 18 (.fa 1 (.t 7)), oA 19 (.ld 1 false (.t 18)) [0],
 oP 20 (.fa 2 (.t 7)), oA 21 (.ld 1 false (.t 20)) [2], oP 22 (.fa 0 (.t 3)), oA 23 (.ld 1 false (.t 22)) [4], oM 24 6, oA 25 (.iaS 1 (.t 23) (.t 24)) [4, 6, 5], oA 26 (.ld 1 false (.t 25)) [5, 6, 4, 7], oE 27 (.call 175 [(.t 5), (.t 19), (.t 21), (.t 26)]) [7, 4, 6, 5, 2, 0, 8, 3, 1]]))) (.ops false [oP 28 (.bin .add (.t 13) (cI 1)), oM 13 28]))
def c153_2 : C := (.seq (.ops false [oP 14 (.bin .lss (.t 13) (.t 12))]) (.seq (.cond (.t 14) .skip (.exit 0)) c153_1))
def c153_3 : C := (.seq (.block 3 (.seq (.ops false [oM 34 32, oP 35 (.iaS 3 (.t 30) (.t 32)), oP 36 (.ld 3 true (.t 35)), oP 9 (.new [(.v (.string ({ data := #[] }))), (.v (.int .i64 0)), (.v (.int .i64 0))]), oM 8 34, oS (.st 3 (.t 9) (.t 36))]) (.ops true [oP 37 (.fa 1 (.t 9)), oA 38 (.ld 1 false (.t 37)) [0], oP 39 (.fa 1 (.t 3)), oA 40 (.ld 1 false (.t 39)) [2], oM 41 8,
 oA 42 (.iaS 1 (.t 40) (.t 41)) [2, 4, 3], oA 43 (.ld 1 false (.t 42)) [3, 4, 2, 5], oE 44 (.call 175 [(.t 5), (cI (-1)), (.t 38), (.t 43)]) [5, 2, 4, 3, 0, 6, 1]]))) (.ops false [oP 45 (.bin .add (.t 32) (cI 1)), oM 32 45]))
def c153_4 : C := (.seq (.ops false [oP 33 (.bin .lss (.t 32) (.t 31))]) (.seq (.cond (.t 33) .skip (.exit 2)) c153_3))
def c153_5 : C := (.seq (.ops false [oP 46 (.ld 48 true (.t 5)), oS (.st 48 (.t 4) (.t 46))]) .ret)
def c153_6 : C := (.seq (.seq (.ops false [oP 29 (.fa 2 (.t 2)), oP 30 (.ld 1 false (.t 29)), oP 31 (.len (.t 30)), oP 32 (.mv (cI 0))]) (.block 2 (.loop c153_4))) c153_5)
def c153 : C := (.seq (.ops false [oP 2 (.box 6 (.t 0)), oP 3 (.box 3 (.t 1)), oP 4 (.new [(.v (.int .i64 0)), (.v (.int .i64 0)), (.v (.int .i64 0)), (.v (.int .i64 0)), (.v (.int .i64 0)), (.v (.int .i64 0)), (.v (.int .i64 0)), (.v (.int .i64 0)), (.v (.int .i64 0)), (.v (.int .i64 0)), (.v (.int .i64 0)), (.v (.int .i64 0)), (.v (.int .i64 0)), (.v (.int .i64 0)), (.v (.int .i64 0)), (.v (.int .i64 0)),
 (.v (.int .i64 0)), (.v (.int .i64 0)), (.v (.int .i64 0)), (.v (.int .i64 0)), (.v (.int .i64 0)), (.v (.int .i64 0)), (.v (.int .i64 0)), (.v (.int .i64 0)), (.v (.int .i64 0)), (.v (.int .i64 0)), (.v (.int .i64 0)), (.v (.int .i64 0)), (.v (.int .i64 0)), (.v (.int .i64 0)), (.v (.int .i64 0)), (.v (.int .i64 0)), (.v (.int .i64 0)), (.v (.int .i64 0)), (.v (.int .i64 0)), (.v (.int .i64 0)),
 (.v (.int .i64 0)), (.v (.int .i64 0)), (.v (.int .i64 0)), (.v (.int .i64 0)), (.v (.int .i64 0)), (.v (.int .i64 0)), (.v (.int .i64 0)), (.v (.int .i64 0)), (.v (.int .i64 0)), (.v (.int .i64 0)), (.v (.int .i64 0)), (.v (.int .i64 0))])]) (.seq (.ops false [oP 5 (.new [(.v (.int .i64 0)), (.v (.int .i64 0)), (.v (.int .i64 0)), (.v (.int .i64 0)), (.v (.int .i64 0)), (.v (.int .i64 0)),
 (.v (.int .i64 0)), (.v (.int .i64 0)), (.v (.int .i64 0)), (.v (.int .i64 0)), (.v (.int .i64 0)), (.v (.int .i64 0)), (.v (.int .i64 0)), (.v (.int .i64 0)), (.v (.int .i64 0)), (.v (.int .i64 0)), (.v (.int .i64 0)), (.v (.int .i64 0)), (.v (.int .i64 0)), (.v (.int .i64 0)), (.v (.int .i64 0)), (.v (.int .i64 0)), (.v (.int .i64 0)), (.v (.int .i64 0)), (.v (.int .i64 0)), (.v (.int .i64 0)),
 (.v (.int .i64 0)), (.v (.int .i64 0)), (.v (.int .i64 0)), (.v (.int .i64 0)), (.v (.int .i64 0)), (.v (.int .i64 0)), (.v (.int .i64 0)), (.v (.int .i64 0)), (.v (.int .i64 0)), (.v (.int .i64 0)), (.v (.int .i64 0)), (.v (.int .i64 0)), (.v (.int .i64 0)), (.v (.int .i64 0)), (.v (.int .i64 0)), (.v (.int .i64 0)), (.v (.int .i64 0)), (.v (.int .i64 0)), (.v (.int .i64 0)), (.v (.int .i64 0)),
 (.v (.int .i64 0)), (.v (.int .i64 0))])]) (.seq (.seq (.ops false [oP 10 (.fa 1 (.t 2)), oP 11 (.ld 1 false (.t 10)), oP 12 (.len (.t 11)), oP 13 (.mv (cI 0))]) (.block 0 (.loop c153_2))) c153_6)))
def r153 : List RV := [(.cell 4 48 true)]
theorem c153_ok : ∃ code, Try.f153.body = some code ∧ compC Try.prog Try.f153.ntmps code = some (C.strip c153) := ⟨_, rfl, by kernel_rfl⟩
theorem r153_ok : compRes Try.prog Try.f153.results.toList = some r153 := by kernel_rfl
theorem f153_ok : fnOk Try.prog 153 = true := by kernel_rfl
def c154_1 : C := (.ops false [oP 63 (.bin .add (.t 30) (cI 1)), oM 30 63])
def c154_2 : C := (.seq (.block 3 (.seq (.ops false [oM 32 30, oP 33 (.iaS 7 (.t 28) (.t 30)), oP 34 (.ld 7 true (.t 33)), oP 9 (.new [(.v (.string ({ data := #[] }))), (.v (.int .i64 0)), (.v (.int .i64 0)), (.v (.int .i64 0)), (.v (.int .i64 0)), (.v (.int .i64 0)), .mt]), oM 8 32, oS (.st 7 (.t 9) (.t 34))]) (.seq (.ops true [oP 36 (.ld 7 true (.t 9)), oP 37 (.fa 0 (.t 3)),
 oA 38 (.ld 1 false (.t 37)) [1], oM 39 8, oA 40 (.iaS 1 (.t 38) (.t 39)) [1, 3, 2], oA 41 (.ld 1 false (.t 40)) [2, 3, 1, 4], oE 42 (.call 176 [(.t 36), (.t 41)]) [4, 1, 3, 2, 5, 0], oA 35 (.mv (.t 42)) [0, 5, 2, 3, 1, 4, 6], oA 43 (.ext (.t 35) 0) [6, 4, 1, 3, 2, 5, 0, 7], oA 44 (.ext (.t 35) 1) [6, 4, 1, 3, 2, 5, 0, 7], oA 10 (.mv (.t 43)) [7, 5, 4, 3, 2, 1, 0, 6, 8],
 oA 11 (.mv (.t 44)) [8, 7, 6, 5, 4, 3, 2, 1, 0, 10, 9]]) (.seq (.ops false [oP 45 (.fa 0 (.t 3)), oP 46 (.ld 1 false (.t 45)), oM 47 8, oP 48 (.iaS 1 (.t 46) (.t 47)), oP 49 (.ld 1 false (.t 48)), oP 50 (.bin .neq (.t 49) (cI 0)), oM 51 50, oG 52 51 true (.mv (.t 11)), oG 53 51 true (.mv (.t 7)), oG 54 51 true (.bin .eql (.t 52) (.t 53)), oP 55 (.pick (.t 51) (.t 54)
 (cB false)), oM 56 55, oG 57 56 true (.mv (.t 6)), oG 58 56 true (.mv (.t 10)), oG 59 56 true (.iaS 1 (.t 57) (.t 58)), oG 60 56 true (.ld 1 false (.t 59)), oG 61 56 true (.not (.t 60)), oP 62 (.pick (.t 56) (.t 61) (cB false))]) (.cond (.t 62) (.exit 1) .skip))))) c154_1)
def c154_3 : C := (.seq (.ops false [oP 31 (.bin .lss (.t 30) (.t 29))]) (.seq (.cond (.t 31) .skip (.exit 2)) c154_2))
def c154_4 : C := (.seq (.ops false [oM 64 6, oM 65 7, oP 66 (.iaS 1 (.t 64) (.t 65)), oS (.st 1 (.t 66) (cB true))]) (.seq (.ops false [oM 67 5, oM 68 7, oP 69 (.bsl 1 1 [(.v (.int .i64 0))] [(0, (.t 68))]), oP 70 (.app 1 8 (.t 67) (.t 69)), oM 5 70]) (.ops false [oP 7 (.mv (cI (-1)))])))
def c154_5 : C := (.seq (.seq (.ops false [oP 27 (.fa 1 (.t 2)), oP 28 (.ld 1 false (.t 27)), oP 29 (.len (.t 28)), oP 30 (.mv (cI 0))]) (.block 2 (.loop c154_3))) c154_4)
def c154_6 : C := (.ops false [oM 21 7, oP 22 (.bin .add (.t 21) (cI 1)), oM 7 22])
def c154_7 : C := (.seq (.block 1 (.seq (.seq (.ops false [oM 23 6, oM 24 7, oP 25 (.iaS 1 (.t 23) (.t 24)), oP 26 (.ld 1 false (.t 25))]) (.cond (.t 26) (.exit 1) .skip)) c154_5)) c154_6)
def c154_8 : C := (.seq (.seq (.ops false [oM 16 7, oP 17 (.fa 0 (.t 2)), oP 18 (.ld 1 false (.t 17)), oP 19 (.len (.t 18)), oP 20 (.bin .lss (.t 16) (.t 19))]) (.cond (.t 20) .skip (.exit 0))) c154_7)
def c154_9 : C := (.seq (.ops false [oM 71 5, oM 4 71]) .ret)
def c154 : C := (.seq (.ops false [oP 2 (.box 6 (.t 0)), oP 3 (.box 3 (.t 1)), oP 4 (.mv (.c .mt))]) (.seq (.ops false [oP 5 (.mv (.c .mt))]) (.seq (.ops false [oP 12 (.fa 0 (.t 2)), oP 13 (.ld 1 false (.t 12)), oP 14 (.len (.t 13)), oP 15 (.mks 1 1 [(.v (.bool false))] (.t 14)), oM 6 15]) (.seq .skip (.seq (.seq (.ops false [oP 7 (.mv (cI 0))]) (.block 0 (.loop c154_8))) c154_9)))))
def r154 : List RV := [(.tmp 4)]
theorem c154_ok : ∃ code, Try.f154.body = some code ∧ compC Try.prog Try.f154.ntmps code = some (C.strip c154) := ⟨_, rfl, by kernel_rfl⟩
theorem r154_ok : compRes Try.prog Try.f154.results.toList = some r154 := by kernel_rfl
theorem f154_ok : fnOk Try.prog 154 = true := by kernel_rfl
def c175_1 : C := (.seq (.ops false [oM 27 2, oP 28 (.bin .geq (.t 27) (cI 0))]) (.cond (.t 28) (.ops true [oM 29 0, oM 30 2, oA 31 (.nck (.t 29)) [0], oA 32 (.fa 0 (.t 31)) [0, 2], oA 33 (.iaA 24 1 (.t 32) (.t 30)) [2, 0, 1, 3], oA 34 (.ld 1 false (.t 33)) [3, 1, 0, 2, 4], oM 35 3, oA 36 (.bin .add (.t 34) (.t 35)) [4, 2, 0, 1, 3, 6, 5], oA 37 (.nck (.t 29)) [0],
 oA 38 (.fa 0 (.t 37)) [0, 8], oA 39 (.iaA 24 1 (.t 38) (.t 30)) [8, 7, 6, 5, 4, 3, 2, 0, 1, 9], oT (.st 1 (.t 39) (.t 36)) [9, 8, 6, 5, 4, 3, 2, 1, 0, 7, 10]]) .skip))
def c175_2 : C := (.seq (.seq (.ops false [oM 14 1, oP 15 (.bin .geq (.t 14) (cI 0))]) (.cond (.t 15) (.ops true [oM 16 0, oM 17 1, oA 18 (.nck (.t 16)) [0], oA 19 (.fa 24 (.t 18)) [0, 2], oA 20 (.iaA 24 1 (.t 19) (.t 17)) [2, 0, 1, 3], oA 21 (.ld 1 false (.t 20)) [3, 1, 0, 2, 4], oM 22 3, oA 23 (.bin .add (.t 21) (.t 22)) [4, 2, 0, 1, 3, 6, 5], oA 24 (.nck (.t 16)) [0],
 oA 25 (.fa 24 (.t 24)) [0, 8], oA 26 (.iaA 24 1 (.t 25) (.t 17)) [8, 7, 6, 5, 4, 3, 2, 0, 1, 9], oT (.st 1 (.t 26) (.t 23)) [9, 8, 6, 5, 4, 3, 2, 1, 0, 7, 10]]) .skip)) c175_1)
def c175 : C := (.seq (.seq (.ops false [oM 8 3, oP 9 (.bin .lss (.t 8) (cI 0))]) (.cond (.t 9) (.ops false [oM 10 2, oM 11 1, oM 12 3, oP 13 (.neg (.t 12)), oM 1 10, oM 2 11, oM 3 13]) .skip)) c175_2)
def r175 : List RV := []
theorem c175_ok : ∃ code, Try.f175.body = some code ∧ compC Try.prog Try.f175.ntmps code = some (C.strip c175) := ⟨_, rfl, by kernel_rfl⟩
theorem r175_ok : compRes Try.prog Try.f175.results.toList = some r175 := by kernel_rfl
theorem f175_ok : fnOk Try.prog 175 = true := by kernel_rfl
def c176_1 : C := (.seq (.ops true [oP 12 (.fa 1 (.t 2)), oA 13 (.ld 1 false (.t 12)) [0], oP 14 (.fa 2 (.t 2)), oA 15 (.ld 1 false (.t 14)) [2], oA 4 (.mv (.t 13)) [0, 1], oA 5 (.mv (.t 15)) [2, 1, 0, 4, 3]]) .ret)
def c176 : C := (.seq (.ops false [oP 2 (.box 7 (.t 0)), oP 4 (.mv (cI 0)), oP 5 (.mv (cI 0))]) (.seq (.seq (.ops false [oM 6 1, oP 7 (.bin .lss (.t 6) (cI 0))]) (.cond (.t 7) (.seq (.ops true [oP 8 (.fa 2 (.t 2)), oA 9 (.ld 1 false (.t 8)) [0], oP 10 (.fa 1 (.t 2)), oA 11 (.ld 1 false (.t 10)) [2], oA 4 (.mv (.t 9)) [0, 1], oA 5 (.mv (.t 11)) [2, 1, 0, 4, 3]]) .ret) .skip)) c176_1))
def r176 : List RV := [(.tmp 4), (.tmp 5)]
theorem c176_ok : ∃ code, Try.f176.body = some code ∧ compC Try.prog Try.f176.ntmps code = some (C.strip c176) := ⟨_, rfl, by kernel_rfl⟩
theorem r176_ok : compRes Try.prog Try.f176.results.toList = some r176 := by kernel_rfl
theorem f176_ok : fnOk Try.prog 176 = true := by kernel_rfl
end Go.Proofs.Ytadjhfjiimgddaa
