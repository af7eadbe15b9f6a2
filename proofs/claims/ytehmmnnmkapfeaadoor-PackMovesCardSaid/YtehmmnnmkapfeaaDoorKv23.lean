/- PackMoves: PkF CodePS Pk8 Spn Laid CtH CodePC CodeSE PkB CodePV Pv1. -/
import Derived.Test.YtehmmnnmkapfeaaDoorKv19
import Derived.Test.YtehmmnnmkapfeaaDoorKv20
import Derived.Test.YtehmmnnmkapfeaaDoorKv12
import Derived.Test.YtehmmnnmkapfeaaDoorKv3
import Derived.Test.YtehmmnnmkapfeaaDoorProg
import Derived.Test.YtehmmnnmkapfeaaDoorKv18
import Derived.Test.YtehmmnnmkapfeaaDoorKv13
import Derived.Test.YtehmmnnmkapfeaaDoorRows
import Derived.Test.YtehmmnnmkapfeaaDoorKv4
import Derived.OpenShut
import Derived.LaidLaws
import Derived.ChangeArms
import Derived.Test.YtehmmnnmkapfeaaDoorKv22
set_option linter.unusedSimpArgs false
set_option linter.unusedVariables false
set_option maxRecDepth 100000

/- Fills of a network, the first of them the caller's own. -/
namespace Go.Proofs.YtehmmnnmkapfeaaDoor
open Go
structure FlsIn (segs : List Seg) (fs : List (List Pce)) : Prop where
 len : fs.length = segs.length
 at' : ∀ j (h : j < segs.length), FillIn (segs[j]).cap (fA fs j)
def FlsO (L : List (List D)) (n : Net) : D → Hp → Prop := fun v H' => ∃ at' g g1 f0 rest, SrcOk L at' ∧ FlsIn n.segs (f0 :: rest) ∧ v = .own (0, 49) g 0 (rest.length + 1) ∧ H' = ((Hp.none.put (0, 5049) ⟨g1, 2, f0.map Pce.row⟩).put (0, 49) ⟨g, 1, [.own (0, 5049) g1 0 f0.length] :: rest.map fR⟩).put (0, 38) (sE L at')
def FsF (n : Net) (g m : Nat) (j : Nat) : List (Nat × D) := [(0, .ptr (0, 38) 0 0 0), (2, di 4), (7, .own (0, 49) g 0 m), (11, .sl (n.segs.map Seg.row)), (12, di n.segs.length), (13, di (j : Int))]
def FsA (L : List (List D)) (at' : Int) : Hp := (Hp.none.put (0, 49) ⟨0, 1, []⟩).put (0, 38) (sE L at')
def FsB (L : List (List D)) (at' : Int) (g g1 : Nat) (f0 : List Pce) (rest : List (List Pce)) : Hp := ((Hp.none.put (0, 5049) ⟨g1, 2, f0.map Pce.row⟩).put (0, 49) ⟨g, 1, [.own (0, 5049) g1 0 f0.length] :: rest.map fR⟩).put (0, 38) (sE L at')
def FsQ (L : List (List D)) (at' : Int) (g1 : Nat) (f0 : List Pce) : Hp := ((Hp.none.put (0, 22) ⟨g1, 2, f0.map Pce.row⟩).put (0, 49) ⟨1, 1, [[.own (0, 22) g1 0 f0.length]]⟩).put (0, 38) (sE L at')
theorem ref_pce (js : List Nm) (x : Pce) : refsInL js x.row = true := rfl
theorem pce_v (x : Pce) : rowV x.row = true := rfl
theorem fR_v (x : List Pce) : rowV (fR x) = true := rfl
theorem ren_pces (i j : Nm) (w : List Pce) : (w.map Pce.row).map (renDs i j) = w.map Pce.row := by
 rw [List.map_map]
 exact List.map_congr_left fun x _ => rfl
theorem fs_ren (L : List (List D)) (at' : Int) (n : Net) (g1 : Nat) (f0 : List Pce) (m j : Nat) : Weak [(0, 38), (0, 49), (0, 5049)] ⟨fr (FsF n 1 m j), FsQ L at' g1 f0⟩ ⟨fr (FsF n 1 m j), FsB L at' 1 g1 f0 []⟩ := by
 refine (weak_ren (0, 22) (0, 5049) (by simp only [↓vp, vv, ↓reduceIte, simprocAttr, FsQ]) (by simp)).trans ?_
 exact weak_eq [] [(0, 38), (0, 49), (0, 5049)] (FsF n 1 m j) (by simp only [↓vp, vv, ↓reduceIte, simprocAttr, coverS, FsF, D.ren, rnm]) (by simp only [↓vp, vv, ↓reduceIte, simprocAttr, refsF, FsF]) (by simp only [↓vp, vv, ↓reduceIte, simprocAttr, hren_at, FsQ, En.ren, renDs, D.ren, rnm, sE, ren_pces, ref_pce]) (by simp) (by simp only [↓vp, vv, ↓reduceIte, simprocAttr, hren_at, FsQ, FsB, En.ren, renDs, D.ren, rnm, sE, ren_pces]; try rfl)
def FsW (L : List (List D)) (at' : Int) (g g1 g2 : Nat) (f0 : List Pce) (rest : List (List Pce)) (f : List Pce) : List (Nm × En) := [((0, 38), sE L at'), ((0, 49), ⟨g, 1, [.own (0, 5049) g1 0 f0.length] :: (rest.map fR ++ [[.own (0, 22) g2 0 f.length]])⟩), ((0, 5049), ⟨g1, 2, f0.map Pce.row⟩), ((0, 22), ⟨g2, 2, f.map Pce.row⟩)]
theorem rows_fz {α : Type} (f : α → List D) (h : ∀ x, rowV (f x) = true) (ks : List Nm) (H : Hp) (l : List α) : (l.map f).map (fun r => r.map (lendK ks H)) = l.map f := by
 rw [List.map_map]
 exact List.map_congr_left fun x _ => (rowV_ok (h x) ks H).2.2
theorem listB_app {α : Type} (p : α → Bool) : ∀ a b : List α, listB p (a ++ b) = (listB p a && listB p b)
 | [], b => by simp [listB]
 | x :: a, b => by rw [List.cons_append, listB, listB_app p a b, listB]; cases p x <;> cases listB p a <;> cases listB p b <;> rfl
theorem fs_frz (L : List (List D)) (at' : Int) (n : Net) (g g1 g2 : Nat) (f0 : List Pce) (rest : List (List Pce)) (f : List Pce) (m j : Nat) : Weak [(0, 38), (0, 49), (0, 5049)] ⟨fr (FsF n g m j), hp (FsW L at' g g1 g2 f0 rest f)⟩ ⟨fr (FsF n g m j), FsB L at' g g1 f0 (rest ++ [f])⟩ := by
 have ra := fun ks H => rows_ok fR fR_v ks H rest
 have rb := fun ks H => fun w => rows_ok Pce.row pce_v ks H w
 have rc := fun ks H => rows_fz fR fR_v ks H rest
 have rd := fun ks H => fun w => rows_fz Pce.row pce_v ks H w
 have re := fun w => rows_pl Pce.row pce_v w
 have t3 : (f.map Pce.row).take f.length = f.map Pce.row := List.take_of_length_le (by simp)
 have rf : (rest ++ [f]).map fR = rest.map fR ++ [[.sl (f.map Pce.row)]] := by rw [List.map_append]; rfl
 have rg : ∀ js, (∀ j ∈ rest, refsInL js (fR j) = true) = True := fun js => eq_true fun j _ => rfl
 exact (Weak.refl [(0, 38), (0, 49), (0, 5049)] _).trans (weak_fz [(0, 22)] [(0, 38), (0, 49), (0, 5049)] (l := (FsF n g m j)) (h := (FsW L at' g g1 g2 f0 rest f)) (l' := (FsF n g m j)) (H' := (FsB L at' g g1 f0 (rest ++ [f]))) (by simp only [↓vp, vv, ↓reduceIte, simprocAttr, vz, listB, okKd, okK, lendKd, lendK, lendOk1B, frzF, Option.map_some, cond_true, cond_false, decide_true, decide_false, Bool.and_self, FsW, FsF, FsB, sE, listB_app, ra, rb, rc, rd, re, rf, rg, t3, ref_pce, List.map_append, List.map_cons, List.map_nil]) (by simp only [↓vp, vv, ↓reduceIte, simprocAttr, vz, listB, okKd, okK, lendKd, lendK, lendOk1B, frzF, Option.map_some, cond_true, cond_false, decide_true, decide_false, Bool.and_self, FsW, FsF, FsB, sE, listB_app, ra, rb, rc, rd, re, rf, rg, t3, ref_pce, List.map_append, List.map_cons, List.map_nil]) (by simp only [↓vp, vv, ↓reduceIte, simprocAttr, vz, listB, okKd, okK, lendKd, lendK, lendOk1B, frzF, Option.map_some, cond_true, cond_false, decide_true, decide_false, Bool.and_self, FsW, FsF, FsB, sE, listB_app, ra, rb, rc, rd, re, rf, rg, t3, ref_pce, List.map_append, List.map_cons, List.map_nil]; try rfl) (by simp only [↓vp, vv, ↓reduceIte, simprocAttr, vz, listB, okKd, okK, lendKd, lendK, lendOk1B, frzF, Option.map_some, cond_true, cond_false, decide_true, decide_false, Bool.and_self, FsW, FsF, FsB, sE, listB_app, ra, rb, rc, rd, re, rf, rg, t3, ref_pce, List.map_append, List.map_cons, List.map_nil]; try rfl) (by simp only [↓vp, vv, ↓reduceIte, simprocAttr, vz, listB, okKd, okK, lendKd, lendK, lendOk1B, frzF, Option.map_some, cond_true, cond_false, decide_true, decide_false, Bool.and_self, refsF, FsW, FsF, FsB, sE, listB_app, ra, rb, rc, rd, re, rf, rg, t3, ref_pce, List.map_append, List.map_cons, List.map_nil]) (by simp only [↓vp, vv, ↓reduceIte, simprocAttr, vz, listB, okKd, okK, lendKd, lendK, lendOk1B, frzF, Option.map_some, cond_true, cond_false, decide_true, decide_false, Bool.and_self, FsW, FsF, FsB, sE, listB_app, ra, rb, rc, rd, re, rf, rg, t3, ref_pce, List.map_append, List.map_cons, List.map_nil]) (by simp))
def FsT : Tbl := tc 31 rowFlO T0
theorem FsT_ok : TblOk Tryd.prog FsT := tc_flO (T0_ok _)
def FsS (L : List (List D)) (n : Net) : Nat → (SA L × Nat × List Pce × List (List Pce)) → St
 | 0, u => ⟨fr (FsF n 0 0 0), FsA L u.1.1⟩
 | j + 1, u => ⟨fr (FsF n (j + 1) (j + 1) (j + 1)), FsB L u.1.1 (j + 1) u.2.1 u.2.2.1 u.2.2.2⟩
def FsP (L : List (List D)) (n : Net) (j : Nat) (u : SA L × Nat × List Pce × List (List Pce)) : Prop := match j with
 | 0 => True
 | j + 1 => u.2.2.2.length = j ∧ ∀ k, (h : k < n.segs.length) → k < j + 1 → FillIn (n.segs[k]).cap (fA (u.2.2.1 :: u.2.2.2) k)
theorem fs_js (L : List (List D)) (at' : Int) : ∀ (j : Nm) (x : En), (Hp.none.put (0, 38) (sE L at')) j = some x → j ∈ [((0, 38) : Nm), (0, 49), (0, 5049)] := fun j x h => by
 by_cases hj : j = (0, 38)
 ·rw [hj]; exact List.mem_cons_self ..
 ·rw [Hp.put_other _ hj] at h; cases h
theorem fs_js' (L : List (List D)) (at' : Int) : ∀ j ∈ [((0, 38) : Nm), (0, 49), (0, 5049)], ((Hp.none.put (0, 38) (sE L at')) j).isSome = true ∨ j ∈ nms (0, 49) := fun j h => by
 rcases List.mem_cons.1 h with h | h
 ·rw [h, Hp.put_same]; exact .inl rfl
 ·rcases List.mem_cons.1 h with h | h
  ·rw [h]; exact .inr (by simp [nms])
  ·rw [List.mem_singleton.1 h]; exact .inr (by simp [nms])
set_option maxHeartbeats 16000000 in
theorem Fills_o (L : List (List D)) (at' : Int) (ho : SrcOk L at') (n : Net) (hn : NetOk n) : CallsA Tryd.prog 40 [.ptr (0, 38) 0 0 0, n.enc, di 4] (Hp.none.put (0, 38) (sE L at')) (0, 49) (FlsO L n) := by
 obtain ⟨code, h1, h2⟩ := c40_ok
 refine callsA_ofM FsT_ok mixed (N := fun t => if t = 24 then (0, 49) else if t = 22 then (0, 22) else (1, t)) Tryd.func40 h1 h2 r40_ok [(0, 38), (0, 49), (0, 5049)] true (fs_js L at') (fs_js' L at') (by simp [Tryd.f40]) ?_
 have hsl := hn.slen
 have hnl := hn.nlen
 simp (maxSteps:=500000) only [↓vp, vv, ↓reduceIte, simprocAttr, c40, r40, c40_1, c40_2, c40_3, FsT, ho, Net.enc, netD]
 refine rng_loopP n.segs.length (FsS L n) (FsP L n) (u0 := (⟨at', ho⟩, 0, [], [])) ((weak_own 7 (0, 49) 1 (by simp only [↓vp, vv, ↓reduceIte, simprocAttr, ]) (by simp only [↓vp, vv, ↓reduceIte, simprocAttr, ])).trans (weak_eqA [] [(0, 38), (0, 49), (0, 5049)] (FsF n 0 0 0) (by refine ⟨?_, ?_, ?_, by simp, ?_⟩ <;> (simp only [↓vp, vv, ↓reduceIte, simprocAttr, coverS, refsF, FsF, FsA, sE] <;> try rfl)))) trivial (fun j hj u hP => ?_) (fun u hP => ?_)
 ·obtain ⟨a, g1, f0, rest⟩ := u
  have hj' : (j : Int) < n.segs.length := by omega
  have w1 := idx_next (j := j) (by omega)
  have gs := getD_map Seg.row n.segs j hj
  have hs : 1 ≤ (n.segs[j]).cap ∧ (n.segs[j]).cap ≤ 1000 := by
   obtain ⟨k, x, y, _, _, _, h, _⟩ := hn.segs.mem (List.getElem_mem hj)
   exact h.cap
  have oa := a.2
  obtain ⟨sg, hsg⟩ : ∃ sg, n.segs[j] = sg := ⟨_, rfl⟩
  rw [hsg] at gs hs
  have hc : 1 ≤ sg.cap ∧ sg.cap ≤ 1000000 := by omega
  have y1 : (j + 1) * 24 ≤ 140737488355328 := by omega
  have y2 : j + 1 ≤ 4611686018427387904 := by omega
  rcases j with _ | j
  ·show vc _ _ _ _ _ ⟨fr (FsF n 0 0 0), FsA L a.1⟩
   have w0 : IntKind.i64.wrap 1 = 1 := by decide
   have hj0 : (0 : Int) < n.segs.length := hj'
   simp (maxSteps:=500000) only [↓vp, vv, ↓reduceIte, simprocAttr, c40, r40, c40_1, c40_2, c40_3, FsT, rowFlO, SrcO_all, oa, hc, FsF, FsA, sE, hj, hj0, gs, Seg.row, Int.toNat_natCast, idx_nn]
   intro a2 g2 f hf
   refine rng_nextP (st := FsS L n) (P := FsP L n) hj (a2, g2, f, []) ?_ ⟨rfl, fun k h hk => ?_⟩
   ·show Weak _ _ ⟨fr (FsF n 1 1 1), FsB L a2.1 1 g2 f []⟩
    exact Weak.trans (weak_eqA [] [(0, 38), (0, 49), (0, 22), (0, 5049)] (FsF n 1 1 1) (by refine ⟨?_, ?_, ?_, by simp, ?_⟩ <;> (simp only [↓vp, vv, ↓reduceIte, simprocAttr, coverS, refsF, FsF, FsQ, sE, w0, ref_pce] <;> try rfl))) (fs_ren L a2.1 n g2 f 1 1)
   ·obtain rfl : k = 0 := Nat.lt_one_iff.1 hk
    rw [hsg]
    exact hf
  ·show vc _ _ _ _ _ ⟨fr (FsF n (j + 1) (j + 1) (j + 1)), FsB L a.1 (j + 1) g1 f0 rest⟩
   obtain ⟨hr, hP⟩ := hP
   dsimp only at hr hP
   have hk : ([D.own (0, 5049) g1 0 f0.length] :: rest.map fR).length = j + 1 := by simp [hr]
   simp (maxSteps:=500000) only [↓vp, vv, ↓reduceIte, simprocAttr, c40, r40, c40_1, c40_2, c40_3, FsT, rowFlO, SrcO_all, oa, hc, FsF, FsB, sE, hj, hj', gs, hk, y1, y2, Seg.row, Int.toNat_natCast, idx_nn]
   intro a2 g2 f hf
   refine rng_nextP (st := FsS L n) (P := FsP L n) hj (a2, g1, f0, rest ++ [f]) ?_ ⟨by simp [hr], fun k h hk => ?_⟩
   ·show Weak _ _ ⟨fr (FsF n (j + 1 + 1) (j + 1 + 1) (j + 1 + 1)), FsB L a2.1 (j + 1 + 1) g1 f0 (rest ++ [f])⟩
    have rg : ∀ js, (∀ j ∈ rest, refsInL js (fR j) = true) = True := fun js => eq_true fun j _ => rfl
    exact (weak_eq [] [(0, 38), (0, 49), (0, 5049), (0, 22)] (FsF n (j + 1 + 1) (j + 1 + 1) (j + 1 + 1)) (H' := hp (FsW L a2.1 (j + 1 + 1) g1 g2 f0 rest f)) (by simp only [↓vp, vv, ↓reduceIte, simprocAttr, coverS, FsF, w1]) (by simp only [↓vp, vv, ↓reduceIte, simprocAttr, refsF, FsF]) (by simp only [↓vp, vv, ↓reduceIte, simprocAttr, ref_pce, rg]) (by simp) (by simp only [↓vp, vv, ↓reduceIte, simprocAttr, hp_cons, hp_nil, FsW, sE, List.cons_append]; try rfl)).trans (fs_frz L a2.1 n (j + 1 + 1) g1 g2 f0 rest f (j + 1 + 1) (j + 1 + 1))
   ·by_cases hkj : k < j + 1
    ·have := hP k h hkj
     unfold fA at this ⊢
     rw [← List.cons_append, List.getD_eq_getElem?_getD, List.getElem?_append_left (by simp; omega), ← List.getD_eq_getElem?_getD]
     exact this
    ·obtain rfl : k = j + 1 := by omega
     rw [hsg]
     have : fA (f0 :: (rest ++ [f])) (j + 1) = f := by
      unfold fA
      rw [← List.cons_append, List.getD_eq_getElem?_getD, List.getElem?_append_right (by simp; omega)]
      simp [hr]
     rw [this]
     exact hf
 ·obtain ⟨a, g1, f0, rest⟩ := u
  obtain ⟨m, hm⟩ : ∃ m, n.segs.length = m + 1 := ⟨n.segs.length - 1, by omega⟩
  rw [hm] at hP
  obtain ⟨hr, hP⟩ := hP
  dsimp only at hr hP
  have hin : FlsIn n.segs (f0 :: rest) := ⟨by rw [List.length_cons, hr, hm], fun j h => hP j h (by omega)⟩
  have e : FsS L n n.segs.length (a, g1, f0, rest) = ⟨fr (FsF n n.segs.length n.segs.length n.segs.length), FsB L a.1 n.segs.length g1 f0 rest⟩ := by rw [hm]; rfl
  rw [e]
  have hk : ([D.own (0, 5049) g1 0 f0.length] :: rest.map fR).length = n.segs.length := by simp [hr, hm]
  have tk : ([D.own (0, 5049) g1 0 f0.length] :: rest.map fR).take n.segs.length = [D.own (0, 5049) g1 0 f0.length] :: rest.map fR := List.take_of_length_le (by omega)
  simp (maxSteps:=500000) only [↓vp, vv, ↓reduceIte, simprocAttr, c40, r40, c40_1, c40_2, c40_3, r40, FsT, FsF, FsB, sE, Int.lt_irrefl, hk, tk]
  have hq : n.segs.length = rest.length + 1 := by rw [hm, hr]
  exact ⟨⟨fun j _ => rfl, fun j _ => rfl⟩, a.1, n.segs.length, g1, f0, rest, a.2, hin, by rw [← hq], rfl⟩
theorem flsO_all (L : List (List D)) (n : Net) (K : D → Hp → Prop) : (∀ v H', FlsO L n v H' → K v H') = ∀ (a : SA L) (g g1 : Nat) (f0 : List Pce) (rest : List (List Pce)), FlsIn n.segs (f0 :: rest) → K (.own (0, 49) g 0 (rest.length + 1)) (((Hp.none.put (0, 5049) ⟨g1, 2, f0.map Pce.row⟩).put (0, 49) ⟨g, 1, [.own (0, 5049) g1 0 f0.length] :: rest.map fR⟩).put (0, 38) (sE L a.1)) :=
 propext ⟨fun h a g g1 f0 rest h2 => h _ _ ⟨a.1, g, g1, f0, rest, a.2, h2, rfl, rfl⟩, fun h v H' ⟨at', g, g1, f0, rest, h1, h2, e1, e2⟩ => by rw [e1, e2]; exact h ⟨at', h1⟩ g g1 f0 rest h2⟩
def rowFls : List D → Hp → Nm → Option (Prop × (D → Hp → Prop)) := fun args Hs nn =>
 match args with
 | [.ptr i g r c, .agg x, .v (.int .i64 k)] =>
  match Hs i, netOf1 x with
  | some ⟨_, _, [[.sl L, .v (.int .i64 at')]]⟩, some n => some ((Hs = Hp.none.put i (sE L at') ∧ g = 0 ∧ r = 0 ∧ c = 0 ∧ i = (0, 38) ∧ nn = (0, 49) ∧ k = 4) ∧ SrcOk L at' ∧ NetOk n, FlsO L n)
  | _, _ => Option.none
 | _ => Option.none
theorem fls_ex {L : List (List D)} {at' : Int} (ho : SrcOk L at') {n : Net} (hn : NetOk n) : ∃ v H', FlsO L n v H' := by
 have h1 := hn.slen
 have h2 := hn.nlen
 have hc : ∀ s, s ∈ n.segs → 1 ≤ s.cap := fun s hs => by
  obtain ⟨k, x, y, _, _, _, h, _⟩ := hn.segs.mem hs
  exact h.cap.1
 obtain ⟨s0, ss, hs⟩ : ∃ s0 ss, n.segs = s0 :: ss := by
  match hh : n.segs with
  | [] => rw [hh] at h1; simp at h1; omega
  | s :: l => exact ⟨s, l, rfl⟩
 refine ⟨_, _, at', 0, 0, [⟨0, s0.cap⟩], ss.map (fun s => [⟨0, s.cap⟩]), ho, ⟨by rw [hs]; simp, fun j h => ?_⟩, rfl, rfl⟩
 have e : fA ([⟨0, s0.cap⟩] :: ss.map (fun s => [(⟨0, s.cap⟩ : Pce)])) j = [⟨0, (n.segs[j]).cap⟩] := by
  have e1 : [(⟨0, s0.cap⟩ : Pce)] :: ss.map (fun s => [(⟨0, s.cap⟩ : Pce)]) = n.segs.map fun s => [⟨0, s.cap⟩] := by rw [hs]; rfl
  rw [e1]
  unfold fA
  rw [List.getD_eq_getElem?_getD, List.getElem?_map, List.getElem?_eq_getElem h]
  rfl
 rw [e]
 exact fill_ex (hc _ (List.getElem_mem h))
theorem tc_fls {T : Tbl} (hT : TblOk Tryd.prog T) : TblOk Tryd.prog (tc 40 rowFls T) :=
 tc_row f40_ok (fun args Hs nn pre R hr hp => by
  unfold rowFls at hr
  split at hr
  ·split at hr
   ·rename_i e
    cases hr
    obtain ⟨⟨h1, rfl, rfl, rfl, rfl, rfl, rfl⟩, h2, h3⟩ := hp
    rw [h1, netOf1_eq e]
    exact ⟨fls_ex h2 h3, Fills_o _ _ h2 _ h3⟩
   ·cases hr
  ·cases hr) hT
def c6_1 : C := (.ops false [oM 42 12, oP 43 (.bin .add (.t 42) (cI 1)), oM 12 43])
def c6_2 : C := (.seq (.block 1 (.seq (.ops true [oM 44 7, oM 45 0, oM 46 12, oA 47 (.iaS 1 (.t 45) (.t 46)) [2, 1], oA 48 (.ld 1 false (.t 47)) [1, 2, 3], oA 49 (.cvi .i64 (.t 48)) [3, 2, 1, 4], oA 50 (.bsl 1 1 [(.v (.int .i64 0))] [(0, (.t 49))]) [4, 1, 2, 3, 5], oA 51 (.app 1 8 (.t 44) (.t 50)) [5, 3, 2, 1, 4, 6, 0], oM 52 8, oM 53 1, oM 54 12,
 oA 55 (.iaS 1 (.t 53) (.t 54)) [10, 9], oA 56 (.ld 1 false (.t 55)) [9, 10, 11], oA 57 (.cvi .i64 (.t 56)) [11, 10, 9, 12], oA 58 (.bsl 1 1 [(.v (.int .i64 0))] [(0, (.t 57))]) [12, 9, 10, 11, 13], oA 59 (.app 1 8 (.t 52) (.t 58)) [0, 6, 4, 1, 2, 3, 5, 13, 11, 10, 9, 12, 7, 14, 8], oM 60 11, oM 61 12, oA 62 (.bsl 1 1 [(.v (.int .i64 0))] [(0, (.t 61))]) [17],
 oA 63 (.app 1 8 (.t 60) (.t 62)) [8, 14, 7, 12, 9, 10, 11, 13, 5, 3, 2, 1, 4, 6, 0, 17, 15, 18, 16], oA 7 (.mv (.t 51)) [16, 18, 15, 17, 13, 11, 10, 9, 12, 14, 8, 6, 5, 4, 3, 2, 1, 0, 19, 7], oA 8 (.mv (.t 59)) [19, 17, 18, 16, 14, 13, 12, 11, 10, 9, 8, 7, 6, 5, 4, 3, 2, 1, 0, 20, 15], oA 11 (.mv (.t 63)) [20, 18, 17, 16, 15, 14, 13, 12, 11, 10, 9, 8, 7, 6, 5, 4, 3, 2, 1, 0, 21, 19]])
 (.seq (.ops false [oM 64 12, oM 65 2, oP 66 (.len (.t 65)), oP 67 (.bin .lss (.t 64) (.t 66)), oM 68 67, oG 69 68 true (.mv (.t 2)), oG 70 68 true (.mv (.t 12)), oG 71 68 true (.iaS 1 (.t 69) (.t 70)), oG 72 68 true (.ld 1 false (.t 71)), oP 73 (.pick (.t 68) (.t 72) (cB false))]) (.cond (.t 73) (.ops false [oM 74 9, oM 75 12,
 oP 76 (.bsl 1 1 [(.v (.int .i64 0))] [(0, (.t 75))]), oP 77 (.app 1 8 (.t 74) (.t 76)), oM 9 77]) (.ops false [oM 78 10, oM 79 12, oP 80 (.bsl 1 1 [(.v (.int .i64 0))] [(0, (.t 79))]), oP 81 (.app 1 8 (.t 78) (.t 80)), oM 10 81]))))) c6_1)
def c6_3 : C := (.seq (.seq (.ops false [oM 38 12, oM 39 0, oP 40 (.len (.t 39)), oP 41 (.bin .lss (.t 38) (.t 40))]) (.cond (.t 41) .skip (.exit 0))) c6_2)
def c6_4 : C := (.seq (.ops false [oM 83 7, oM 84 9, oB 85 (.call 37 [(.t 83), (.t 84)]), oM 82 85, oP 86 (.ext (.t 82) 0), oP 87 (.ext (.t 82) 1), oM 13 86, oM 14 87]) (.seq (.ops false [oM 89 7, oM 90 10, oB 91 (.call 37 [(.t 89), (.t 90)]), oM 88 91, oP 92 (.ext (.t 88) 0), oP 93 (.ext (.t 88) 1), oM 15 92,
 oM 16 93]) (.seq (.ops false [oM 95 7, oM 96 11, oB 97 (.call 37 [(.t 95), (.t 96)]), oM 94 97, oP 98 (.ext (.t 94) 0), oP 99 (.ext (.t 94) 1), oM 17 98, oM 18 99]) (.seq (.ops false [oM 101 7, oM 102 8, oM 103 9, oB 104 (.call 38 [(.t 101), (.t 102), (.t 103)]), oM 100 104,
 oP 105 (.ext (.t 100) 0), oP 106 (.ext (.t 100) 1), oM 19 105, oM 20 106]) (.seq (.ops false [oM 108 7, oM 109 8, oM 110 10, oB 111 (.call 38 [(.t 108), (.t 109), (.t 110)]), oM 107 111, oP 112 (.ext (.t 107) 0), oP 113 (.ext (.t 107) 1), oM 21 112, oM 22 113]) (.seq (.ops false [oM 115 7,
 oM 116 8, oM 117 11, oB 118 (.call 38 [(.t 115), (.t 116), (.t 117)]), oM 114 118, oP 119 (.ext (.t 114) 0), oP 120 (.ext (.t 114) 1), oM 23 119, oM 24 120]) (.seq (.ops false [oM 122 8, oM 123 7, oM 124 11, oB 125 (.call 38 [(.t 122), (.t 123), (.t 124)]), oM 121 125, oP 126 (.ext (.t 121) 0),
 oP 127 (.ext (.t 121) 1), oM 25 126, oM 26 127]) (.seq (.ops false [oM 128 14, oP 129 (.bin .eql (.t 128) (cI 0)), oM 130 129, oG 131 130 true (.mv (.t 16)), oG 132 130 true (.bin .eql (.t 131) (cI 0)), oP 133 (.pick (.t 130) (.t 132) (cB false)), oM 134 133, oG 135 134 true (.mv (.t 18)), oG 136 134 true (.bin .eql (.t 135) (cI 0)),
 oP 137 (.pick (.t 134) (.t 136) (cB false)), oM 138 137, oG 139 138 true (.mv (.t 20)), oG 140 138 true (.bin .eql (.t 139) (cI 0)), oP 141 (.pick (.t 138) (.t 140) (cB false)), oM 142 141, oG 143 142 true (.mv (.t 22)), oG 144 142 true (.bin .eql (.t 143) (cI 0)), oP 145 (.pick (.t 142) (.t 144) (cB false)), oM 146 145, oG 147 146 true (.mv (.t 24)),
 oG 148 146 true (.bin .eql (.t 147) (cI 0)), oP 149 (.pick (.t 146) (.t 148) (cB false)), oM 150 149, oG 151 150 true (.mv (.t 26)), oG 152 150 true (.bin .eql (.t 151) (cI 0)), oP 153 (.pick (.t 150) (.t 152) (cB false)), oM 154 153, oG 155 154 true (.mv (.t 13)), oG 156 154 true (.mv (.t 15)), oG 157 154 true (.bin .add (.t 155) (.t 156)), oG 158 154 true (.mv (.t 17)),
 oG 159 154 true (.bin .eql (.t 157) (.t 158)), oP 160 (.pick (.t 154) (.t 159) (cB false)), oM 161 160, oG 162 161 true (.mv (.t 19)), oG 163 161 true (.mv (.t 21)), oG 164 161 true (.bin .add (.t 162) (.t 163)), oG 165 161 true (.mv (.t 23)), oG 166 161 true (.bin .eql (.t 164) (.t 165)), oP 167 (.pick (.t 161) (.t 166) (cB false)), oM 168 167, oG 169 168 true (.mv (.t 25)),
 oG 170 168 true (.mv (.t 23)), oG 171 168 true (.neg (.t 170)), oG 172 168 true (.bin .eql (.t 169) (.t 171)), oP 173 (.pick (.t 168) (.t 172) (cB false)), oM 174 173, oD 175 174 true (.call 28 []) [], oP 176 (.pick (.t 174) (.t 175) (cB false)), oM 6 176]) .ret))))))))
def c6_5 : C := (.seq (.ops false [oP 7 (.mv (.c .mt)), oP 8 (.mv (.c .mt)), oP 9 (.mv (.c .mt)), oP 10 (.mv (.c .mt)), oP 11 (.mv (.c .mt))]) (.seq (.seq (.ops false [oP 12 (.mv (cI 0))]) (.block 0 (.loop c6_3))) (.weak c6_4)))
def c6 : C := (.seq (.ops false [oP 6 (.mv (cB false))]) (.seq (.seq (.ops false [oM 27 0, oP 28 (.len (.t 27)), oP 29 (.bin .gtr (.t 28) (cI 30)), oM 30 29, oG 31 30 false (.mv (.t 1)), oG 32 30 false (.len (.t 31)), oG 33 30 false (.mv (.t 0)), oG 34 30 false (.len (.t 33)), oG 35 30 false (.bin .lss (.t 32) (.t 34)), oP 36 (.pick (.t 30) (cB true) (.t 35))]) (.cond (.t 36)
 (.seq (.ops false [oB 37 (.call 28 []), oM 6 37]) .ret) .skip)) c6_5))
def rgI (j : Nat) : List Int := (List.range j).map fun i : Nat => (i : Int)
theorem rgI_next (j : Nat) : rgI j ++ [(j : Int)] = rgI (j + 1) := by unfold rgI; rw [List.range_succ, List.map_append]; rfl
theorem rgI_len (j : Nat) : (rgI j).length = j := by unfold rgI; simp
theorem sumW_in : ∀ (l : List Int) (s : Int), (∀ x, x ∈ l → 0 ≤ x ∧ x ≤ 65535) → 0 ≤ s → s + 65535 * (l.length : Int) ≤ 1000000000000 → sumW l s = s + l.sum ∧ 0 ≤ l.sum ∧ l.sum ≤ 65535 * (l.length : Int)
 | [], s, _, _, _ => by simp [sumW]
 | x :: l, s, h, h0, h1 => by
  have hx := h x (List.mem_cons_self ..)
  simp only [List.length_cons] at h1 ⊢
  rw [sumW, wrap_i (by omega)]
  have := sumW_in l (s + x) (fun y hy => h y (List.mem_cons_of_mem _ hy)) (by omega) (by omega)
  rw [List.sum_cons]
  omega
theorem sec_of {p s : List Int} (hp : ∀ x, x ∈ p → 0 ≤ x ∧ x ≤ 65535) (hn : s.Nodup) (hs : ∀ x, x ∈ s → 0 ≤ x ∧ x < (p.length : Int)) (hl : s.length ≤ 100) : secI p s = ((s.map fun i => iA p i.toNat).sum, 0) ∧ (0 ≤ (s.map fun i => iA p i.toNat).sum ∧ (s.map fun i => iA p i.toNat).sum ≤ 6553500) := by
 have h1 : s.any (secBad p.length) = false := by
  rw [List.any_eq_false]
  intro x hx
  have := hs x hx
  unfold secBad
  simp only [Bool.or_eq_true, decide_eq_true_eq]
  omega
 have h2 : ptB s = false := by unfold ptB; rw [decide_eq_true hn]; rfl
 have h3 : p.any pkBad = false := by
  rw [List.any_eq_false]
  intro x hx
  have := hp x hx
  unfold pkBad
  simp only [Bool.or_eq_true, decide_eq_true_eq]
  omega
 have h4 := sumW_in (pick p s) 0 (fun x hx => by
  unfold pick at hx
  obtain ⟨i, hi, rfl⟩ := List.mem_map.1 hx
  have := hs i hi
  refine hp _ ?_
  unfold iA
  rw [List.getD_eq_getElem?_getD, List.getElem?_eq_getElem (by omega)]
  exact List.getElem_mem _) (Int.le_refl _) (by unfold pick; rw [List.length_map]; omega)
 have h5 : (pick p s).length ≤ 100 := by unfold pick; rw [List.length_map]; exact hl
 rw [Int.zero_add] at h4
 unfold secI
 rw [h1, h2, h3]
 simp only [Bool.false_eq_true, if_false]
 rw [h4.1]
 unfold pick at h4 h5 ⊢
 exact ⟨rfl, h4.2.1, by omega⟩
theorem chg_of {a b s : List Int} {x y : Int} (ha : secI a s = (x, 0)) (hb : secI b s = (y, 0)) (hx : 0 ≤ x ∧ x ≤ 6553500) (hy : 0 ≤ y ∧ y ≤ 6553500) : chgI a b s = (y - x, 0) := by
 unfold chgI
 rw [ha, hb]
 simp only [if_true]
 rw [wrap_i (by omega)]
theorem tc_aw33 {T : Tbl} (hT : TblOk Tryd.prog T) : TblOk Tryd.prog (tc 28 (rowPu selAw) T) :=
 tc_pu f28_ok (fun args pre d h hp nn => by
  unfold selAw at h
  split at h <;> cases h
  exact awake33_c nn) hT
abbrev spansC : Array Value := #[.int .i64 400, .int .i64 1200, .int .i64 0, .int .i64 2000, .int .i64 0, .int .i64 5000, .int .i64 1, .int .i64 2000]
abbrev Spans (w : World) : Prop := Box w 0 spansC
end Go.Proofs.YtehmmnnmkapfeaaDoor

/- The package's table of ranges, as the condition of the tied rows gives it. -/
namespace Go.Proofs.YtehmmnnmkapfeaaDoor
open Go.RowKit Go.ChangeShapes Go.WideShapes
theorem spans_glob : Tryd.prog.globalNamed "batchline/product.spans" = some 0 := by kernel_rfl
theorem spans_type : (Tryd.prog.globals[0]?).map (·.type) = some 167 := by kernel_rfl
theorem spans_cells4 : Tryd.prog.cellsOf 167 = 8 := by kernel_rfl
theorem spans_cells1 : Tryd.prog.cellsOf 166 = 2 := by kernel_rfl
theorem spans_cells0 : Tryd.prog.cellsOf 3 = 1 := by kernel_rfl
theorem span_of_trod {W : World} {fuel : Nat} {c d : Value} {x y : Int} {p : List MemPlace} (h : DataW.trod (fun _ => ()) Tryd.prog W 0 (fun _ => true) false fuel 166 [c, d] = some (.agg [.lit (.int .i64 x), .lit (.int .i64 y)], p)) :
  c = .int .i64 x ∧ d = .int .i64 y := by
 obtain ⟨xs, n, _, hx, _, hl, hf⟩ := DataW.trod_struct Tryd.underlying166 h
 obtain ⟨a, b, rfl⟩ : ∃ a b, xs = [a, b] := match xs, hl with | [a, b], _ => ⟨a, b, rfl⟩
 have h0 := hf 0 _ rfl
 have h1 := hf 1 _ rfl
 simp only [spans_cells0, List.drop_zero, List.take_succ_cons, List.take_zero, List.drop_succ_cons, List.getElem?_cons_zero, List.getElem?_cons_succ] at h0 h1
 obtain ⟨m, hm, rfl, _⟩ := DataW.trod_int Tryd.underlying3 h0
 obtain ⟨k, hk, rfl, _⟩ := DataW.trod_int Tryd.underlying3 h1
 injection hm with hm _
 injection hk with hk _
 subst hm hk
 simp at hx
 obtain ⟨⟨rfl, rfl⟩, _⟩ := hx
 exact ⟨rfl, rfl⟩
theorem spans_of_laid {W : World} (h : laidMet Tryd.prog [("batchline/product.spans", Rows.laid_batchline_product_spans)] W) : Spans W := by
 obtain ⟨ps, ⟨g, t, cs, fuel, p, q, hg, ht, hvar, hd, _, hps⟩, _, hcell⟩ := h
 obtain rfl := Option.some.inj (spans_glob.symm.trans hg)
 obtain rfl := Option.some.inj (spans_type.symm.trans ht)
 obtain ⟨xs, m, _, hx, hcl, hl, hf⟩ := DataW.trod_array Tryd.underlying167 hd
 rw [spans_cells4] at hcl
 obtain ⟨l⟩ := cs
 simp only at hcl hf
 obtain ⟨c0, c1, c2, c3, c4, c5, c6, c7, rfl⟩ : ∃ c0 c1 c2 c3 c4 c5 c6 c7, l = [c0, c1, c2, c3, c4, c5, c6, c7] := match l, hcl with | [a, b, c, d, e, f, g, h], _ => ⟨a, b, c, d, e, f, g, h, rfl⟩
 obtain ⟨y0, y1, y2, y3, rfl⟩ : ∃ a b c d, xs = [a, b, c, d] := match xs, hl with | [a, b, c, d], _ => ⟨a, b, c, d, rfl⟩
 have h0 := hf 0 (by omega)
 have h1 := hf 1 (by omega)
 have h2 := hf 2 (by omega)
 have h3 := hf 3 (by omega)
 rw [spans_cells1] at h0 h1 h2 h3
 simp at h0 h1 h2 h3
 obtain ⟨d0, p0⟩ := y0
 obtain ⟨d1, p1⟩ := y1
 obtain ⟨d2, p2⟩ := y2
 obtain ⟨d3, p3⟩ := y3
 simp [Rows.laid_batchline_product_spans] at hx
 obtain ⟨⟨rfl, rfl, rfl, rfl⟩, _⟩ := hx
 obtain ⟨rfl, rfl⟩ := span_of_trod h0
 obtain ⟨rfl, rfl⟩ := span_of_trod h1
 obtain ⟨rfl, rfl⟩ := span_of_trod h2
 obtain ⟨rfl, rfl⟩ := span_of_trod h3
 obtain ⟨⟨c, t, hb⟩, _⟩ := hcell 0 0 (by rw [hps]; simp [MemPlace.row])
 refine ⟨t, ?_⟩
 rw [hb]
 unfold World.var? at hvar
 rw [spans_glob] at hvar
 simp only [Option.bind_some, hb, Option.some.injEq] at hvar
 rw [hvar]
abbrev LaidFacts (w : World) : Prop := Spans w
theorem laidFacts_of {W : World} (h : laidMetH Tryd.prog [("batchline/product.spans", Rows.laid_batchline_product_spans)] W) : LaidFacts W := spans_of_laid h
theorem glOk_of {w : World} (h : LaidFacts w) : GlOk (AllIm w) w.heap := by
 obtain ⟨t, hb⟩ := h
 intro g f hg
 unfold GL glAt at hg
 split at hg
 ·rename_i e
  cases hg
  subst e
  refine ⟨lt_of_some hb, fun j => spansC[j]?.getD undef, fun j hj => ?_, fun j d hd => ?_⟩
  ·unfold hc
   rw [hb]
   dsimp only
   simp only [List.length_cons, List.length_nil] at hj
   match j, hj with
   | 0, _ => exact ⟨rfl, rfl⟩
   | 1, _ => exact ⟨rfl, rfl⟩
   | 2, _ => exact ⟨rfl, rfl⟩
   | 3, _ => exact ⟨rfl, rfl⟩
   | 4, _ => exact ⟨rfl, rfl⟩
   | 5, _ => exact ⟨rfl, rfl⟩
   | 6, _ => exact ⟨rfl, rfl⟩
   | 7, _ => exact ⟨rfl, rfl⟩
  ·match j, hd with
   | 0, hd => cases hd; exact .v _
   | 1, hd => cases hd; exact .v _
   | 2, hd => cases hd; exact .v _
   | 3, hd => cases hd; exact .v _
   | 4, hd => cases hd; exact .v _
   | 5, hd => cases hd; exact .v _
   | 6, hd => cases hd; exact .v _
   | 7, hd => cases hd; exact .v _
   | j + 8, hd => simp at hd
 ·unfold glAt at hg
  cases hg
def c5_1 : C := (.seq (.ops false [oM 54 8, oM 55 9, oM 56 10, oP 57 (.bld [(.v (.int .i64 0)), (.v (.int .i64 0))] [(0, (1, (cI 150)))]), oB 58 (.call 34 [(.t 54), (.t 55), (.t 56), (.t 57)]), oM 53 58, oP 59 (.ext (.t 53) 0), oP 60 (.ext (.t 53) 1), oM 14 59, oM 15 60]) (.seq (.ops false [oM 62 8, oM 63 9,
 oM 64 10, oM 65 11, oM 66 12, oP 67 (.bld [(.v (.int .i64 0)), (.v (.int .i64 0))] [(0, (1, (.t 65))), (1, (1, (.t 66)))]), oB 68 (.call 34 [(.t 62), (.t 63), (.t 64), (.t 67)]), oM 61 68, oP 69 (.ext (.t 61) 0), oP 70 (.ext (.t 61) 1), oM 16 69, oM 17 70]) (.seq (.ops false [oM 72 8, oM 73 9,
 oM 74 10, oM 75 11, oM 76 13, oP 77 (.bld [(.v (.int .i64 0)), (.v (.int .i64 0))] [(0, (1, (.t 75))), (1, (1, (.t 76)))]), oB 78 (.call 34 [(.t 72), (.t 73), (.t 74), (.t 77)]), oM 71 78, oP 79 (.ext (.t 71) 0), oP 80 (.ext (.t 71) 1), oM 18 79, oM 19 80]) (.seq (.ops false [oM 82 8, oM 83 9,
 oM 84 10, oM 85 11, oM 86 2, oP 87 (.cvi .i64 (.t 86)), oP 88 (.bin .add (.t 85) (.t 87)), oM 89 12, oP 90 (.bld [(.v (.int .i64 0)), (.v (.int .i64 0))] [(0, (1, (.t 88))), (1, (1, (.t 89)))]), oB 91 (.call 34 [(.t 82), (.t 83), (.t 84), (.t 90)]), oM 81 91, oP 92 (.ext (.t 81) 0), oP 93 (.ext (.t 81) 1), oM 20 92,
 oM 21 93]) (.seq (.ops false [oM 95 8, oP 96 (.iaS 5 (.t 95) (cI 0)), oP 97 (.ld 5 true (.t 96)), oP 98 (.bld [(.v (.int .i64 0)), (.v (.int .i64 0))] [(0, (1, (cI 150)))]), oB 99 (.call 35 [(.t 97), (.t 98)]), oM 94 99, oP 100 (.ext (.t 94) 0), oP 101 (.ext (.t 94) 1), oM 22 100, oM 23 101]) (.seq (.ops false [oM 102 15,
 oP 103 (.bin .eql (.t 102) (cI 0)), oM 104 103, oG 105 104 true (.mv (.t 17)), oG 106 104 true (.bin .eql (.t 105) (cI 0)), oP 107 (.pick (.t 104) (.t 106) (cB false)), oM 108 107, oG 109 108 true (.mv (.t 19)), oG 110 108 true (.bin .eql (.t 109) (cI 0)), oP 111 (.pick (.t 108) (.t 110) (cB false)), oM 112 111, oG 113 112 true (.mv (.t 21)),
 oG 114 112 true (.bin .eql (.t 113) (cI 0)), oP 115 (.pick (.t 112) (.t 114) (cB false)), oM 116 115, oG 117 116 true (.mv (.t 23)), oG 118 116 true (.bin .eql (.t 117) (cI 0)), oP 119 (.pick (.t 116) (.t 118) (cB false)), oM 120 119, oG 121 120 true (.mv (.t 22)), oG 122 120 true (.bin .eql (.t 121) (cI 1000000)), oP 123 (.pick (.t 120) (.t 122) (cB false)),
 oM 124 123, oG 125 124 true (.mv (.t 14)), oG 126 124 true (.mv (.t 10)), oD 127 124 true (.call 36 [(.t 126)]) [], oG 128 124 true (.bin .eql (.t 125) (.t 127)), oP 129 (.pick (.t 124) (.t 128) (cB false)), oM 130 129, oG 131 130 true (.mv (.t 16)), oG 132 130 true (.mv (.t 18)), oG 133 130 true (.bin .leq (.t 131) (.t 132)), oP 134 (.pick (.t 130) (.t 133) (cB false)),
 oM 135 134, oG 136 135 true (.mv (.t 20)), oG 137 135 true (.mv (.t 16)), oG 138 135 true (.bin .leq (.t 136) (.t 137)), oP 139 (.pick (.t 135) (.t 138) (cB false)), oM 140 139, oD 141 140 true (.call 28 []) [], oP 142 (.pick (.t 140) (.t 141) (cB false)), oM 6 142]) .ret))))))
def c5_2 : C := (.seq (.ops false [oM 28 0, oP 29 (.call 11 [(.t 28)]), oM 7 29]) (.seq (.ops false [oM 30 7, oP 31 (.call 29 [(.t 30)]), oM 8 31]) (.seq (.ops false [oM 32 7, oM 33 8, oP 34 (.len (.t 33)), oP 35 (.call 30 [(.t 32), (cI 4), (.t 34)]), oM 9 35]) (.seq (.ops false [oM 36 7, oM 37 7,
 oB 38 (.call 32 [(.t 37), (cI 1), (cI 2000)]), oP 39 (.call 31 [(.t 36), (.t 38), (cI 4)]), oM 10 39]) (.seq (.ops false [oM 40 7, oP 41 (.bsl 1 3 [(.v (.int .i64 0))] [(0, (cI 0)), (1, (cI 150)), (2, (cI 400))]), oB 42 (.call 33 [(.t 40), (.t 41)]), oM 43 1, oP 44 (.cvi .i64 (.t 43)), oP 45 (.bin .mul (.t 44) (cI 10)), oM 46 1,
 oP 47 (.cvi .i64 (.t 46)), oP 48 (.bin .mul (.t 47) (cI 10)), oM 49 2, oP 50 (.cvi .i64 (.t 49)), oP 51 (.bin .mul (.t 50) (cI 10)), oP 52 (.bin .add (.t 48) (.t 51)), oM 11 42, oM 12 45, oM 13 52]) (.weak c5_1))))))
def c5 : C := (.seq (.ops false [oP 6 (.mv (cB false))]) (.seq (.seq (.ops false [oM 24 0, oB 25 (.call 9 [(.t 24)]), oP 26 (.not (.t 25))]) (.cond (.t 26) (.seq (.ops false [oB 27 (.call 28 []), oM 6 27]) .ret) .skip)) c5_2))
def r5 : List RV := [(.tmp 6)]
def c9 : C := (.seq (.ops false [oP 2 (.mv (cB false))]) (.seq (.ops false [oM 3 0, oP 4 (.len (.t 3)), oP 5 (.bin .leq (.t 4) (cI 400)), oM 2 5]) .ret))
def r9 : List RV := [(.tmp 2)]
theorem c9_ok : ∃ code, Tryd.f9.body = some code ∧ compC Tryd.prog Tryd.f9.ntmps code = some (C.strip c9) := ⟨_, rfl, by kernel_rfl⟩
theorem r9_ok : compRes Tryd.prog Tryd.f9.results.toList = some r9 := by kernel_rfl
theorem f9_ok : fnOk Tryd.prog 9 = true := by kernel_rfl
theorem few_e (L : List (List D)) (nn : Nm) : CallsA Tryd.prog 9 [.sl L] Hp.none nn (Pu (db (decide ((L.length : Int) ≤ 400))) Hp.none) := by
 obtain ⟨code, h1, h2⟩ := c9_ok
 refine callsA_of (T0_ok _) mixed (N := fun t => (0, t)) Tryd.func9 h1 h2 r9_ok [] false js_nil js_nil' (by simp [Tryd.f9]) ?_
 simp (maxSteps:=500000) only [↓vp, vv, ↓reduceIte, simprocAttr, c9, r9, Pu]
def selFe : List D → Option (Prop × D)
 | [.sl L] => some (True, db (decide ((L.length : Int) ≤ 400)))
 | _ => Option.none
theorem tc_fewe {T : Tbl} (hT : TblOk Tryd.prog T) : TblOk Tryd.prog (tc 9 (rowPu selFe) T) :=
 tc_pu f9_ok (fun args pre d h hp nn => by
  unfold selFe at h
  split at h <;> cases h
  exact few_e _ nn) hT
theorem bat_pl (l : List Bat) : ∀ j : Bat, j ∈ l → ∀ d : D, d ∈ j.row → d.plain = true := fun j _ d hd => by
 simp only [Bat.row, List.mem_cons, List.not_mem_nil, or_false] at hd
 rcases hd with rfl | rfl | rfl | rfl <;> rfl
theorem prd_pl (l : List Prd) : ∀ j : Prd, j ∈ l → ∀ d : D, d ∈ j.row → d.plain = true := fun j _ d hd => by
 simp only [Prd.row, List.mem_cons, List.not_mem_nil, or_false] at hd
 rcases hd with rfl | rfl | rfl | rfl | rfl <;> rfl
def c8_1 : C := (.seq (.block 1 (.seq (.ops false [oM 67 13, oP 68 (.bld [(.v (.int .i64 0)), (.v (.int .i64 0))] [(0, (1, (cI 150)))]), oP 69 (.bsl 2 1 [(.v (.int .i64 0)), (.v (.int .i64 0))] [(0, (.t 68))]), oP 70 (.app 2 16 (.t 67) (.t 69)), oM 71 14, oM 72 16, oP 73 (.bsl 1 1 [(.v (.int .i64 0))] [(0, (.t 72))]), oP 74 (.app 1 8 (.t 71) (.t 73)), oM 13 70,
 oM 14 74]) (.ops false [oM 75 15, oP 76 (.fa 1 (.t 4)), oP 77 (.ld 1 false (.t 76)), oM 78 16, oP 79 (.iaS 7 (.t 77) (.t 78)), oP 80 (.fa 3 (.t 79)), oP 81 (.ld 1 false (.t 80)), oP 82 (.bin .add (.t 75) (.t 81)), oM 15 82]))) (.ops false [oM 65 16, oP 66 (.bin .add (.t 65) (cI 1)), oM 16 66]))
def c8_2 : C := (.seq (.seq (.ops false [oM 60 16, oP 61 (.fa 1 (.t 4)), oP 62 (.ld 1 false (.t 61)), oP 63 (.len (.t 62)), oP 64 (.bin .lss (.t 60) (.t 63))]) (.cond (.t 64) .skip (.exit 0))) c8_1)
def c8_3 : C := (.seq (.ops false [oP 84 (.ld 6 true (.t 4)), oM 85 5, oM 86 6, oM 87 7, oM 88 13, oP 89 (.call 42 [(.t 84), (.t 85), (.t 86), (.t 87), (.t 88)]), oM 83 89, oP 90 (.ext (.t 83) 0), oP 91 (.ext (.t 83) 1), oM 17 90, oM 18 91]) (.seq (.ops false [oP 93 (.ld 6 true (.t 4)), oM 94 5, oM 95 6,
 oM 96 10, oM 97 13, oP 98 (.call 42 [(.t 93), (.t 94), (.t 95), (.t 96), (.t 97)]), oM 92 98, oP 99 (.ext (.t 92) 0), oP 100 (.ext (.t 92) 1), oM 19 99, oM 20 100]) (.seq (.ops false [oM 102 17, oM 103 14, oB 104 (.call 37 [(.t 102), (.t 103)]), oM 101 104, oP 105 (.ext (.t 101) 0), oP 106 (.ext (.t 101) 1),
 oM 21 105, oM 22 106]) (.seq (.ops false [oM 108 17, oM 109 19, oM 110 14, oB 111 (.call 38 [(.t 108), (.t 109), (.t 110)]), oM 107 111, oP 112 (.ext (.t 107) 0), oP 113 (.ext (.t 107) 1), oM 23 112, oM 24 113]) (.seq (.ops false [oM 114 18, oP 115 (.bin .eql (.t 114) (cI 0)), oM 116 115,
 oG 117 116 true (.mv (.t 20)), oG 118 116 true (.bin .eql (.t 117) (cI 0)), oP 119 (.pick (.t 116) (.t 118) (cB false)), oM 120 119, oG 121 120 true (.mv (.t 22)), oG 122 120 true (.bin .eql (.t 121) (cI 0)), oP 123 (.pick (.t 120) (.t 122) (cB false)), oM 124 123, oG 125 124 true (.mv (.t 24)), oG 126 124 true (.bin .eql (.t 125) (cI 0)), oP 127 (.pick (.t 124) (.t 126)
 (cB false)), oM 128 127, oG 129 128 true (.mv (.t 17)), oG 130 128 true (.mv (.t 19)), oD 131 128 true (.call 44 [(.t 129), (.t 130)]) [], oP 132 (.pick (.t 128) (.t 131) (cB false)), oM 133 132, oG 134 133 true (.mv (.t 21)), oG 135 133 true (.mv (.t 15)), oG 136 133 true (.bin .eql (.t 134) (.t 135)), oP 137 (.pick (.t 133) (.t 136) (cB false)), oM 138 137,
 oG 139 138 true (.mv (.t 23)), oG 140 138 true (.bin .eql (.t 139) (cI 0)), oP 141 (.pick (.t 138) (.t 140) (cB false)), oM 142 141, oD 143 142 true (.call 28 []) [], oP 144 (.pick (.t 142) (.t 143) (cB false)), oM 2 144]) .ret)))))
def c8_4 : C := (.seq (.ops false [oP 13 (.mv (.c .mt))]) (.seq (.ops false [oP 14 (.mv (.c .mt))]) (.seq (.ops false [oP 15 (.mv (cI 0))]) (.seq (.seq (.ops false [oP 16 (.mv (cI 0))]) (.block 0 (.loop c8_2))) (.weak c8_3)))))
def c8_5 : C := (.seq (.ops false [oP 49 (.ld 6 true (.t 4)), oM 50 7, oP 51 (.ld 3 true (.t 8)), oM 52 9, oP 53 (.call 50 [(.t 49), (.t 50), (.t 51), (.t 52)]), oM 48 53, oP 54 (.ext (.t 48) 0), oP 55 (.ext (.t 48) 1), oP 56 (.ext (.t 48) 2), oM 10 54, oM 11 55, oM 12 56]) (.seq (.seq (.ops false [oM 57 12, oP 58 (.bin .neq (.t 57)
 (cI 0))]) (.cond (.t 58) (.seq (.ops false [oB 59 (.call 28 []), oM 2 59]) .ret) .skip)) c8_4))
def c8_6 : C := (.seq (.ops false [oM 29 0, oP 30 (.call 11 [(.t 29)]), oM 3 30]) (.seq (.ops false [oM 31 3, oP 32 (.call 39 [(.t 31)]), oP 4 (.new [.mt, .mt, .mt, .mt, (.v (.int .i64 0)), (.v (.int .i64 0))]), oS (.st 6 (.t 4) (.t 32))]) (.seq (.ops false [oM 33 3, oP 34 (.call 29 [(.t 33)]), oM 5 34]) (.seq (.ops false [oM 35 3,
 oM 36 5, oP 37 (.len (.t 36)), oP 38 (.call 30 [(.t 35), (cI 4), (.t 37)]), oM 6 38]) (.seq (.ops true [oM 39 3, oP 40 (.ld 6 true (.t 4)), oA 41 (.call 40 [(.t 39), (.t 40), (cI 4)]) [1, 0], oM 42 3, oP 43 (.ld 6 true (.t 4)), oA 44 (.call 48 [(.t 42), (.t 43)]) [0, 1, 2, 4, 3], oM 45 3, oP 46 (.ld 6 true (.t 4)), oA 47 (.call 49 [(.t 45),
 (.t 46), (cI 4)]) [3, 4, 2, 1, 0, 5, 7, 6], oP 8 (.new [.mt, .mt, .mt]), oA 7 (.mv (.t 41)) [6, 7, 5, 4, 3, 9, 1, 0, 8, 2], oT (.st 3 (.t 8) (.t 44)) [8, 7, 6, 4, 3, 2, 1, 0, 10, 5, 9], oA 9 (.mv (.t 47)) [10, 9, 7, 6, 5, 4, 3, 2, 1, 0, 11, 8]]) (.weak c8_5))))))
def c8 : C := (.seq (.ops false [oP 2 (.mv (cB false))]) (.seq (.seq (.ops false [oM 25 0, oB 26 (.call 9 [(.t 25)]), oP 27 (.not (.t 26))]) (.cond (.t 27) (.seq (.ops false [oB 28 (.call 28 []), oM 2 28]) .ret) .skip)) c8_6))
def r8 : List RV := [(.tmp 2)]
theorem c8_ok : ∃ code, Tryd.f8.body = some code ∧ compC Tryd.prog Tryd.f8.ntmps code = some (C.strip c8) := ⟨_, rfl, by kernel_rfl⟩
theorem r8_ok : compRes Tryd.prog Tryd.f8.results.toList = some r8 := by kernel_rfl
def c49_1 : C := (.seq (.block 1 (.ops false [oM 16 7, oM 17 0, oM 18 2, oB 19 (.call 14 [(.t 17), (.t 18)]), oP 20 (.bsl 1 1 [(.v (.int .i64 0))] [(0, (.t 19))]), oP 21 (.app 1 8 (.t 16) (.t 20)), oM 7 21])) (.ops false [oM 14 8, oP 15 (.bin .add (.t 14) (cI 1)), oM 8 15]))
def c49_2 : C := (.seq (.seq (.ops false [oM 9 8, oP 10 (.fa 2 (.t 4)), oP 11 (.ld 1 false (.t 10)), oP 12 (.len (.t 11)), oP 13 (.bin .lss (.t 9) (.t 12))]) (.cond (.t 13) .skip (.exit 0))) c49_1)
def c49_3 : C := (.seq (.ops false [oM 22 7, oM 6 22]) .ret)
def c49 : C := (.seq (.ops false [oP 4 (.box 6 (.t 1)), oP 6 (.mv (.c .mt))]) (.seq (.ops false [oP 7 (.mv (.c .mt))]) (.seq (.seq (.ops false [oP 8 (.mv (cI 0))]) (.block 0 (.loop c49_2))) c49_3)))
def r49 : List RV := [(.tmp 6)]
theorem c49_ok : ∃ code, Tryd.f49.body = some code ∧ compC Tryd.prog Tryd.f49.ntmps code = some (C.strip c49) := ⟨_, rfl, by kernel_rfl⟩
theorem r49_ok : compRes Tryd.prog Tryd.f49.results.toList = some r49 := by kernel_rfl
theorem f49_ok : fnOk Tryd.prog 49 = true := by kernel_rfl
structure FeedsIn (n : Net) (fd : List Int) : Prop where
 len : fd.length = n.ports.length
 at' : ∀ x, x ∈ fd → 0 ≤ x ∧ x < 4
theorem tc_nv {T : Tbl} (hT : TblOk Tryd.prog T) : TblOk Tryd.prog (tc 14 (rowSrc (selI InI NPost) di) T) :=
 tc_src f14_ok (fun args pre post h hp => by
  unfold selI at h
  split at h <;> cases h
  exact ⟨⟨_, modI_in 0 _⟩, N_c _ hp⟩) hT
def FvT : Tbl := tc 14 (rowSrc (selI InI NPost) di) T0
theorem FvT_ok : TblOk Tryd.prog FvT := tc_nv (T0_ok _)
def FvF (i : Nm) (o : List Int) (g : Nat) (l : List (Nat × D)) : List (Nat × D) := (0, .ptr i 0 0 0) :: (2, di 4) :: (4, .ptr (i.1 + 1, 4) 0 0 0) :: (7, .own (i.1 + 1, 21) g 0 o.length) :: l
def FvH (i : Nm) (L : List (List D)) (at' : Int) (n : Net) (o : List Int) (g : Nat) : Hp := ((Hp.none.put (i.1 + 1, 21) ⟨g, 1, o.map iRow⟩).put (i.1 + 1, 4) ⟨0, 6, [netD n]⟩).put i (sE L at')
def FvI (i : Nm) (L : List (List D)) (n : Net) : Nat → St → Prop := fun k s => ∃ at' o g, SrcOk L at' ∧ o.length + k = n.ports.length ∧ (∀ x, x ∈ o → 0 ≤ x ∧ x < 4) ∧ s = ⟨fr (FvF i o g [(8, di o.length)]), FvH i L at' n o g⟩
set_option maxHeartbeats 8000000 in
theorem feeds_c (n : Net) (hl : n.ports.length ≤ 1000) : SrcC Tryd.prog 49 [n.enc, di 4] (FeedsIn n) (fun c => .sl (c.map iRow)) := by
 intro i L at' nn ho
 obtain ⟨code, h1, h2⟩ := c49_ok
 refine callsA_of FvT_ok mixed (N := fun t => (i.1 + 1, t)) Tryd.func49 h1 h2 r49_ok [i] false js_one js_one' (by simp [Tryd.f49]) ?_
 have i4 : InI 4 := by unfold InI; decide
 simp (maxSteps:=500000) only [↓vp, vv, ↓reduceIte, simprocAttr, c49, FvT, selI, ho, Net.enc]
 rw [vc_loop]
 refine ⟨FvI i L n, ⟨n.ports.length, _, (weak_own 7 (i.1 + 1, 21) 1 (by simp only [↓vp, vv, ↓reduceIte, simprocAttr, ]) (by simp only [↓vp, vv, ↓reduceIte, simprocAttr, ])).trans (weak_eqA [] [i, (i.1 + 1, 4), (i.1 + 1, 21)] (FvF i [] 0 [(8, di 0)]) (by refine ⟨?_, ?_, ?_, by simp, ?_⟩ <;> (simp only [↓vp, vv, ↓reduceIte, simprocAttr, coverS, refsF, FvF, FvH, netD, iRow] <;> try rfl))), at', [], 0, ho, by simp, fun x hx => (by cases hx), rfl⟩, ?_⟩
 rintro k s ⟨at1, o, g, o1, hk, hx0, rfl⟩
 have w1 := idx_next (j := o.length) (by omega)
 by_cases hj : o.length < n.ports.length
 ·have hj' : (o.length : Int) < n.ports.length := by omega
  have y1 : (o.length + 1) * 8 ≤ 140737488355328 := by omega
  have y2 : o.length + 1 ≤ 4611686018427387904 := by omega
  simp (maxSteps:=500000) only [↓vp, vv, ↓reduceIte, simprocAttr, c49_2, c49_1, FvT, selI, FvF, FvH, netD, o1, hj', i4, y1, y2, w1]
  intro a1 x hx
  refine ⟨k - 1, _, by omega, (weak_eqA [] [i, (i.1 + 1, 4), (i.1 + 1, 21)] (FvF i (o ++ [x]) (g + 1) [(8, di (o ++ [x]).length)]) (by refine ⟨?_, ?_, ?_, by simp, ?_⟩ <;> (simp only [↓vp, vv, ↓reduceIte, simprocAttr, coverS, refsF, FvF, FvH, netD, iRow, w1, List.map_append, List.length_append, List.length_cons, List.length_nil] <;> try rfl))), a1.1, o ++ [x], g + 1, a1.2, by simp; omega, fun y hy => ?_, rfl⟩
  rcases List.mem_append.1 hy with hy | hy
  ·exact hx0 y hy
  ·rw [List.mem_singleton.1 hy]
   exact ⟨hx.1, hx.2.1 (by omega)⟩
 ·have hj' : ¬ (o.length : Int) < n.ports.length := by omega
  have tk : (o.map iRow).take o.length = o.map iRow := List.take_of_length_le (by simp)
  simp (maxSteps:=500000) only [↓vp, vv, ↓reduceIte, simprocAttr, c49_2, c49_3, r49, FvT, selI, FvF, FvH, netD, o1, hj', tk]
  exact ⟨fun x _ d hd => by rw [List.mem_singleton.1 hd]; rfl, at1, o, o1, ⟨by omega, hx0⟩, rfl, rfl⟩
def selFds : List D → Option (Prop × (List Int → Prop))
 | [.agg r, .v (.int .i64 k)] => match netOf1 r with
  | some n => some (n.ports.length ≤ 1000 ∧ k = 4, FeedsIn n)
  | Option.none => Option.none
 | _ => Option.none
theorem tc_fds {T : Tbl} (hT : TblOk Tryd.prog T) : TblOk Tryd.prog (tc 49 (rowSrc selFds fun c => .sl (c.map iRow)) T) :=
 tc_src f49_ok (fun args pre post h hp => by
  unfold selFds at h
  split at h
  ·split at h
   ·rename_i n hn
    cases h
    obtain ⟨h1, rfl⟩ := hp
    rw [netOf1_eq hn]
    exact ⟨⟨List.replicate n.ports.length 0, by simp, fun x hx => by rw [List.eq_of_mem_replicate hx]; decide⟩, feeds_c n h1⟩
   ·cases h
  ·cases h) hT
/-! ### the tick of what a source yields -/
theorem tkm_of {n : Net} (hn : NetOk n) {p : Pln} (hp : PlanOk n p) {fs : List (List Pce)} (hf : FlsIn n.segs fs) {fd : List Int} (hd : FeedsIn n fd) : TkM 4 n p fs fd := by
 have hck := check_ok hn
 have hnl := hn.nlen
 have hpl := hn.ports.len
 have hfl := hf.len
 have cap : ∀ i (h : i < n.segs.length), 1 ≤ (n.segs[i]).cap ∧ (n.segs[i]).cap ≤ 1000 := fun i h => by
  obtain ⟨_, x, y, _, _, _, h, _⟩ := hn.segs.mem (List.getElem_mem h)
  exact h.cap
 have dm : ∀ i, i < fd.length → 0 ≤ iA fd i ∧ iA fd i < 4 := fun i hi => by rw [← iA_at hi]; exact hd.at' _ (List.getElem_mem hi)
 refine ⟨⟨plan0 hck hp, by omega, by omega, hfl, fun j hj => ?_, fun j hj => ?_, hd.len, fun j hj => ?_⟩, by decide, fun i hi => ?_, fun i hi => ?_, dm⟩
 ·have := fill_ok (hf.at' j hj) (by have := cap j hj; omega)
  exact this
 ·have := (hf.at' j hj).len
  omega
 ·have := dm j hj
  unfold prB2
  simp
  omega
 ·rw [← sg_at hi]
  exact (cap i hi).2
 ·have := hf.at' i hi
  exact ⟨fun q hq => this.at' q hq, this.nb⟩
theorem lngA_f (s : TS) (l : Bool) : ∀ k, lngA s l k = false → l = false ∧ ∀ i, i < k → (pA s.nxt i).length ≤ 200
 | 0, h => ⟨h, fun i hi => by omega⟩
 | k + 1, h => by
  have e : lngA s l (k + 1) = ((lngA s l k || decide (200 < (pA s.nxt k).length)) || decide (200 < (pA s.gv k).length)) := range_fold _ _ _
  rw [e, Bool.or_eq_false_iff, Bool.or_eq_false_iff] at h
  obtain ⟨⟨h1, h2⟩, _⟩ := h
  obtain ⟨a, b⟩ := lngA_f s l k h1
  refine ⟨a, fun i hi => ?_⟩
  by_cases hk : i = k
  ·subst hk; have := of_decide_eq_false h2; omega
  ·exact b i (by omega)
theorem lngP_f (s : TS) (l : Bool) : ∀ k, lngP s l k = false → l = false
 | 0, h => h
 | k + 1, h => by
  have e : lngP s l (k + 1) = (lngP s l k || decide (200 < (pA s.prt k).length)) := range_fold _ _ _
  rw [e, Bool.or_eq_false_iff] at h
  exact lngP_f s l k h.1
theorem short {s : TS} (h : tLong s = false) : ∀ i, i < s.nxt.length → (pA s.nxt i).length ≤ 200 := (lngA_f s s.lng _ (lngP_f s _ _ h)).2
/-! ### inventories of it -/
structure FilW (v : Int) (l : List Pce) : Prop where
 len : l.length ≤ 200
 p : PcP 4 l
 nb : PcN l
 sum : volS l = v
theorem filw_le {v : Int} {l : List Pce} (h : FilW v l) : ∀ p, p ∈ l → p.vo ≤ v := fun p hp => by
 have := h.p.r.le p hp
 rw [h.sum] at this
 exact this
theorem filw_ok {v : Int} {l : List Pce} (h : FilW v l) (hv : v ≤ 1000) : flV l = true := by
 have hl := h.len
 have hw := volW_in l 0 (fun p hp => (h.p p hp).2) (Int.le_refl _) (by rw [h.sum]; omega)
 rw [h.sum, Int.zero_add] at hw
 unfold flV
 rw [if_neg (by omega), hw.1]
 have : (List.range l.length).any (pcBad l) = false := by
  rw [List.any_eq_false]
  intro j hj
  have hj := List.mem_range.1 hj
  have hp := h.p (pcA l j) (by rw [← pc_at hj]; exact List.getElem_mem hj)
  have hle := filw_le h (pcA l j) (by rw [← pc_at hj]; exact List.getElem_mem hj)
  have hnb : 0 < j → (pcA l (j - 1)).ba ≠ (pcA l j).ba := fun h0 => by
   have := h.nb (j - 1) (by omega)
   rw [show j - 1 + 1 = j by omega] at this
   exact this
  unfold pcBad litB
  simp only [Bool.or_eq_true, Bool.not_eq_true', Bool.and_eq_true, Bool.and_eq_false_iff, decide_eq_true_eq, decide_eq_false_iff_not, beq_iff_eq]
  omega
 rw [this]
 simp
 omega
theorem seg_std {ps : List Prd} {bs : List Bat} {l : List Pce} {v : Int} (h1 : PrdsIn ps) (h2 : BatsIn 4 (ps.length : Int) bs) (h3 : FilW v l) (hv : v ≤ 1000) : segI ps bs l ⟨150, 0⟩ = (v, 0) := by
 have hl := h3.len
 have sg : SgIn ps bs l := ⟨fun p hp => prds_ok h1 _ (bats_in h2 rfl (h3.p p hp).1).2, fun p hp => ⟨(h3.p p hp).2, by have := filw_le h3 p hp; omega⟩⟩
 unfold segI
 rw [if_pos (prds_ck h1), filw_ok h3 hv, if_pos rfl]
 have : l.any (unkB ps bs) = false := by
  rw [List.any_eq_false]
  intro p hp
  rw [(bats_in h2 rfl (h3.p p hp).1).1]
  simp
 rw [this]
 simp only [Bool.false_eq_true, if_false]
 rw [segGo_in (by decide) l 0 sg (Int.le_refl _) (by omega), Int.zero_add, stS_std, h3.sum]
theorem allGo_std {ps : List Prd} {bs : List Bat} {K : Nat} : ∀ (fs : List (List Pce)) (i : Nat) (out : List Int), (∀ f, f ∈ fs → segI ps bs f ⟨150, 0⟩ = (volS f, 0)) → i + fs.length ≤ K → allGo ps bs (List.replicate K ⟨150, 0⟩) fs i out = (out ++ fs.map volS, 0)
 | [], i, out, _, _ => by rw [allGo]; simp
 | f :: fs, i, out, h, hK => by
  have e : cdA (List.replicate K ⟨150, 0⟩) i = ⟨150, 0⟩ := by
   unfold cdA
   rw [List.getD_eq_getElem?_getD, List.getElem?_replicate, if_pos (by rw [List.length_cons] at hK; omega)]
   rfl
  rw [allGo, e, h f (List.mem_cons_self ..), if_pos rfl, allGo_std fs (i + 1) _ (fun g hg => h g (List.mem_cons_of_mem _ hg)) (by rw [List.length_cons] at hK; omega)]
  simp
def capsL (n : Net) : List Int := n.segs.map (·.cap)
theorem all_std {n : Net} (hn : NetOk n) {ps : List Prd} {bs : List Bat} (h1 : PrdsIn ps) (h2 : BatsIn 4 (ps.length : Int) bs) {fs : List (List Pce)} (hl : fs.length = n.segs.length) (h : ∀ i (hi : i < n.segs.length), FilW (n.segs[i]).cap (fs[i]'(by omega))) : allI n ps bs fs (List.replicate n.segs.length ⟨150, 0⟩) = (capsL n, 0) := by
 have cap : ∀ i (h : i < n.segs.length), 1 ≤ (n.segs[i]).cap ∧ (n.segs[i]).cap ≤ 1000 := fun i h => by
  obtain ⟨_, x, y, _, _, _, h, _⟩ := hn.segs.mem (List.getElem_mem h)
  exact h.cap
 unfold allI
 rw [if_pos (check_ok hn), if_pos hl, if_pos List.length_replicate, allGo_std fs 0 [] (fun f hf => ?_) (by omega), List.nil_append]
 ·congr 1
  unfold capsL
  refine List.ext_getElem (by simp [hl]) fun i h1 h2 => ?_
  rw [List.getElem_map, List.getElem_map]
  exact (h i (by simpa using h2)).sum
 ·obtain ⟨i, hi, rfl⟩ := List.getElem_of_mem hf
  have k := h i (by omega)
  have := seg_std h1 h2 k (cap i (by omega)).2
  rw [this, k.sum]
theorem filw_fls {n : Net} {fs : List (List Pce)} (hf : FlsIn n.segs fs) : ∀ i (hi : i < n.segs.length), FilW (n.segs[i]).cap (fs[i]'(by have := hf.len; omega)) := fun i hi => by
 have k := hf.at' i hi
 rw [← f_at (by have := hf.len; omega)] at k
 exact ⟨by have := k.len; omega, fun q hq => k.at' q hq, k.nb, k.sum⟩
theorem filw_tki {B : Int} {n : Net} {s : TS} (T : TkI 4 B n s) (sh : ∀ i, i < s.nxt.length → (pA s.nxt i).length ≤ 200) : ∀ i (hi : i < n.segs.length), FilW (n.segs[i]).cap (s.nxt[i]'(by have := T.nl; omega)) := fun i hi => by
 obtain ⟨⟨a, b⟩, c⟩ := T.nx i hi
 have e : pA s.nxt i = s.nxt[i]'(by have := T.nl; omega) := by
  unfold pA
  rw [List.getD_eq_getElem?_getD, List.getElem?_eq_getElem (by have := T.nl; omega)]
  rfl
 rw [← sg_at hi] at c
 rw [← e]
 exact ⟨sh i (by have := T.nl; omega), a, b, c⟩
theorem tend_i {n : Net} {p : Pln} {fs : List (List Pce)} {fd : List Int} (h : TkM 4 n p fs fd) : TkI 4 (bndT (ordB n p).length) n (tEnd n p fs fd) := tRun_spec h (ordB n p).length (Nat.le_refl _)
/-! ### the whole section -/
def capS (n : Net) (k : Nat) : Int := ((n.segs.take k).map (·.cap)).sum
theorem capS_next {n : Net} {k : Nat} (h : k < n.segs.length) : capS n (k + 1) = capS n k + (n.segs[k]).cap := by
 unfold capS
 rw [List.take_add_one, List.getElem?_eq_getElem h, List.map_append]
 simp
theorem capS_b {n : Net} (hn : NetOk n) : ∀ k, k ≤ n.segs.length → 0 ≤ capS n k ∧ capS n k ≤ 1000 * (k : Int)
 | 0, _ => by unfold capS; simp
 | k + 1, h => by
  have := capS_b hn k (by omega)
  have c : 1 ≤ (n.segs[k]).cap ∧ (n.segs[k]).cap ≤ 1000 := by
   obtain ⟨_, x, y, _, _, _, h, _⟩ := hn.segs.mem (List.getElem_mem (show k < n.segs.length by omega))
   exact h.cap
  rw [capS_next (by omega)]
  omega
theorem sec_all {n : Net} (hn : NetOk n) : secI (capsL n) (rgI n.segs.length) = (capS n n.segs.length, 0) := by
 have hs := hn.slen
 have hl := hn.nlen
 have e : (rgI n.segs.length).map (fun i => iA (capsL n) i.toNat) = capsL n := by
  unfold rgI
  refine List.ext_getElem (by simp [capsL]) fun i h1 h2 => ?_
  simp only [List.length_map, List.length_range] at h1
  rw [List.getElem_map, List.getElem_map, List.getElem_range, Int.toNat_natCast, ← iA_at h2]
 have cap : ∀ x, x ∈ capsL n → 0 ≤ x ∧ x ≤ 65535 := fun x hx => by
  unfold capsL at hx
  obtain ⟨s, hs, rfl⟩ := List.mem_map.1 hx
  obtain ⟨_, x, y, _, _, _, h, _⟩ := hn.segs.mem hs
  have := h.cap
  omega
 have nd : (rgI n.segs.length).Nodup := by
  unfold rgI
  refine List.Pairwise.map _ (fun a b hab => ?_) (List.nodup_range)
  omega
 have k := (sec_of cap nd (fun x hx => ?_) (by rw [rgI_len]; omega)).1
 ·rw [e] at k
  rw [k]
  unfold capS capsL
  rw [List.take_of_length_le (Nat.le_refl _)]
 ·unfold rgI at hx
  obtain ⟨j, hj, rfl⟩ := List.mem_map.1 hx
  have := List.mem_range.1 hj
  unfold capsL
  rw [List.length_map]
  omega
theorem chg_all {n : Net} (hn : NetOk n) : chgI (capsL n) (capsL n) (rgI n.segs.length) = (0, 0) := by
 have hs := hn.slen
 have hl := hn.nlen
 have b := capS_b hn n.segs.length (Nat.le_refl _)
 have k := chg_of (sec_all hn) (sec_all hn) (by omega) (by omega)
 rw [Int.sub_self] at k
 exact k
end Go.Proofs.YtehmmnnmkapfeaaDoor
