/- RouteAnswers: Rb8 Rb9. -/
import Derived.Test.YtadjhfjiimgddaaYr19
set_option linter.unusedSimpArgs false
set_option linter.unusedVariables false
set_option maxRecDepth 100000

/- RouteAnswers: the walk. -/
namespace Go.Proofs.Ytadjhfjiimgddaa
open Go
def RgI {α : Type} (n : Nat) (st : Nat → α → St) (m : Nat) (s : St) : Prop := ∃ (j : Nat) (u : α), j + m = n ∧ s = st j u
theorem rg_loop {T : Tbl} {N : Nat → Nm} {J : List Nm} {c : C} {Q : Ex → St → Prop} {s : St} {α : Type} (n : Nat) (st : Nat → α → St) {u0 : α} (h0 : Weak J s (st 0 u0))
  (hs : ∀ j, j < n → ∀ u, vc T N J c (loopQ J (RgI n st) (n - j) Q) (st j u)) (he : ∀ u, vc T N J c (loopQ J (RgI n st) 0 Q) (st n u)) : vc T N J (.loop c) Q s := by
 rw [vc_loop]
 refine ⟨RgI n st, ⟨n, _, h0, 0, u0, by omega, rfl⟩, ?_⟩
 rintro m s' ⟨j, u, hj, rfl⟩
 by_cases h : j < n
 ·obtain rfl : m = n - j := by omega
  exact hs j h u
 ·obtain rfl : j = n := by omega
  obtain rfl : m = 0 := by omega
  exact he u
theorem rg_next {J : List Nm} {n : Nat} {α : Type} {st : Nat → α → St} {j : Nat} {s : St} (hj : j < n) (u : α) (w : Weak J s (st (j + 1) u)) : ∃ k' s', k' < n - j ∧ Weak J s s' ∧ RgI n st k' s' :=
 ⟨n - (j + 1), _, by omega, w, j + 1, u, by omega, rfl⟩
def bbRow (y : List Bool) : List D := [.sl (y.map bRow)]
def vRow (v : List (Int × Bool)) : List D := [.sl (v.map hRow)]
def zRow (z : Int × Int) : List D := [di z.1, di z.2]
def RaF (so : List Bool) (wy : List (Int × Bool)) (f t : Int) (c : List Bool) (l : List (Nat × D)) : List (Nat × D) := (1, .sl (so.map bRow)) :: (2, .sl (wy.map hRow)) :: (3, di f) :: (4, di t) :: (13, .ptr (0, 67) 0 0 0) :: (14, .ptr (0, 14) 0 0 0) :: (15, .sl (c.map bRow)) :: l
def RaH (L : List (List D)) (at' : Int) (n : Net) : Hp := (Hp.none.put (0, 67) (sE L at')).put (0, 14) ⟨0, 6, [netD n]⟩
def RaG (L : List (List D)) (at' : Int) (n x : Net) : Hp := ((Hp.none.put (0, 67) (sE L at')).put (0, 17) ⟨0, 6, [netD x]⟩).put (0, 14) ⟨0, 6, [netD n]⟩
def RaS1 (X : List Net) (j : Nat) (l : List (Nat × D)) : List (Nat × D) := (78, .sl (X.map netD)) :: (79, di 3) :: (80, di j) :: l
def RaS2 (Y : List (List Bool)) (k : Nat) (l : List (Nat × D)) : List (Nat × D) := (17, .ptr (0, 17) 0 0 0) :: (86, .sl (Y.map bbRow)) :: (87, di 2) :: (88, di k) :: l
def RaS3 (y : List Bool) (Z : List (Int × Int)) (i : Nat) (l : List (Nat × D)) : List (Nat × D) := (19, .sl (y.map bRow)) :: (105, .sl (Z.map zRow)) :: (106, di 3) :: (107, di i) :: l
def RaS4 (V : List (List (Int × Bool))) (q : Nat) : List (Nat × D) := [(215, .sl (V.map vRow)), (216, di 4), (217, di q)]
def RaAll (so : List Bool) (wy : List (Int × Bool)) (f t : Int) (c : List Bool) (X : List Net) (j : Nat) (Y : List (List Bool)) (k : Nat) (y : List Bool) (Z : List (Int × Int)) (i : Nat) (l : List (Nat × D)) : List (Nat × D) := RaF so wy f t c (RaS1 X j (RaS2 Y k (RaS3 y Z i l)))
def RaB : List (Nat × D) := [(215, .own (0, 215) 0 0 4), (216, di 4), (217, di 0)]
def RaVH (L : List (List D)) (at' : Int) (n x : Net) (VV : List (List (Int × Bool))) : Hp := (((Hp.none.put (0, 215) ⟨0, 1, VV.map vRow⟩).put (0, 67) (sE L at')).put (0, 17) ⟨0, 6, [netD x]⟩).put (0, 14) ⟨0, 6, [netD n]⟩
def RaWA (L : List (List D)) (at' : Int) (n x : Net) (wy W W' : List (Int × Bool)) : List (Nm × En) := [((0, 14), ⟨0, 6, [netD n]⟩), ((0, 17), ⟨0, 6, [netD x]⟩), ((0, 67), sE L at'), ((0, 215), ⟨0, 1, [[.sl (wy.map hRow)], [.sl (W.map hRow)], [.own (0, 193) 1 0 W.length], [.own (0, 193) 1 0 (W.length + W.length)]]⟩), ((0, 193), ⟨1, 2, (W' ++ W).map hRow⟩)]
def RaWB (L : List (List D)) (at' : Int) (n x : Net) (wy W W' : List (Int × Bool)) : List (Nm × En) := [((0, 14), ⟨0, 6, [netD n]⟩), ((0, 17), ⟨0, 6, [netD x]⟩), ((0, 67), sE L at'), ((0, 215), ⟨0, 1, [[.sl (wy.map hRow)], [.sl (W.map hRow)], [.own (0, 193) 1 0 W.length], [.own (0, 214) 0 0 (W.length + W.length)]]⟩), ((0, 193), ⟨1, 2, W'.map hRow⟩), ((0, 214), ⟨0, 2, (W' ++ W).map hRow⟩)]
theorem rows_fzR {α : Type} (f : α → List D) (h : ∀ x, rowV (f x) = true) (ks : List Nm) (H : Hp) (l : List α) : (l.map f).map (fun r => r.map (lendK ks H)) = l.map f := by
 rw [List.map_map]
 exact List.map_congr_left fun x _ => (rowV_ok (h x) ks H).2.2
theorem ref_hRow (js : List Nm) (h : Int × Bool) : refsInL js (hRow h) = true := rfl
theorem rowV_h (x : Int × Bool) : rowV (hRow x) = true := rfl
set_option maxHeartbeats 8000000 in
theorem ra_fzA (so : List Bool) (wy : List (Int × Bool)) (f t : Int) (c : List Bool) (X : List Net) (j : Nat) (Y : List (List Bool)) (k : Nat) (y : List Bool) (Z : List (Int × Int)) (i : Nat) (L : List (List D)) (at' : Int) (n x : Net) (W W' : List (Int × Bool)) (hl : W'.length = W.length) :
  Weak [] ⟨fr (RaAll so wy f t c X j Y k y Z i RaB), hp (RaWA L at' n x wy W W')⟩ ⟨fr (RaAll so wy f t c X j Y k y Z i (RaS4 [wy, W, W', W' ++ W] 0)), RaG L at' n x⟩ := by
 have ra := fun ks H => fun w => rows_ok hRow rowV_h ks H w
 have rb := fun w => rows_pl hRow rowV_h w
 have t3 : ((W' ++ W).map hRow).take W.length = W'.map hRow := by rw [List.map_append, List.take_append_of_le_length (by rw [List.length_map]; omega), List.take_of_length_le (by rw [List.length_map]; omega)]
 have t4 : ((W' ++ W).map hRow).take (W.length + W.length) = (W' ++ W).map hRow := List.take_of_length_le (by rw [List.length_map, List.length_append]; omega)
 have d1 : decide (W.length ≤ W'.length + W.length) = true := decide_eq_true (by omega)
 have d2 : decide (W.length + W.length ≤ W'.length + W.length) = true := decide_eq_true (by omega)
 have d3 : decide (W.length ≤ W'.length) = true := decide_eq_true (by omega)
 have d4 := fun ks H => fun w => rows_fzR hRow rowV_h ks H w
 have d5 : ∀ (js : List Nm) (w : List (Int × Bool)), (∀ h, h ∈ w → refsInL js (hRow h) = true) = True := fun js w => eq_true fun h _ => ref_hRow js h
 have rc : [wy, W, W', W' ++ W].map vRow = [[.sl (wy.map hRow)], [.sl (W.map hRow)], [.sl (W'.map hRow)], [.sl ((W' ++ W).map hRow)]] := by simp only [List.map_cons, List.map_nil, vRow]
 refine ((Weak.refl [] _).trans (weak_fz [(0, 193)] [(0, 14), (0, 17), (0, 67), (0, 215)] (l := (RaAll so wy f t c X j Y k y Z i RaB)) (h := (RaWA L at' n x wy W W')) (l' := (RaAll so wy f t c X j Y k y Z i RaB)) (H' := (RaVH L at' n x [wy, W, W', W' ++ W])) (by simp only [↓vp, vv, ↓reduceIte, simprocAttr, vz, listB, okKd, okK, lendKd, lendK, lendOk1B, frzF, Option.map_some, cond_true, cond_false, decide_true, decide_false, Bool.and_self, RaWA, RaAll, RaF, RaS1, RaS2, RaS3, RaB, RaVH, sE, netD, ra, rb, rc, t3, t4, d1, d2, d3, d4, d5, List.map_cons, List.map_nil]) (by simp only [↓vp, vv, ↓reduceIte, simprocAttr, vz, listB, okKd, okK, lendKd, lendK, lendOk1B, frzF, Option.map_some, cond_true, cond_false, decide_true, decide_false, Bool.and_self, RaWA, RaAll, RaF, RaS1, RaS2, RaS3, RaB, RaVH, sE, netD, ra, rb, rc, t3, t4, d1, d2, d3, d4, d5, List.map_cons, List.map_nil]) (by simp only [↓vp, vv, ↓reduceIte, simprocAttr, vz, listB, okKd, okK, lendKd, lendK, lendOk1B, frzF, Option.map_some, cond_true, cond_false, decide_true, decide_false, Bool.and_self, RaWA, RaAll, RaF, RaS1, RaS2, RaS3, RaB, RaVH, sE, netD, ra, rb, rc, t3, t4, d1, d2, d3, d4, d5, List.map_cons, List.map_nil]; try rfl) (by simp only [↓vp, vv, ↓reduceIte, simprocAttr, vz, listB, okKd, okK, lendKd, lendK, lendOk1B, frzF, Option.map_some, cond_true, cond_false, decide_true, decide_false, Bool.and_self, RaWA, RaAll, RaF, RaS1, RaS2, RaS3, RaB, RaVH, sE, netD, ra, rb, rc, t3, t4, d1, d2, d3, d4, d5, List.map_cons, List.map_nil]; try rfl) (by simp only [↓vp, vv, ↓reduceIte, simprocAttr, vz, listB, okKd, okK, lendKd, lendK, lendOk1B, frzF, Option.map_some, cond_true, cond_false, decide_true, decide_false, Bool.and_self, refsF, RaWA, RaAll, RaF, RaS1, RaS2, RaS3, RaB, RaVH, sE, netD, ra, rb, rc, t3, t4, d1, d2, d3, d4, d5, List.map_cons, List.map_nil]) (by simp only [↓vp, vv, ↓reduceIte, simprocAttr, vz, listB, okKd, okK, lendKd, lendK, lendOk1B, frzF, Option.map_some, cond_true, cond_false, decide_true, decide_false, Bool.and_self, RaWA, RaAll, RaF, RaS1, RaS2, RaS3, RaB, RaVH, sE, netD, ra, rb, rc, t3, t4, d1, d2, d3, d4, d5, List.map_cons, List.map_nil]) (by simp))).trans ?_
 exact (weak_eqA [(0, 215)] [(0, 14), (0, 17), (0, 67)] (RaAll so wy f t c X j Y k y Z i (RaS4 [wy, W, W', W' ++ W] 0)) (by refine ⟨?_, ?_, ?_, by simp, ?_⟩ <;> (simp only [↓vp, vv, ↓reduceIte, simprocAttr, coverS, refsF, RaAll, RaF, RaS1, RaS2, RaS3, RaS4, RaB, RaVH, RaG, sE, netD, rc] <;> try rfl)))
set_option maxHeartbeats 8000000 in
theorem ra_fzB (so : List Bool) (wy : List (Int × Bool)) (f t : Int) (c : List Bool) (X : List Net) (j : Nat) (Y : List (List Bool)) (k : Nat) (y : List Bool) (Z : List (Int × Int)) (i : Nat) (L : List (List D)) (at' : Int) (n x : Net) (W W' : List (Int × Bool)) (hl : W'.length = W.length) :
  Weak [] ⟨fr (RaAll so wy f t c X j Y k y Z i RaB), hp (RaWB L at' n x wy W W')⟩ ⟨fr (RaAll so wy f t c X j Y k y Z i (RaS4 [wy, W, W', W' ++ W] 0)), RaG L at' n x⟩ := by
 have ra := fun ks H => fun w => rows_ok hRow rowV_h ks H w
 have rb := fun w => rows_pl hRow rowV_h w
 have t3 : (W'.map hRow).take W.length = W'.map hRow := by rw [List.take_of_length_le (by rw [List.length_map]; omega)]
 have t4 : ((W' ++ W).map hRow).take (W.length + W.length) = (W' ++ W).map hRow := List.take_of_length_le (by rw [List.length_map, List.length_append]; omega)
 have d1 : decide (W.length ≤ W'.length + W.length) = true := decide_eq_true (by omega)
 have d2 : decide (W.length + W.length ≤ W'.length + W.length) = true := decide_eq_true (by omega)
 have d3 : decide (W.length ≤ W'.length) = true := decide_eq_true (by omega)
 have d4 := fun ks H => fun w => rows_fzR hRow rowV_h ks H w
 have d5 : ∀ (js : List Nm) (w : List (Int × Bool)), (∀ h, h ∈ w → refsInL js (hRow h) = true) = True := fun js w => eq_true fun h _ => ref_hRow js h
 have rc : [wy, W, W', W' ++ W].map vRow = [[.sl (wy.map hRow)], [.sl (W.map hRow)], [.sl (W'.map hRow)], [.sl ((W' ++ W).map hRow)]] := by simp only [List.map_cons, List.map_nil, vRow]
 refine ((Weak.refl [] _).trans (weak_fz [(0, 193), (0, 214)] [(0, 14), (0, 17), (0, 67), (0, 215)] (l := (RaAll so wy f t c X j Y k y Z i RaB)) (h := (RaWB L at' n x wy W W')) (l' := (RaAll so wy f t c X j Y k y Z i RaB)) (H' := (RaVH L at' n x [wy, W, W', W' ++ W])) (by simp only [↓vp, vv, ↓reduceIte, simprocAttr, vz, listB, okKd, okK, lendKd, lendK, lendOk1B, frzF, Option.map_some, cond_true, cond_false, decide_true, decide_false, Bool.and_self, RaWB, RaAll, RaF, RaS1, RaS2, RaS3, RaB, RaVH, sE, netD, ra, rb, rc, t3, t4, d1, d2, d3, d4, d5, List.map_cons, List.map_nil]) (by simp only [↓vp, vv, ↓reduceIte, simprocAttr, vz, listB, okKd, okK, lendKd, lendK, lendOk1B, frzF, Option.map_some, cond_true, cond_false, decide_true, decide_false, Bool.and_self, RaWB, RaAll, RaF, RaS1, RaS2, RaS3, RaB, RaVH, sE, netD, ra, rb, rc, t3, t4, d1, d2, d3, d4, d5, List.map_cons, List.map_nil]) (by simp only [↓vp, vv, ↓reduceIte, simprocAttr, vz, listB, okKd, okK, lendKd, lendK, lendOk1B, frzF, Option.map_some, cond_true, cond_false, decide_true, decide_false, Bool.and_self, RaWB, RaAll, RaF, RaS1, RaS2, RaS3, RaB, RaVH, sE, netD, ra, rb, rc, t3, t4, d1, d2, d3, d4, d5, List.map_cons, List.map_nil]; try rfl) (by simp only [↓vp, vv, ↓reduceIte, simprocAttr, vz, listB, okKd, okK, lendKd, lendK, lendOk1B, frzF, Option.map_some, cond_true, cond_false, decide_true, decide_false, Bool.and_self, RaWB, RaAll, RaF, RaS1, RaS2, RaS3, RaB, RaVH, sE, netD, ra, rb, rc, t3, t4, d1, d2, d3, d4, d5, List.map_cons, List.map_nil]; try rfl) (by simp only [↓vp, vv, ↓reduceIte, simprocAttr, vz, listB, okKd, okK, lendKd, lendK, lendOk1B, frzF, Option.map_some, cond_true, cond_false, decide_true, decide_false, Bool.and_self, refsF, RaWB, RaAll, RaF, RaS1, RaS2, RaS3, RaB, RaVH, sE, netD, ra, rb, rc, t3, t4, d1, d2, d3, d4, d5, List.map_cons, List.map_nil]) (by simp only [↓vp, vv, ↓reduceIte, simprocAttr, vz, listB, okKd, okK, lendKd, lendK, lendOk1B, frzF, Option.map_some, cond_true, cond_false, decide_true, decide_false, Bool.and_self, RaWB, RaAll, RaF, RaS1, RaS2, RaS3, RaB, RaVH, sE, netD, ra, rb, rc, t3, t4, d1, d2, d3, d4, d5, List.map_cons, List.map_nil]) (by simp))).trans ?_
 exact (weak_eqA [(0, 215)] [(0, 14), (0, 17), (0, 67)] (RaAll so wy f t c X j Y k y Z i (RaS4 [wy, W, W', W' ++ W] 0)) (by refine ⟨?_, ?_, ?_, by simp, ?_⟩ <;> (simp only [↓vp, vv, ↓reduceIte, simprocAttr, coverS, refsF, RaAll, RaF, RaS1, RaS2, RaS3, RaS4, RaB, RaVH, RaG, sE, netD, rc] <;> try rfl)))
set_option maxHeartbeats 8000000 in
theorem ra_six (so : List Bool) (wy : List (Int × Bool)) (f t : Int) (c : List Bool) (X : List Net) (j : Nat) (Y : List (List Bool)) (k : Nat) (y : List Bool) (Z : List (Int × Int)) (i : Nat) (L : List (List D)) (at' : Int) (n x : Net) (VV : List (List (Int × Bool))) (h4 : VV.length = 4) (hv : ∀ v ∈ VV, v.length ≤ 1000) (Q : Ex → St → Prop) (s : St) (hw : Weak [] s ⟨fr (RaAll so wy f t c X j Y k y Z i (RaS4 VV 0)), RaG L at' n x⟩)
  (hq : Q (.exit 6) ⟨putF (fr (RaAll so wy f t c X j Y k y Z i (RaS4 VV 4))) (some 218) (db false), RaG L at' n x⟩) : vc TRz (fun t => (0, t)) [] (.loop c6_3) Q s := by
 have hn1 := netOf1_x
 refine rng_loop 4 (fun q => ⟨fr (RaAll so wy f t c X j Y k y Z i (RaS4 VV q)), RaG L at' n x⟩) (fun _ => True) hw trivial (fun q hqq _ => ?_) (fun _ => ?_)
 ·have hqn := idx_nn q
  have wq := idx_next (j := q) (by omega)
  have hq' : (q : Int) < 4 := by omega
  have hqv : q < VV.length := by omega
  have g : (VV.map vRow).getD q [] = [.sl (VV[q].map hRow)] := getD_map vRow VV q hqv
  have vl := hv _ (List.getElem_mem hqv)
  generalize VV[q] = v at g vl
  have hh : lsOf hopOf1 (v.map hRow) = some v := lsOf_map hopOf1_row v
  simp (maxSteps:=500000) only [↓vp, vv, ↓reduceIte, simprocAttr, c6_3, c6_2, c6_1, TRz, TRz1, selLw, RaAll, RaF, RaS1, RaS2, RaS3, RaS4, RaG, netD, hq', hqn, h4, g, Int.toNat_natCast, hn1, hh, vl, bne_self_eq_false, wq]
  exact rng_next hqq (weak_eqA [] [(0, 14), (0, 17), (0, 67)] (RaAll so wy f t c X j Y k y Z i (RaS4 VV (q + 1))) (by refine ⟨?_, ?_, ?_, by simp, ?_⟩ <;> (simp only [↓vp, vv, ↓reduceIte, simprocAttr, coverS, refsF, RaAll, RaF, RaS1, RaS2, RaS3, RaS4, RaG, sE, netD, wq] <;> try rfl))) trivial
 ·simp (maxSteps:=500000) only [↓vp, vv, ↓reduceIte, simprocAttr, c6_3, RaAll, RaF, RaS1, RaS2, RaS3, RaS4, RaG, netD, Int.lt_irrefl]
  exact hq
set_option maxHeartbeats 32000000 in
theorem RA_c (raw : Net) (so : List Bool) (wy : List (Int × Bool)) (f t : Int) (ns : List Int) (hns : ∀ n ∈ ns, InI n) (nn : Nm) : CallsA Try.prog 6 [raw.enc, .sl (so.map bRow), .sl (wy.map hRow), di f, di t, .sl (ns.map fun n => [di n])] Hp.none nn (Pu (db true) Hp.none) := by
 obtain ⟨code, h1, h2⟩ := c6_ok
 refine callsA_of TRz_ok mixed (N := fun t => (0, t)) Try.func6 h1 h2 r6_ok [] false js_nil js_nil' (by simp [Try.f6]) ?_
 have ho : SrcOk ((ns.map fun n => [di n]).take 2000) 0 := src_new ns hns
 generalize (ns.map fun n => [di n]) = L0 at ho
 cases c1 : decide ((40 : Int) < raw.nodes.length) with
 | true => simp (maxSteps:=500000) only [↓vp, vv, ↓reduceIte, simprocAttr, c6, r6, TRz, selAw, Net.enc, c1, Pu]
 | false =>
 cases c2 : decide ((50 : Int) < raw.segs.length) with
 | true => simp (maxSteps:=500000) only [↓vp, vv, ↓reduceIte, simprocAttr, c6, r6, TRz, selAw, Net.enc, c1, c2, Pu]
 | false =>
 cases c3 : decide ((60 : Int) < so.length) with
 | true => simp (maxSteps:=500000) only [↓vp, vv, ↓reduceIte, simprocAttr, c6, r6, TRz, selAw, Net.enc, c1, c2, c3, Pu]
 | false =>
 cases c4 : decide ((60 : Int) < wy.length) with
 | true => simp (maxSteps:=500000) only [↓vp, vv, ↓reduceIte, simprocAttr, c6, r6, TRz, selAw, Net.enc, c1, c2, c3, c4, Pu]
 | false =>
  have sol : so.length ≤ 60 := by have := of_decide_eq_false c3; omega
  have wyl : wy.length ≤ 60 := by have := of_decide_eq_false c4; omega
  have hn1 := netOf1_x
  simp (maxSteps:=500000) only [↓vp, vv, ↓reduceIte, simprocAttr, c6, c6_17, TRz, rowNew, sel0, Net.enc, c1, c2, c3, c4, ho]
  clear c1 c2 c3 c4
  intro a1 n hn
  have hck := check_ok hn
  have hv := check0 hck
  have hsl : n.segs.length ≤ 1000 := by have := hv.sl; omega
  simp (maxSteps:=500000) only [↓vp, vv, ↓reduceIte, simprocAttr, TRz, selClo, hn1, hsl, a1.2, netD]
  intro a2 c hc
  have cl : c.length ≤ 1000000 := by have h : c.length = n.segs.length := hc; omega
  simp (maxSteps:=500000) only [↓vp, vv, ↓reduceIte, simprocAttr, TRz, selWrR, hn1, hn, a2.2, Net.enc, netD]
  intro a3 n' hn'
  generalize List.take 2000 L0 = L at a1 a2 a3 ho ⊢
  obtain ⟨X, hX⟩ : ∃ X : List Net, X = [raw, n, n'] := ⟨_, rfl⟩
  have xl : X.length = 3 := by rw [hX]; rfl
  have xd : X.map netD = [netD raw, netD n, netD n'] := by rw [hX]; rfl
  have yz : ∀ y ∈ [so, c], y.length ≤ 1000000 := by
   intro y hy
   simp only [List.mem_cons, List.not_mem_nil, or_false] at hy
   rcases hy with rfl | rfl
   ·omega
   ·exact cl
  have yd : [so, c].map bbRow = [[.sl (so.map bRow)], [.sl (c.map bRow)]] := rfl
  have yl : [so, c].length = 2 := rfl
  generalize [so, c] = Y at yz yd yl
  refine rg_loop 3 (fun j (u : SA L) => ⟨fr (RaF so wy f t c (RaS1 X j [])), RaH L u.1 n⟩) (u0 := a3) (weak_eqA [(0, 78)] [(0, 14), (0, 67)] (RaF so wy f t c (RaS1 X 0 [])) (by refine ⟨?_, ?_, ?_, by simp, ?_⟩ <;> (simp only [↓vp, vv, ↓reduceIte, simprocAttr, coverS, refsF, RaF, RaH, RaS1, sE, netD, xd] <;> try rfl))) (fun j hj u => ?_) (fun u => ?_)
  ·have uo := u.2
   have hjn := idx_nn j
   have wj := idx_next (j := j) (by omega)
   have hj' : (j : Int) < 3 := by omega
   have hjx : j < X.length := by omega
   have g : (X.map netD).getD j [] = netD X[j] := getD_map netD X j hjx
   generalize X[j] = x at g
   clear xd hX
   simp (maxSteps:=500000) only [↓vp, vv, ↓reduceIte, simprocAttr, c6_15, c6_14, RaF, RaS1, RaH, netD, hj', hjn, xl, g, Int.toNat_natCast]
   refine rg_loop 2 (fun k (u : SA L) => ⟨fr (RaF so wy f t c (RaS1 X j (RaS2 Y k []))), RaG L u.1 n x⟩) (u0 := u) (weak_eqA [(0, 86)] [(0, 14), (0, 17), (0, 67)] (RaF so wy f t c (RaS1 X j (RaS2 Y 0 []))) (by refine ⟨?_, ?_, ?_, by simp, ?_⟩ <;> (simp only [↓vp, vv, ↓reduceIte, simprocAttr, coverS, refsF, RaF, RaS1, RaS2, RaG, sE, netD, yd] <;> try rfl))) (fun k hk u => ?_) (fun u => ?_)
   ·have uo := u.2
    have hkn := idx_nn k
    have wk := idx_next (j := k) (by omega)
    have hk' : (k : Int) < 2 := by omega
    have hky : k < Y.length := by omega
    have g2 : (Y.map bbRow).getD k [] = [.sl (Y[k].map bRow)] := getD_map bbRow Y k hky
    have yq := yz _ (List.getElem_mem hky)
    generalize Y[k] = y at g2 yq
    have wn : IntKind.i64.wrap ((n.nodes.length : Int) - 1) = (n.nodes.length : Int) - 1 := wrap_i (by have := hv.nl; omega)
    simp (maxSteps:=500000) only [↓vp, vv, ↓reduceIte, simprocAttr, c6_12, c6_11, TRz, TRz1, T2, selRange, RaF, RaS1, RaS2, RaG, netD, hk', hkn, yl, g2, Int.toNat_natCast, uo, wn]
    intro a4 r1 hr1 a5 r2 hr2
    have zd : [(f, t), (r1, r2), (0, (n.nodes.length : Int) - 1)].map zRow = [[di f, di t], [di r1, di r2], [di 0, di ((n.nodes.length : Int) - 1)]] := rfl
    have zl : [(f, t), (r1, r2), (0, (n.nodes.length : Int) - 1)].length = 3 := rfl
    generalize [(f, t), (r1, r2), (0, (n.nodes.length : Int) - 1)] = Z at zd zl
    clear yd
    refine rg_loop 3 (fun i (u : SA L) => ⟨fr (RaF so wy f t c (RaS1 X j (RaS2 Y k (RaS3 y Z i [])))), RaG L u.1 n x⟩) (u0 := a5) (weak_eqA [(0, 105)] [(0, 14), (0, 17), (0, 67)] (RaF so wy f t c (RaS1 X j (RaS2 Y k (RaS3 y Z 0 [])))) (by refine ⟨?_, ?_, ?_, by simp, ?_⟩ <;> (simp only [↓vp, vv, ↓reduceIte, simprocAttr, coverS, refsF, RaF, RaS1, RaS2, RaS3, RaG, sE, netD, zd] <;> try rfl))) (fun i hi u => ?_) (fun u => ?_)
    ·clear zd
     have uo := u.2
     have hin := idx_nn i
     have wi := idx_next (j := i) (by omega)
     have hi' : (i : Int) < 3 := by omega
     have hiz : i < Z.length := by omega
     have g3 : (Z.map zRow).getD i [] = [di Z[i].1, di Z[i].2] := getD_map zRow Z i hiz
     generalize Z[i].1 = z1 at g3
     generalize Z[i].2 = z2 at g3
     obtain ⟨W, e, eW, hWl⟩ : ∃ (W : List (Int × Bool)) (e : Int), wayT x y z1 z2 = .tup [.sl (W.map hRow), di e] ∧ W.length ≤ 24 := ⟨_, _, rfl, wayF_l ..⟩
     obtain ⟨V, h, eV, hVl⟩ : ∃ (V : List Nat) (h : Int), reachT x y z1 = .tup [.sl (V.map nRow), di h] ∧ V.length ≤ 1000000 := ⟨_, _, rfl, reachF_l ..⟩
     obtain ⟨p, q, eP⟩ : ∃ (p : Bool) (q : Int), cutsT x y z2 = .tup [db p, di q] := ⟨_, _, rfl⟩
     have hb1 : lsOf boolOf1 (y.map bRow) = some y := lsOf_map boolOf1_row y
     have hW1 : lsOf hopOf1 (W.map hRow) = some W := lsOf_map hopOf1_row W
     have hWl6 : W.length ≤ 1000000 := by omega
     have hV1 := natsI V
     have hVl' : (V.map fun x : Nat => (x : Int)).length ≤ 1000000 := by rw [List.length_map]; exact hVl
     generalize (V.map fun x : Nat => (x : Int)) = Vi at hV1 hVl'
     have y1 : W.length * 16 ≤ 140737488355328 := by omega
     have y2 : W.length ≤ 4611686018427387904 := by omega
     have y3 : (W.length + W.length) * 16 ≤ 140737488355328 := by omega
     have y4 : W.length + W.length ≤ 4611686018427387904 := by omega
     have rl : ∀ x, (hRow x).length = 2 := fun _ => rfl
     have d5 : ∀ (js : List Nm) (w : List (Int × Bool)), (∀ h, h ∈ w → refsInL js (hRow h) = true) = True := fun js w => eq_true fun h _ => ref_hRow js h
     have wIn : InI W.length := by unfold InI; omega
     have two : InI 2 := by unfold InI; omega
     simp (maxSteps:=500000) only [↓vp, vv, ↓reduceIte, simprocAttr, c6_8, c6_7, TRz, TRz1, T2, selN2, selN1, preL2, preL1, selSm, selInts, RaF, RaS1, RaS2, RaS3, RaG, netD, hi', hin, zl, g3, Int.toNat_natCast, hn1, hb1, yq, eW, eV, eP, hW1, hWl6, hV1, hVl', bne_self_eq_false, decide_true, Bool.not_true]
     have tk : ∀ V : List (Int × Bool), V.length = W.length → (V.map hRow).take W.length = V.map hRow := fun V hV => List.take_of_length_le (by rw [List.length_map]; omega)
     have tk0 := tk W rfl
     have ma : ∀ a b : List (Int × Bool), a.map hRow ++ b.map hRow = (a ++ b).map hRow := fun a b => (List.map_append ..).symm
     have fin : ∀ (W' : List (Int × Bool)), W'.length = W.length → ∀ v ∈ [wy, W, W', W' ++ W], v.length ≤ 1000 := by
      intro W' hW' v hv
      simp only [List.mem_cons, List.not_mem_nil, or_false] at hv
      rcases hv with rfl | rfl | rfl | rfl
      ·omega
      ·omega
      ·omega
      ·rw [List.length_append]; omega
     cases cw : decide ((0 : Int) < W.length) with
     | false =>
      have w0 : W = [] := List.length_eq_zero_iff.1 (by have := of_decide_eq_false cw; omega)
      have cw' := of_decide_eq_false cw
      simp (maxSteps:=500000) only [↓vp, vv, ↓reduceIte, simprocAttr, c6_5, c6_4, y1, y2, y3, y4, rl, cw, cw', tk0]
      refine ⟨fun _ => by rw [w0]; rfl, .inr ?_, ?_⟩
      ·refine ra_six so wy f t c X j Y k y Z i L u.1 n x [wy, W, W, W ++ W] rfl (fin W rfl) _ _ ((weak_eq [] [(0, 14), (0, 17), (0, 67), (0, 215), (0, 193)] (RaAll so wy f t c X j Y k y Z i RaB) (H' := hp (RaWA L u.1 n x wy W W)) (by simp only [↓vp, vv, ↓reduceIte, simprocAttr, coverS, RaAll, RaF, RaS1, RaS2, RaS3, RaB]) (by simp only [↓vp, vv, ↓reduceIte, simprocAttr, refsF, RaAll, RaF, RaS1, RaS2, RaS3, RaB]) (by simp only [↓vp, vv, ↓reduceIte, simprocAttr, ma, d5]) (by simp) (by simp only [↓vp, vv, ↓reduceIte, simprocAttr, hp_cons, hp_nil, RaWA, sE, ma]; try rfl)).trans (ra_fzA so wy f t c X j Y k y Z i L u.1 n x W W rfl)) ?_
       simp (maxSteps:=500000) only [↓vp, vv, ↓reduceIte, simprocAttr, c6_6, RaAll, RaF, RaS1, RaS2, RaS3, RaS4, RaG, netD, wi]
       exact rg_next hi u (weak_eqA [] [(0, 14), (0, 17), (0, 67)] (RaF so wy f t c (RaS1 X j (RaS2 Y k (RaS3 y Z (i + 1) [])))) (by refine ⟨?_, ?_, ?_, by simp, ?_⟩ <;> (simp only [↓vp, vv, ↓reduceIte, simprocAttr, coverS, refsF, RaF, RaS1, RaS2, RaS3, RaS4, RaG, sE, netD, wi] <;> try rfl)))
      ·refine ra_six so wy f t c X j Y k y Z i L u.1 n x [wy, W, W, W ++ W] rfl (fin W rfl) _ _ ((weak_eq [] [(0, 14), (0, 17), (0, 67), (0, 215), (0, 193), (0, 214)] (RaAll so wy f t c X j Y k y Z i RaB) (H' := hp (RaWB L u.1 n x wy W W)) (by simp only [↓vp, vv, ↓reduceIte, simprocAttr, coverS, RaAll, RaF, RaS1, RaS2, RaS3, RaB]) (by simp only [↓vp, vv, ↓reduceIte, simprocAttr, refsF, RaAll, RaF, RaS1, RaS2, RaS3, RaB]) (by simp only [↓vp, vv, ↓reduceIte, simprocAttr, ma, d5]) (by simp) (by simp only [↓vp, vv, ↓reduceIte, simprocAttr, hp_cons, hp_nil, RaWB, sE, ma]; try rfl)).trans (ra_fzB so wy f t c X j Y k y Z i L u.1 n x W W rfl)) ?_
       simp (maxSteps:=500000) only [↓vp, vv, ↓reduceIte, simprocAttr, c6_6, RaAll, RaF, RaS1, RaS2, RaS3, RaS4, RaG, netD, wi]
       exact rg_next hi u (weak_eqA [] [(0, 14), (0, 17), (0, 67)] (RaF so wy f t c (RaS1 X j (RaS2 Y k (RaS3 y Z (i + 1) [])))) (by refine ⟨?_, ?_, ?_, by simp, ?_⟩ <;> (simp only [↓vp, vv, ↓reduceIte, simprocAttr, coverS, refsF, RaF, RaS1, RaS2, RaS3, RaS4, RaG, sE, netD, wi] <;> try rfl)))
     | true =>
      have cw' := of_decide_eq_true cw
      simp (maxSteps:=500000) only [↓vp, vv, ↓reduceIte, simprocAttr, c6_5, T1, selI, y1, y2, y3, y4, rl, cw, cw', tk0, wIn, two, uo]
      intro a6 m hm
      obtain ⟨hm0, hm1, _⟩ := hm
      have hm1 := hm1 (by omega)
      have hmN : m.toNat < W.length := by omega
      have gm := getD_map hRow W m.toNat hmN
      have hst : ∀ b : Bool, (W.map hRow).set m.toNat [di W[m.toNat].1, db b] = (W.set m.toNat (W[m.toNat].1, b)).map hRow := fun b => by rw [List.map_set]; rfl
      have hsl : ∀ b : Bool, (W.set m.toNat (W[m.toNat].1, b)).length = W.length := fun b => List.length_set ..
      generalize W[m.toNat] = w0 at gm hst hsl
      rw [gm]
      intro a7 b hb
      refine ⟨⟨hm0, hm1⟩, ⟨hmN, Nat.le_refl _⟩, ?_⟩
      simp (maxSteps:=500000) only [↓vp, vv, ↓reduceIte, simprocAttr, c6_4, y1, y2, y3, y4, rl, hRow, hst, cw, cw']
      have hl' := hsl (b == 0)
      generalize W.set m.toNat (w0.1, b == 0) = W' at hl'
      have tkW := tk W' hl'
      refine ⟨⟨by omega, fun h => by omega⟩, .inr ?_, ?_⟩
      ·refine ra_six so wy f t c X j Y k y Z i L a7.1 n x [wy, W, W', W' ++ W] rfl (fin W' hl') _ _ ((weak_eq [] [(0, 14), (0, 17), (0, 67), (0, 215), (0, 193)] (RaAll so wy f t c X j Y k y Z i RaB) (H' := hp (RaWA L a7.1 n x wy W W')) (by simp only [↓vp, vv, ↓reduceIte, simprocAttr, coverS, RaAll, RaF, RaS1, RaS2, RaS3, RaB]) (by simp only [↓vp, vv, ↓reduceIte, simprocAttr, refsF, RaAll, RaF, RaS1, RaS2, RaS3, RaB]) (by simp only [↓vp, vv, ↓reduceIte, simprocAttr, ma, d5, tkW]) (by simp) (by simp only [↓vp, vv, ↓reduceIte, simprocAttr, hp_cons, hp_nil, RaWA, sE, ma, tkW]; try rfl)).trans (ra_fzA so wy f t c X j Y k y Z i L a7.1 n x W W' hl')) ?_
       simp (maxSteps:=500000) only [↓vp, vv, ↓reduceIte, simprocAttr, c6_6, RaAll, RaF, RaS1, RaS2, RaS3, RaS4, RaG, netD, wi]
       exact rg_next hi a7 (weak_eqA [] [(0, 14), (0, 17), (0, 67)] (RaF so wy f t c (RaS1 X j (RaS2 Y k (RaS3 y Z (i + 1) [])))) (by refine ⟨?_, ?_, ?_, by simp, ?_⟩ <;> (simp only [↓vp, vv, ↓reduceIte, simprocAttr, coverS, refsF, RaF, RaS1, RaS2, RaS3, RaS4, RaG, sE, netD, wi] <;> try rfl)))
      ·refine ra_six so wy f t c X j Y k y Z i L a7.1 n x [wy, W, W', W' ++ W] rfl (fin W' hl') _ _ ((weak_eq [] [(0, 14), (0, 17), (0, 67), (0, 215), (0, 193), (0, 214)] (RaAll so wy f t c X j Y k y Z i RaB) (H' := hp (RaWB L a7.1 n x wy W W')) (by simp only [↓vp, vv, ↓reduceIte, simprocAttr, coverS, RaAll, RaF, RaS1, RaS2, RaS3, RaB]) (by simp only [↓vp, vv, ↓reduceIte, simprocAttr, refsF, RaAll, RaF, RaS1, RaS2, RaS3, RaB]) (by simp only [↓vp, vv, ↓reduceIte, simprocAttr, ma, d5, tkW]) (by simp) (by simp only [↓vp, vv, ↓reduceIte, simprocAttr, hp_cons, hp_nil, RaWB, sE, ma, tkW]; try rfl)).trans (ra_fzB so wy f t c X j Y k y Z i L a7.1 n x W W' hl')) ?_
       simp (maxSteps:=500000) only [↓vp, vv, ↓reduceIte, simprocAttr, c6_6, RaAll, RaF, RaS1, RaS2, RaS3, RaS4, RaG, netD, wi]
       exact rg_next hi a7 (weak_eqA [] [(0, 14), (0, 17), (0, 67)] (RaF so wy f t c (RaS1 X j (RaS2 Y k (RaS3 y Z (i + 1) [])))) (by refine ⟨?_, ?_, ?_, by simp, ?_⟩ <;> (simp only [↓vp, vv, ↓reduceIte, simprocAttr, coverS, refsF, RaF, RaS1, RaS2, RaS3, RaS4, RaG, sE, netD, wi] <;> try rfl)))
    ·have eP : ∃ (P : List (List Nat)) (e : Int), partsT x y = .tup [.sl (P.map pRow), di e] ∧ LsOk (P.map pRow) := ⟨_, _, rfl, partsF_ok ..⟩
     obtain ⟨P, e, eP, hP⟩ := eP
     have hb1 : lsOf boolOf1 (y.map bRow) = some y := lsOf_map boolOf1_row y
     simp (maxSteps:=500000) only [↓vp, vv, ↓reduceIte, simprocAttr, c6_8, c6_9, c6_10, TRz, TRz1, T2, selN0, preL0, selLsE, RaF, RaS1, RaS2, RaS3, RaG, netD, zl, Int.lt_irrefl, hn1, hb1, yq, eP, hP, bne_self_eq_false, Bool.not_true, wk]
     exact rg_next hk u (weak_eqA [] [(0, 14), (0, 17), (0, 67)] (RaF so wy f t c (RaS1 X j (RaS2 Y (k + 1) []))) (by refine ⟨?_, ?_, ?_, by simp, ?_⟩ <;> (simp only [↓vp, vv, ↓reduceIte, simprocAttr, coverS, refsF, RaF, RaS1, RaS2, RaS3, RaG, sE, netD, wk] <;> try rfl)))
   ·simp (maxSteps:=500000) only [↓vp, vv, ↓reduceIte, simprocAttr, c6_12, c6_13, RaF, RaS1, RaS2, RaG, yl, Int.lt_irrefl, wj]
    exact rg_next hj u (weak_eqA [] [(0, 14), (0, 67)] (RaF so wy f t c (RaS1 X (j + 1) [])) (by refine ⟨?_, ?_, ?_, by simp, ?_⟩ <;> (simp only [↓vp, vv, ↓reduceIte, simprocAttr, coverS, refsF, RaF, RaH, RaS1, RaG, sE, netD, wj] <;> try rfl)))
  ·simp (maxSteps:=500000) only [↓vp, vv, ↓reduceIte, simprocAttr, c6_15, c6_16, r6, TRz, selAw, RaF, RaS1, RaH, Int.lt_irrefl, Pu]
theorem RouteAnswers_law (v0 v1 v2 : Value) (f t : Int) (a : Option Addr) (len cap : Nat) (w : World) (h0 : ∃ x : Net, Arg w (.agg (netD x)) v0) (h1 : ∃ x : List Bool, Arg w (.sl (x.map bRow)) v1) (h2 : ∃ x : List (Int × Bool), Arg w (.sl (x.map hRow)) v2) (h5 : ArgInts w a len cap) :
  Calls Try.prog 6 #[v0, v1, v2, .int .i64 f, .int .i64 t, .slice a len cap] w (Ret (.bool true) w) := by
 obtain ⟨n, g0⟩ := h0
 obtain ⟨so, g1⟩ := h1
 obtain ⟨wy, g2⟩ := h2
 obtain ⟨ns, hns, g5⟩ := arg_ints h5
 exact law_any (us := [v0, v1, v2, .int .i64 f, .int .i64 t, .slice a len cap]) (.cons g0 (.cons g1 (.cons g2 (.cons (.v _) (.cons (.v _) (.cons g5 .nil)))))) (RA_c n so wy f t ns hns (0, 0))
end Go.Proofs.Ytadjhfjiimgddaa
