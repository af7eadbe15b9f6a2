/- ToolMade: TwG TwH. -/
import Derived.Test.YtadjhfjiimgddaaTM20
import Derived.Test.YtadjhfjiimgddaaTM21
import Derived.Test.YtadjhfjiimgddaaTM13
set_option linter.unusedSimpArgs false
set_option linter.unusedVariables false
set_option maxRecDepth 100000

/- ToolMade: the walk. -/
namespace Go.Proofs.Ytadjhfjiimgddaa
open Go
def selWr5 : List D → Option (Prop × (Net → Prop))
  | [.agg a] => match netOf1 a with
    | some n => some (NetOk n, WrOk n)
    | Option.none => Option.none
  | _ => Option.none
def selOf5 : List D → Option (Prop × (Pln → Prop))
  | [.agg a] => match plnOf1 a with
    | some p => some (OffPre p, PlnSz)
    | Option.none => Option.none
  | _ => Option.none
theorem wr_ex5 (n : Net) : WrOk n ⟨[], n.segs.map fun s => ⟨s.name, s.fr, s.to, s.cap, s.resist, s.wave, []⟩, n.ports, [], 0, 0⟩ := ⟨by simp, by simp, rfl, by simp, fun s hs => by
  obtain ⟨t, _, rfl⟩ := List.mem_map.1 hs
  simp⟩
theorem mod5_c (x n : Int) (hn : InI n) (nn : Nm) : CallsA Try.prog 35 [di x, di n] Hp.none nn (Pu (di (modI x n)) Hp.none) := by
  obtain ⟨code, h1, h2⟩ := c35_ok
  refine callsA_of TN_ok mixed (N := fun t => (0, t)) Try.func35 h1 h2 r35_ok [] false js_nil js_nil' (by simp [Try.f35]) ?_
  simp (maxSteps:=500000) only [↓vp, vv, ↓reduceIte, simprocAttr, c35, r35, r35, TN, selMod, hn, Pu]
def TMx : Tbl := tc 22 (rowPu selFw32) (tc 8 rowNew (tc 32 (rowSrc (sel0 NetOk) Net.enc) (tc 33 (rowSrc selPlan Pln.enc) (tc 34 (rowSrc selWay (fun w => .sl (w.map tHop))) (tc 13 (rowSrc (selI InI NPost) di) (tc 36 (rowSrc selWr5 Net.enc) (tc 37 (rowSrc selOf5 Pln.enc) (tc 35 (rowPu selMod) T0))))))))
def TMg : Tbl := TMe TMx
theorem TMx_ok : TblOk Try.prog TMx := by
  refine tc_pu f22_ok (fun args pre d h hp nn => ?_) (tc_new (tc_net (tc_plan (tc_way32 (tc_src f13_ok (fun args pre post h hp => ?_) (tc_src f36_ok (fun args pre post h hp => ?_) (tc_src f37_ok (fun args pre post h hp => ?_) (tc_pu f35_ok (fun args pre d h hp nn => ?_) (T0_ok _)))))))))
  · unfold selFw32 at h
    split at h
    · cases h; exact few32_c _ nn
    · cases h
  · unfold selI at h
    split at h
    · cases h; exact ⟨⟨0, Int.le_refl _, fun h => by omega, fun _ => rfl⟩, N_c _ hp⟩
    · cases h
  · unfold selWr5 at h
    split at h
    · split at h
      · rename_i e1
        cases h
        rw [netOf1_eq e1]
        exact ⟨⟨_, wr_ex5 _⟩, Wrong_c _ hp⟩
      · cases h
    · cases h
  · unfold selOf5 at h
    split at h
    · split at h
      · rename_i e1
        cases h
        rw [plnOf1_eq e1]
        exact ⟨⟨⟨[], [], []⟩, by simp, by simp, by simp⟩, off_c _ hp⟩
      · cases h
    · cases h
  · unfold selMod at h
    split at h <;> cases h
    exact mod5_c _ _ hp nn
theorem TMg_ok : TblOk Try.prog TMg := TMe_ok TMx_ok
def MmF (odd by_ : Int) (w : List (Int × Bool)) (l : List (Nat × D)) : List (Nat × D) := (1, di odd) :: (2, di by_) :: (7, .ptr (0, 36) 0 0 0) :: (8, .ptr (0, 8) 0 0 0) :: (9, .ptr (0, 9) 0 0 0) :: (10, .sl (w.map tHop)) :: l
def MmA (L : List (List D)) (at' : Int) (n : Net) (p : Pln) : Hp := ((Hp.none.put (0, 9) ⟨0, 3, [plnD p]⟩).put (0, 8) ⟨0, 6, [netD n]⟩).put (0, 36) (sE L at')
def MmB (L : List (List D)) (at' : Int) (n : Net) (p : Pln) (w : List (Int × Bool)) (g : Nat) (h a : Int) (rs : List Tol) : Hp := ((((Hp.none.put (0, 1001) ⟨1, 2, w.map tHop⟩).put (0, 84) ⟨g, 3, [.own (0, 1001) 1 0 w.length, di h, di a] :: rs.map Tol.row⟩).put (0, 9) ⟨0, 3, [plnD p]⟩).put (0, 8) ⟨0, 6, [netD n]⟩).put (0, 36) (sE L at')
def MmQ (L : List (List D)) (at' : Int) (n : Net) (p : Pln) (w : List (Int × Bool)) (h a : Int) : Hp := ((((Hp.none.put (0, 52) ⟨1, 2, w.map tHop⟩).put (0, 84) ⟨0, 3, [[.own (0, 52) 1 0 w.length, di h, di a]]⟩).put (0, 9) ⟨0, 3, [plnD p]⟩).put (0, 8) ⟨0, 6, [netD n]⟩).put (0, 36) (sE L at')
theorem ref_hop (js : List Nm) (x : Int × Bool) : refsInL js (tHop x) = true := rfl
theorem ren_hops (i j : Nm) (w : List (Int × Bool)) : (w.map tHop).map (renDs i j) = w.map tHop := by
  rw [List.map_map]
  exact List.map_congr_left fun x _ => rfl
theorem mm_ren (L : List (List D)) (at' : Int) (n : Net) (p : Pln) (w : List (Int × Bool)) (odd by_ h a k : Int) : Weak [] ⟨fr (MmF odd by_ w [(11, .own (0, 84) 0 0 1), (12, di k)]), MmQ L at' n p w h a⟩ ⟨fr (MmF odd by_ w [(11, .own (0, 84) 0 0 1), (12, di k)]), MmB L at' n p w 0 h a []⟩ := by
  refine (weak_ren (0, 52) (0, 1001) (by simp (maxSteps:=500000) only [↓vp, vv, ↓reduceIte, simprocAttr, MmQ]) (by simp)).trans ?_
  exact weak_eq [] [(0, 36), (0, 8), (0, 9), (0, 84), (0, 1001)] (MmF odd by_ w [(11, .own (0, 84) 0 0 1), (12, di k)]) (by simp (maxSteps:=500000) only [↓vp, vv, ↓reduceIte, simprocAttr, coverS, MmF, D.ren, rnm]) (by simp (maxSteps:=500000) only [↓vp, vv, ↓reduceIte, simprocAttr, refsF, MmF]) (by simp (maxSteps:=500000) only [↓vp, vv, ↓reduceIte, simprocAttr, hren_at, MmQ, En.ren, renDs, D.ren, rnm, sE, ren_hops, netD, plnD, ref_hop]) (by simp) (by simp (maxSteps:=500000) only [↓vp, vv, ↓reduceIte, simprocAttr, hren_at, MmQ, MmB, En.ren, renDs, D.ren, rnm, sE, ren_hops, netD, plnD]; try rfl)
theorem listB_app {α : Type} (p : α → Bool) : ∀ a b : List α, listB p (a ++ b) = (listB p a && listB p b)
  | [], b => by simp [listB]
  | x :: a, b => by rw [List.cons_append, listB, listB_app p a b, listB]; cases p x <;> cases listB p a <;> cases listB p b <;> rfl
theorem tol_v (t : Tol) : rowV t.row = true := rfl
theorem hop_v (x : Int × Bool) : rowV (tHop x) = true := rfl
def MmW (L : List (List D)) (at' : Int) (n : Net) (p : Pln) (w : List (Int × Bool)) (g : Nat) (h a : Int) (rs : List Tol) (b d : Int) : List (Nm × En) := [((0, 36), sE L at'), ((0, 8), ⟨0, 6, [netD n]⟩), ((0, 9), ⟨0, 3, [plnD p]⟩), ((0, 84), ⟨g, 3, [.own (0, 1001) 1 0 w.length, di h, di a] :: (rs.map Tol.row ++ [[.own (0, 52) 1 0 w.length, di b, di d]])⟩), ((0, 1001), ⟨1, 2, w.map tHop⟩), ((0, 52), ⟨1, 2, w.map tHop⟩)]
theorem mm_frz (L : List (List D)) (at' : Int) (n : Net) (p : Pln) (w : List (Int × Bool)) (odd by_ : Int) (g : Nat) (h a : Int) (rs : List Tol) (b d k : Int) (q : Nat) : Weak [] ⟨fr (MmF odd by_ w [(11, .own (0, 84) g 0 q), (12, di k)]), hp (MmW L at' n p w g h a rs b d)⟩ ⟨fr (MmF odd by_ w [(11, .own (0, 84) g 0 q), (12, di k)]), MmB L at' n p w g h a (rs ++ [⟨w, b, d⟩])⟩ := by
  have ra := fun ks H => rows_ok Tol.row tol_v ks H rs
  have rb := fun ks H => rows_ok tHop hop_v ks H w
  have rc := fun ks H => rows_fz Tol.row tol_v ks H rs
  have rd := fun ks H => rows_fz tHop hop_v ks H w
  have re := rows_pl tHop hop_v w
  have t3 : (w.map tHop).take w.length = w.map tHop := List.take_of_length_le (by simp)
  have rf : (rs ++ [(⟨w, b, d⟩ : Tol)]).map Tol.row = rs.map Tol.row ++ [[.sl (w.map tHop), di b, di d]] := by rw [List.map_append]; rfl
  have rg : ∀ js, (∀ j ∈ rs, refsInL js (Tol.row j) = true) = True := fun js => eq_true fun j _ => rfl
  exact (Weak.refl [] _).trans (weak_fz [(0, 52)] [(0, 36), (0, 8), (0, 9), (0, 84), (0, 1001)] (l := (MmF odd by_ w [(11, .own (0, 84) g 0 q), (12, di k)])) (h := (MmW L at' n p w g h a rs b d)) (l' := (MmF odd by_ w [(11, .own (0, 84) g 0 q), (12, di k)])) (H' := (MmB L at' n p w g h a (rs ++ [⟨w, b, d⟩]))) (by simp (maxSteps:=500000) only [↓vp, vv, ↓reduceIte, simprocAttr, vz, listB, okKd, okK, lendKd, lendK, lendOk1B, frzF, Option.map_some, cond_true, cond_false, decide_true, decide_false, Bool.and_self, MmW, MmF, MmB, sE, netD, plnD, listB_app, ra, rb, rc, rd, re, rf, rg, t3, ref_hop, List.map_append, List.map_cons, List.map_nil]) (by simp (maxSteps:=500000) only [↓vp, vv, ↓reduceIte, simprocAttr, vz, listB, okKd, okK, lendKd, lendK, lendOk1B, frzF, Option.map_some, cond_true, cond_false, decide_true, decide_false, Bool.and_self, MmW, MmF, MmB, sE, netD, plnD, listB_app, ra, rb, rc, rd, re, rf, rg, t3, ref_hop, List.map_append, List.map_cons, List.map_nil]) (by simp (maxSteps:=500000) only [↓vp, vv, ↓reduceIte, simprocAttr, vz, listB, okKd, okK, lendKd, lendK, lendOk1B, frzF, Option.map_some, cond_true, cond_false, decide_true, decide_false, Bool.and_self, MmW, MmF, MmB, sE, netD, plnD, listB_app, ra, rb, rc, rd, re, rf, rg, t3, ref_hop, List.map_append, List.map_cons, List.map_nil]; try rfl) (by simp (maxSteps:=500000) only [↓vp, vv, ↓reduceIte, simprocAttr, vz, listB, okKd, okK, lendKd, lendK, lendOk1B, frzF, Option.map_some, cond_true, cond_false, decide_true, decide_false, Bool.and_self, MmW, MmF, MmB, sE, netD, plnD, listB_app, ra, rb, rc, rd, re, rf, rg, t3, ref_hop, List.map_append, List.map_cons, List.map_nil]; try rfl) (by simp (maxSteps:=500000) only [↓vp, vv, ↓reduceIte, simprocAttr, vz, listB, okKd, okK, lendKd, lendK, lendOk1B, frzF, Option.map_some, cond_true, cond_false, decide_true, decide_false, Bool.and_self, refsF, MmW, MmF, MmB, sE, netD, plnD, listB_app, ra, rb, rc, rd, re, rf, rg, t3, ref_hop, List.map_append, List.map_cons, List.map_nil]) (by simp (maxSteps:=500000) only [↓vp, vv, ↓reduceIte, simprocAttr, vz, listB, okKd, okK, lendKd, lendK, lendOk1B, frzF, Option.map_some, cond_true, cond_false, decide_true, decide_false, Bool.and_self, MmW, MmF, MmB, sE, netD, plnD, listB_app, ra, rb, rc, rd, re, rf, rg, t3, ref_hop, List.map_append, List.map_cons, List.map_nil]) (by simp))
def MmI (L : List (List D)) (n : Net) (p : Pln) (w : List (Int × Bool)) (odd by_ : Int) (N : Nat) (m : Nat) (s : St) : Prop :=
  (∃ u : SA L, m = N ∧ s = ⟨fr (MmF odd by_ w [(11, .mt), (12, di m)]), MmA L u.1 n p⟩) ∨
  (∃ (u : SA L) (h a : Int) (rs : List Tol), rs.length + 1 + m = N ∧ (∀ t ∈ rs, t.way = w) ∧ s = ⟨fr (MmF odd by_ w [(11, .own (0, 84) rs.length 0 (rs.length + 1)), (12, di m)]), MmB L u.1 n p w rs.length h a rs⟩)
theorem wy_seg {n : Net} (hv : NetV n) {w : List (Int × Bool)} (hw : WayOk n w) {y : Int × Bool} (hy : y ∈ w) : ∃ s : Seg, (n.segs.map Seg.row).getD y.1.toNat [] = s.row ∧ 0 ≤ y.1 ∧ y.1 < n.segs.length ∧ 1 ≤ s.cap ∧ s.cap ≤ 1000000 := by
  have hk : 0 ≤ y.1 ∧ y.1 < n.segs.length := by
    rcases hw with rfl | ⟨_, h⟩
    · cases hy
    · exact chn_in h y hy
  obtain ⟨s, g, _, _, _, _, c⟩ := seg_at hv hk
  exact ⟨s, g, hk.1, hk.2, c⟩
theorem wr_sz {n n' : Net} (hn : NetOk n) (h : WrOk n n') : NetSz n' := by
  have hv := check0 (check_ok hn)
  have h1 := hv.sl
  have h2 := hv.ql
  have h3 := hv.tl
  have e1 := h.nodes
  have e2 := h.segs
  have e3 := h.ports
  have e4 := h.sts
  exact ⟨by omega, by omega, by omega, by omega, fun s hs => by have := h.pts s hs; omega⟩
def MmG (g c : Nat) (k : Int) : List (Nat × D) := [(8, .ptr (0, 8) 0 0 0), (9, .ptr (0, 9) 0 0 0), (11, .own (0, 84) g 0 c), (14, di k)]
def MmP (n : Net) (p : Pln) (g : Nat) (rows : List (List D)) : Hp := ((Hp.none.put (0, 84) ⟨g, 3, rows⟩).put (0, 9) ⟨0, 3, [plnD p]⟩).put (0, 8) ⟨0, 6, [netD n]⟩
def MmV (n : Net) (p : Pln) (g gw : Nat) (w : List (Int × Bool)) (h a : Int) (rs : List Tol) : List (Nm × En) := [((0, 8), ⟨0, 6, [netD n]⟩), ((0, 9), ⟨0, 3, [plnD p]⟩), ((0, 84), ⟨g, 3, [.own (0, 1001) gw 0 w.length, di h, di a] :: rs.map Tol.row⟩), ((0, 1001), ⟨gw, 2, w.map tHop⟩)]
set_option maxHeartbeats 16000000 in
theorem tm_fin2 (n : Net) (p : Pln) (l : List Tol) (g : Nat) (k : Int) (hq : RunQ n p l) (h0 : 0 < l.length) {F : Fr} {H : Hp} (hw : Weak [] ⟨F, H⟩ ⟨fr (MmG g l.length k), MmP n p g (l.map Tol.row)⟩) : vc TMg (fun t => (0, t)) [] (.weak c5_5) (finQ r5 [] false (Pu (db true) Hp.none)) ⟨F, H⟩ := by
  have tk : (l.map Tol.row).take l.length = l.map Tol.row := List.take_of_length_le (by simp)
  have pl : (∀ j ∈ l, ∀ d ∈ j.row, d.plain = true) := fun j _ d hd => by
    rcases List.mem_cons.1 hd with rfl | hd
    · rfl
    · rcases List.mem_cons.1 hd with rfl | hd
      · rfl
      · rw [List.mem_singleton.1 hd]; rfl
  have plT := eq_true pl
  refine vc_wk (hw.trans (weak_eq [(0, 84)] [(0, 8), (0, 9)] (TmF l k) (by simp (maxSteps:=500000) only [↓vp, vv, ↓reduceIte, simprocAttr, coverS, MmG, MmP, TmF, TmH, netD, plnD, tk, plT]) (by simp (maxSteps:=500000) only [↓vp, vv, ↓reduceIte, simprocAttr, refsF, MmG, MmP, TmF, TmH, netD, plnD, tk, plT]) (by simp (maxSteps:=500000) only [↓vp, vv, ↓reduceIte, simprocAttr, MmG, MmP, TmF, TmH, netD, plnD, tk, plT]) (by simp) (by simp (maxSteps:=500000) only [↓vp, vv, ↓reduceIte, simprocAttr, MmG, MmP, TmF, TmH, netD, plnD, tk, plT]; try rfl))) ?_
  exact tm_end TMx n p l k hq h0
set_option maxHeartbeats 16000000 in
theorem tm_fin (n : Net) (p : Pln) (g gw : Nat) (w : List (Int × Bool)) (h a : Int) (rs : List Tol) (k : Int) (hq : RunQ n p (⟨w, h, a⟩ :: rs)) {F : Fr} {H : Hp} (hw : Weak [] ⟨F, H⟩ ⟨fr (MmG g (rs.length + 1) k), hp (MmV n p g gw w h a rs)⟩) : vc TMg (fun t => (0, t)) [] (.weak c5_5) (finQ r5 [] false (Pu (db true) Hp.none)) ⟨F, H⟩ := by
  have ra := fun ks H => rows_ok Tol.row tol_v ks H rs
  have rb := fun ks H => rows_ok tHop hop_v ks H w
  have rc := fun ks H => rows_fz Tol.row tol_v ks H rs
  have rd := fun ks H => rows_fz tHop hop_v ks H w
  have re := rows_pl tHop hop_v w
  have t3 : (w.map tHop).take w.length = w.map tHop := List.take_of_length_le (by simp)
  have rg : ∀ js, (∀ j ∈ rs, refsInL js (Tol.row j) = true) = True := fun js => eq_true fun j _ => rfl
  have hl : ((⟨w, h, a⟩ :: rs : List Tol)).map Tol.row = [.sl (w.map tHop), di h, di a] :: rs.map Tol.row := rfl
  refine tm_fin2 n p (⟨w, h, a⟩ :: rs) g k hq (by simp) (hw.trans ((Weak.refl [] _).trans (weak_fz [(0, 1001)] [(0, 8), (0, 9), (0, 84)] (l := (MmG g (rs.length + 1) k)) (h := (MmV n p g gw w h a rs)) (l' := (MmG g (rs.length + 1) k)) (H' := (MmP n p g ((⟨w, h, a⟩ :: rs : List Tol).map Tol.row))) (by simp (maxSteps:=500000) only [↓vp, vv, ↓reduceIte, simprocAttr, vz, listB, okKd, okK, lendKd, lendK, lendOk1B, frzF, Option.map_some, cond_true, cond_false, decide_true, decide_false, Bool.and_self, MmG, MmV, MmP, netD, plnD, listB_app, ra, rb, rc, rd, re, rg, t3, hl, ref_hop, List.map_cons, List.map_nil]) (by simp (maxSteps:=500000) only [↓vp, vv, ↓reduceIte, simprocAttr, vz, listB, okKd, okK, lendKd, lendK, lendOk1B, frzF, Option.map_some, cond_true, cond_false, decide_true, decide_false, Bool.and_self, MmG, MmV, MmP, netD, plnD, listB_app, ra, rb, rc, rd, re, rg, t3, hl, ref_hop, List.map_cons, List.map_nil]) (by simp (maxSteps:=500000) only [↓vp, vv, ↓reduceIte, simprocAttr, vz, listB, okKd, okK, lendKd, lendK, lendOk1B, frzF, Option.map_some, cond_true, cond_false, decide_true, decide_false, Bool.and_self, MmG, MmV, MmP, netD, plnD, listB_app, ra, rb, rc, rd, re, rg, t3, hl, ref_hop, List.map_cons, List.map_nil]; try rfl) (by simp (maxSteps:=500000) only [↓vp, vv, ↓reduceIte, simprocAttr, vz, listB, okKd, okK, lendKd, lendK, lendOk1B, frzF, Option.map_some, cond_true, cond_false, decide_true, decide_false, Bool.and_self, MmG, MmV, MmP, netD, plnD, listB_app, ra, rb, rc, rd, re, rg, t3, hl, ref_hop, List.map_cons, List.map_nil]; try rfl) (by simp (maxSteps:=500000) only [↓vp, vv, ↓reduceIte, simprocAttr, vz, listB, okKd, okK, lendKd, lendK, lendOk1B, frzF, Option.map_some, cond_true, cond_false, decide_true, decide_false, Bool.and_self, refsF, MmG, MmV, MmP, netD, plnD, listB_app, ra, rb, rc, rd, re, rg, t3, hl, ref_hop, List.map_cons, List.map_nil]) (by simp (maxSteps:=500000) only [↓vp, vv, ↓reduceIte, simprocAttr, vz, listB, okKd, okK, lendKd, lendK, lendOk1B, frzF, Option.map_some, cond_true, cond_false, decide_true, decide_false, Bool.and_self, MmG, MmV, MmP, netD, plnD, listB_app, ra, rb, rc, rd, re, rg, t3, hl, ref_hop, List.map_cons, List.map_nil]) (by simp))))
theorem modI_InI (x n : Int) (h : 1 ≤ n ∧ n ≤ 1000) : 0 ≤ modI x n ∧ modI x n < n := ⟨(modI_in x n).1, (modI_in x n).2.1 h.1⟩
set_option maxHeartbeats 16000000 in
theorem TMm_c (ns : List Int) (hns : ∀ n ∈ ns, InI n) (odd by_ : Int) (nn : Nm) : CallsA Try.prog 5 [.sl (ns.map fun n => [di n]), di odd, di by_] Hp.none nn (Pu (db true) Hp.none) := by
  obtain ⟨code, h1, h2⟩ := c5_ok
  refine callsA_of TMg_ok mixed (N := fun t => (0, t)) Try.func5 h1 h2 r5_ok [] false js_nil js_nil' (by simp [Try.f5]) ?_
  have ho := src_new ns hns
  generalize (ns.map fun n => [di n]) = L0 at ho ⊢
  cases c1 : decide ((L0.length : Int) ≤ 400) with
  | false => simp (maxSteps:=500000) only [↓vp, vv, ↓reduceIte, simprocAttr, c5, r5, TMg, TMe, TMx, selFw32, selAw, c1, Pu]
  | true =>
  simp (maxSteps:=500000) only [↓vp, vv, ↓reduceIte, simprocAttr, c5, c5_7, TMg, TMe, TMx, selFw32, rowNew, sel0, c1, ho]
  intro a1 n hn
  have hn1 := netOf1_x
  have hp1 : ∀ p : Pln, plnOf1 [D.sl (p.rates.map iRow), .sl (p.ports.map iRow), .sl (p.pumps.map bRow)] = some p := plnOf1_row
  have hck := check_ok hn
  have hv := check0 hck
  have hpp := ports1 hn
  simp (maxSteps:=500000) only [↓vp, vv, ↓reduceIte, simprocAttr, TMg, TMe, TMx, selPlan, selWay, netD, hn1, hv, hpp, hn, a1.2, Net.enc]
  intro a2 p hpl
  simp (maxSteps:=500000) only [↓vp, vv, ↓reduceIte, simprocAttr, TMg, TMe, TMx, selPlan, selWay, netD, plnD, hn1, hv, hpp, hn, a2.2, Net.enc, Pln.enc]
  intro a3 w hw
  simp (maxSteps:=500000) only [↓vp, vv, ↓reduceIte, simprocAttr, TMg, TMe, TMx, selI, netD, plnD, a3.2, Net.enc, Pln.enc]
  intro a4 c hc
  generalize List.take 2000 L0 = L at a1 a2 a3 a4 ho ⊢
  clear ho
  obtain ⟨N, hN, hN1⟩ : ∃ N : Nat, 1 + c = N ∧ 1 ≤ N ∧ N ≤ 3 := ⟨(1 + c).toNat, by obtain ⟨q1, q2, q3⟩ := hc; have := q2 (by omega); omega, by obtain ⟨q1, q2, q3⟩ := hc; have := q2 (by omega); omega⟩
  have wN : IntKind.i64.wrap (N : Int) = N := wrap_i (by omega)
  rw [hN, wN]
  have lw : w.length ≤ 32 := by
    rcases hw with rfl | ⟨h, _⟩
    · simp
    · exact h.2
  rw [vc_loop]
  refine ⟨MmI L n p w odd by_ N, ⟨N, _, (weak_eq [] [(0, 36), (0, 8), (0, 9)] (MmF odd by_ w [(11, .mt), (12, di N)]) (by simp (maxSteps:=500000) only [↓vp, vv, ↓reduceIte, simprocAttr, coverS, MmF, MmA, sE, netD, plnD]) (by simp (maxSteps:=500000) only [↓vp, vv, ↓reduceIte, simprocAttr, refsF, MmF, MmA, sE, netD, plnD]) (by simp (maxSteps:=500000) only [↓vp, vv, ↓reduceIte, simprocAttr, MmF, MmA, sE, netD, plnD]) (by simp) (by simp (maxSteps:=500000) only [↓vp, vv, ↓reduceIte, simprocAttr, MmF, MmA, sE, netD, plnD]; try rfl)), .inl ⟨a4, rfl, rfl⟩⟩, ?_⟩
  have y1 : w.length * 16 ≤ 140737488355328 := by omega
  have y2 : w.length ≤ 4611686018427387904 := by omega
  have e1 : (∀ j ∈ w, (tHop j).length = 2) = True := eq_true fun _ _ => rfl
  have wc : IntKind.i64.wrap ((w.length : Int) + 1) = (w.length : Int) + 1 := wrap_i (by omega)
  rintro m s (⟨u, rfl, rfl⟩ | ⟨u, h, a, rs, hm, hrs, rfl⟩)
  · have hm' : (0 : Int) < m := by omega
    have uo := u.2
    have w3 : IntKind.i64.wrap ((m : Int) - 1) = ((m - 1 : Nat) : Int) := by rw [wrap_i (by omega)]; omega
    simp (maxSteps:=500000) only [↓vp, vv, ↓reduceIte, simprocAttr, c5_4, c5_3, TMg, TMe, TMx, selI, MmF, MmA, netD, plnD, hm', uo, y1, y2, e1, wc]
    refine ⟨⟨by omega, by omega⟩, fun a5 b hb => ?_⟩
    obtain ⟨b1, b2, _⟩ := hb
    have b3 := b2 (by omega)
    have uo5 := a5.2
    split
    · rename_i hlt
      have hbn : b.toNat < w.length := by omega
      have gw := tHop_g w b.toNat hbn
      obtain ⟨sg, gs, hk1, hk2, hcp⟩ := wy_seg hv hw (List.getElem_mem hbn)
      generalize w[b.toNat] = y at gw gs hk1 hk2
      have wcp : IntKind.i64.wrap (sg.cap + 1) = sg.cap + 1 := wrap_i (by omega)
      have iN : InI (sg.cap + 1) := by unfold InI; omega
      rw [gw]
      refine ⟨⟨b1, hlt, rfl⟩, by show 1 ≤ 2; omega, ?_⟩
      simp (maxSteps:=500000) only [↓vp, vv, ↓reduceIte, simprocAttr, TMg, TMe, TMx, selI, netD, plnD, tHop, hk1, hk2, gs, Seg.row, wcp, iN, uo5]
      intro a6 d hd
      simp (maxSteps:=500000) only [↓vp, vv, ↓reduceIte, simprocAttr, c5_1, c5_2, netD, plnD, w3]
      exact ⟨m - 1, _, by omega, (weak_eq [] [(0, 36), (0, 8), (0, 9), (0, 84), (0, 52)] (MmF odd by_ w [(11, .own (0, 84) 0 0 1), (12, di (m - 1 : Nat))]) (by simp (maxSteps:=500000) only [↓vp, vv, ↓reduceIte, simprocAttr, coverS, MmF, MmQ, sE, netD, plnD, Seg.row, w3, ref_hop]) (by simp (maxSteps:=500000) only [↓vp, vv, ↓reduceIte, simprocAttr, refsF, MmF, MmQ, sE, netD, plnD, Seg.row, w3, ref_hop]) (by simp (maxSteps:=500000) only [↓vp, vv, ↓reduceIte, simprocAttr, MmF, MmQ, sE, netD, plnD, Seg.row, w3, ref_hop]) (by simp) (by simp (maxSteps:=500000) only [↓vp, vv, ↓reduceIte, simprocAttr, MmF, MmQ, sE, netD, plnD, Seg.row, w3, ref_hop]; try rfl)).trans (mm_ren L a6.1 n p w odd by_ b d _), .inr ⟨a6, b, d, [], by simp; omega, by simp, rfl⟩⟩
    · simp (maxSteps:=500000) only [↓vp, vv, ↓reduceIte, simprocAttr, c5_1, c5_2, netD, plnD, w3]
      exact ⟨m - 1, _, by omega, (weak_eq [] [(0, 36), (0, 8), (0, 9), (0, 84), (0, 52)] (MmF odd by_ w [(11, .own (0, 84) 0 0 1), (12, di (m - 1 : Nat))]) (by simp (maxSteps:=500000) only [↓vp, vv, ↓reduceIte, simprocAttr, coverS, MmF, MmQ, sE, netD, plnD, w3, ref_hop]) (by simp (maxSteps:=500000) only [↓vp, vv, ↓reduceIte, simprocAttr, refsF, MmF, MmQ, sE, netD, plnD, w3, ref_hop]) (by simp (maxSteps:=500000) only [↓vp, vv, ↓reduceIte, simprocAttr, MmF, MmQ, sE, netD, plnD, w3, ref_hop]) (by simp) (by simp (maxSteps:=500000) only [↓vp, vv, ↓reduceIte, simprocAttr, MmF, MmQ, sE, netD, plnD, w3, ref_hop]; try rfl)).trans (mm_ren L a5.1 n p w odd by_ b 0 _), .inr ⟨a5, b, 0, [], by simp; omega, by simp, rfl⟩⟩
  · by_cases hm' : (0 : Int) < m
    · have uo := u.2
      have w3 : IntKind.i64.wrap ((m : Int) - 1) = ((m - 1 : Nat) : Int) := by rw [wrap_i (by omega)]; omega
      have rg : ∀ js, (∀ j ∈ rs, refsInL js (Tol.row j) = true) = True := fun js => eq_true fun j _ => rfl
      have y3 : (rs.length + 1 + 1) * 40 ≤ 140737488355328 := by omega
      have y4 : rs.length + 1 + 1 ≤ 4611686018427387904 := by omega
      simp (maxSteps:=500000) only [↓vp, vv, ↓reduceIte, simprocAttr, c5_4, c5_3, TMg, TMe, TMx, selI, MmF, MmB, netD, plnD, hm', uo, y1, y2, e1, wc]
      refine ⟨⟨by omega, by omega⟩, fun a5 b hb => ?_⟩
      obtain ⟨b1, b2, _⟩ := hb
      have b3 := b2 (by omega)
      have uo5 := a5.2
      split
      · rename_i hlt
        have hbn : b.toNat < w.length := by omega
        have gw := tHop_g w b.toNat hbn
        obtain ⟨sg, gs, hk1, hk2, hcp⟩ := wy_seg hv hw (List.getElem_mem hbn)
        generalize w[b.toNat] = y at gw gs hk1 hk2
        have wcp : IntKind.i64.wrap (sg.cap + 1) = sg.cap + 1 := wrap_i (by omega)
        have iN : InI (sg.cap + 1) := by unfold InI; omega
        rw [gw]
        refine ⟨⟨b1, hlt, rfl⟩, by show 1 ≤ 2; omega, ?_⟩
        simp (maxSteps:=500000) only [↓vp, vv, ↓reduceIte, simprocAttr, TMg, TMe, TMx, selI, netD, plnD, tHop, hk1, hk2, gs, Seg.row, wcp, iN, uo5]
        intro a6 d hd
        simp (maxSteps:=500000) only [↓vp, vv, ↓reduceIte, simprocAttr, c5_1, c5_2, netD, plnD, w3, y3, y4]
        exact ⟨m - 1, _, by omega, (weak_eq [] [(0, 36), (0, 8), (0, 9), (0, 84), (0, 1001), (0, 52)] (MmF odd by_ w [(11, .own (0, 84) (rs.length + 1) 0 (rs.length + 1 + 1)), (12, di (m - 1 : Nat))]) (H' := hp (MmW L a6.1 n p w (rs.length + 1) h a rs b d)) (by simp (maxSteps:=500000) only [↓vp, vv, ↓reduceIte, simprocAttr, coverS, MmF, w3]) (by simp (maxSteps:=500000) only [↓vp, vv, ↓reduceIte, simprocAttr, refsF, MmF]) (by simp (maxSteps:=500000) only [↓vp, vv, ↓reduceIte, simprocAttr, ref_hop, netD, plnD, rg]) (by simp) (by simp (maxSteps:=500000) only [↓vp, vv, ↓reduceIte, simprocAttr, hp_cons, hp_nil, MmW, netD, plnD, sE, List.cons_append]; try rfl)).trans (mm_frz L a6.1 n p w odd by_ (rs.length + 1) h a rs b d _ _), .inr ⟨a6, h, a, rs ++ [⟨w, b, d⟩], by simp; omega, by
          intro t ht
          rcases List.mem_append.1 ht with ht | ht
          · exact hrs t ht
          · rw [List.mem_singleton.1 ht], by rw [List.length_append, List.length_singleton]⟩⟩
      · simp (maxSteps:=500000) only [↓vp, vv, ↓reduceIte, simprocAttr, c5_1, c5_2, netD, plnD, w3, y3, y4]
        exact ⟨m - 1, _, by omega, (weak_eq [] [(0, 36), (0, 8), (0, 9), (0, 84), (0, 1001), (0, 52)] (MmF odd by_ w [(11, .own (0, 84) (rs.length + 1) 0 (rs.length + 1 + 1)), (12, di (m - 1 : Nat))]) (H' := hp (MmW L a5.1 n p w (rs.length + 1) h a rs b 0)) (by simp (maxSteps:=500000) only [↓vp, vv, ↓reduceIte, simprocAttr, coverS, MmF, w3]) (by simp (maxSteps:=500000) only [↓vp, vv, ↓reduceIte, simprocAttr, refsF, MmF]) (by simp (maxSteps:=500000) only [↓vp, vv, ↓reduceIte, simprocAttr, ref_hop, netD, plnD, rg]) (by simp) (by simp (maxSteps:=500000) only [↓vp, vv, ↓reduceIte, simprocAttr, hp_cons, hp_nil, MmW, netD, plnD, sE, List.cons_append]; try rfl)).trans (mm_frz L a5.1 n p w odd by_ (rs.length + 1) h a rs b 0 _ _), .inr ⟨a5, h, a, rs ++ [⟨w, b, 0⟩], by simp; omega, by
          intro t ht
          rcases List.mem_append.1 ht with ht | ht
          · exact hrs t ht
          · rw [List.mem_singleton.1 ht], by rw [List.length_append, List.length_singleton]⟩⟩
    · obtain rfl : m = 0 := by omega
      have uo := u.2
      have hm0 : ¬ (0 : Int) < ((0 : Nat) : Int) := by omega
      obtain ⟨q, hq⟩ : ∃ q, modI odd 14 = q := ⟨_, rfl⟩
      obtain ⟨r, hr⟩ : ∃ r, modI by_ 9 = r := ⟨_, rfl⟩
      obtain ⟨r4, hr4⟩ : ∃ r, modI by_ 403 = r := ⟨_, rfl⟩
      have r1 := modI_InI by_ 9 (by omega)
      have r2 := modI_InI by_ 403 (by omega)
      rw [hr] at r1
      rw [hr4] at r2
      have wr1 : IntKind.i64.wrap (r - 1) = r - 1 := wrap_i (by omega)
      have wr4 : IntKind.i64.wrap (r4 - 1) = r4 - 1 := wrap_i (by omega)
      have i14 : InI 14 := by unfold InI; omega
      have i9 : InI 9 := by unfold InI; omega
      have i4 : InI 403 := by unfold InI; omega
      have i3 : InI 30 := by unfold InI; omega
      have rg : ∀ js, (∀ j ∈ rs, refsInL js (Tol.row j) = true) = True := fun js => eq_true fun j _ => rfl
      have rz := fun ks H => rows_fz Tol.row tol_v ks H rs
      have z0 : (0 : Int) < ((rs.length + 1 : Nat) : Int) := by omega
      have z5 : 0 < rs.length + 1 := Nat.succ_pos _
      have lrs : rs.length ≤ 3 := by omega
      have qn : ∀ (n' : Net) (p' : Pln) (w' : List (Int × Bool)) (h' a' : Int), NetSz n' → PlnSz p' → w'.length ≤ 33 → RunQ n' p' (⟨w', h', a'⟩ :: rs) := fun n' p' w' h' a' x1 x2 x3 => ⟨⟨x1, x2⟩, by simp; omega, fun t ht => by
        rcases List.mem_cons.1 ht with rfl | ht
        · show w'.length ≤ 1000000; omega
        · rw [hrs t ht]; omega⟩
      have offp : OffPre p := by
        have h1 := hpl.rl
        have h2 := hpl.ql
        have h3 := hpl.ul
        have h4 := hv.sl
        have h5 := hv.ql
        have h6 := hv.tl
        exact ⟨by omega, by omega, by omega⟩
      have nz := (plan_sz hn hpl).1
      have pz := (plan_sz hn hpl).2
      have rn : (rs.map Tol.row).map (fun r => r.map D.nil) = rs.map Tol.row := by
        rw [List.map_map]
        exact List.map_congr_left fun x _ => rfl
      have hl7 : ((⟨[], h, a⟩ :: rs : List Tol)).map Tol.row = [.sl [], di h, di a] :: rs.map Tol.row := rfl
      rcases (show q = 0 ∨ q = 1 ∨ q = 2 ∨ q = 3 ∨ q = 4 ∨ q = 5 ∨ q = 6 ∨ q = 7 ∨ (q < 0 ∨ 7 < q) by omega) with q0 | q0 | q0 | q0 | q0 | q0 | q0 | q0 | q0
      · have k0 : (q == 0) = true := beq_iff_eq.2 (by omega)
        simp (maxSteps:=500000) only [↓vp, vv, ↓reduceIte, simprocAttr, c5_4, c5_6, TMg, TMe, TMx, selI, selMod, selWr5, selOf5, MmF, MmB, netD, plnD, hm0, uo, hq, hr, hr4, wr1, wr4, z0, z5, i14, i9, i4, i3, hn1, hp1, hn, Net.enc, Pln.enc, k0]
        intro a5 tk ht a6 n' hn'
        exact tm_fin n' p rs.length 1 (w) (h) (a) rs (tk) (qn n' p (w) (h) (a) (wr_sz hn hn') pz (by omega)) (weak_eq [] [(0, 8), (0, 9), (0, 84), (0, 1001)] (MmG rs.length (rs.length + 1) (tk)) (H' := hp (MmV n' p rs.length 1 (w) (h) (a) rs)) (by simp (maxSteps:=500000) only [↓vp, vv, ↓reduceIte, simprocAttr, coverS, MmG]) (by simp (maxSteps:=500000) only [↓vp, vv, ↓reduceIte, simprocAttr, refsF, MmG]) (by simp (maxSteps:=500000) only [↓vp, vv, ↓reduceIte, simprocAttr, ref_hop, netD, plnD, rg]) (by simp) (by simp (maxSteps:=500000) only [↓vp, vv, ↓reduceIte, simprocAttr, hp_cons, hp_nil, MmV, netD, plnD]; try rfl))
      · have k0 : (q == 0) = false := beq_false_of_ne (by omega)
        have k1 : (q == 1) = true := beq_iff_eq.2 (by omega)
        simp (maxSteps:=500000) only [↓vp, vv, ↓reduceIte, simprocAttr, c5_4, c5_6, TMg, TMe, TMx, selI, selMod, selWr5, selOf5, MmF, MmB, netD, plnD, hm0, uo, hq, hr, hr4, wr1, wr4, z0, z5, i14, i9, i4, i3, hn1, hp1, hn, Net.enc, Pln.enc, k0, k1, offp]
        intro a5 tk ht a6 p' hp'
        exact tm_fin n p' rs.length 1 (w) (h) (a) rs (tk) (qn n p' (w) (h) (a) nz hp' (by omega)) (weak_eq [] [(0, 8), (0, 9), (0, 84), (0, 1001)] (MmG rs.length (rs.length + 1) (tk)) (H' := hp (MmV n p' rs.length 1 (w) (h) (a) rs)) (by simp (maxSteps:=500000) only [↓vp, vv, ↓reduceIte, simprocAttr, coverS, MmG]) (by simp (maxSteps:=500000) only [↓vp, vv, ↓reduceIte, simprocAttr, refsF, MmG]) (by simp (maxSteps:=500000) only [↓vp, vv, ↓reduceIte, simprocAttr, ref_hop, netD, plnD, rg]) (by simp) (by simp (maxSteps:=500000) only [↓vp, vv, ↓reduceIte, simprocAttr, hp_cons, hp_nil, MmV, netD, plnD]; try rfl))
      · have k0 : (q == 0) = false := beq_false_of_ne (by omega)
        have k1 : (q == 1) = false := beq_false_of_ne (by omega)
        have k2 : (q == 2) = true := beq_iff_eq.2 (by omega)
        simp (maxSteps:=500000) only [↓vp, vv, ↓reduceIte, simprocAttr, c5_4, c5_6, TMg, TMe, TMx, selI, selMod, selWr5, selOf5, MmF, MmB, netD, plnD, hm0, uo, hq, hr, hr4, wr1, wr4, z0, z5, i14, i9, i4, i3, hn1, hp1, hn, Net.enc, Pln.enc, k0, k1, k2]
        intro a5 tk ht
        exact tm_fin n p rs.length 1 (w) (r - 1) (a) rs (tk) (qn n p (w) (r - 1) (a) nz pz (by omega)) (weak_eq [] [(0, 8), (0, 9), (0, 84), (0, 1001)] (MmG rs.length (rs.length + 1) (tk)) (H' := hp (MmV n p rs.length 1 (w) (r - 1) (a) rs)) (by simp (maxSteps:=500000) only [↓vp, vv, ↓reduceIte, simprocAttr, coverS, MmG, wr1]) (by simp (maxSteps:=500000) only [↓vp, vv, ↓reduceIte, simprocAttr, refsF, MmG]) (by simp (maxSteps:=500000) only [↓vp, vv, ↓reduceIte, simprocAttr, ref_hop, netD, plnD, rg, wr1]) (by simp) (by simp (maxSteps:=500000) only [↓vp, vv, ↓reduceIte, simprocAttr, hp_cons, hp_nil, MmV, netD, plnD, wr1]; try rfl))
      · have k0 : (q == 0) = false := beq_false_of_ne (by omega)
        have k1 : (q == 1) = false := beq_false_of_ne (by omega)
        have k2 : (q == 2) = false := beq_false_of_ne (by omega)
        have k3 : (q == 3) = true := beq_iff_eq.2 (by omega)
        simp (maxSteps:=500000) only [↓vp, vv, ↓reduceIte, simprocAttr, c5_4, c5_6, TMg, TMe, TMx, selI, selMod, selWr5, selOf5, MmF, MmB, netD, plnD, hm0, uo, hq, hr, hr4, wr1, wr4, z0, z5, i14, i9, i4, i3, hn1, hp1, hn, Net.enc, Pln.enc, k0, k1, k2, k3]
        intro a5 tk ht
        exact tm_fin n p rs.length 1 (w) (h) (by_) rs (tk) (qn n p (w) (h) (by_) nz pz (by omega)) (weak_eq [] [(0, 8), (0, 9), (0, 84), (0, 1001)] (MmG rs.length (rs.length + 1) (tk)) (H' := hp (MmV n p rs.length 1 (w) (h) (by_) rs)) (by simp (maxSteps:=500000) only [↓vp, vv, ↓reduceIte, simprocAttr, coverS, MmG]) (by simp (maxSteps:=500000) only [↓vp, vv, ↓reduceIte, simprocAttr, refsF, MmG]) (by simp (maxSteps:=500000) only [↓vp, vv, ↓reduceIte, simprocAttr, ref_hop, netD, plnD, rg]) (by simp) (by simp (maxSteps:=500000) only [↓vp, vv, ↓reduceIte, simprocAttr, hp_cons, hp_nil, MmV, netD, plnD]; try rfl))
      · have k0 : (q == 0) = false := beq_false_of_ne (by omega)
        have k1 : (q == 1) = false := beq_false_of_ne (by omega)
        have k2 : (q == 2) = false := beq_false_of_ne (by omega)
        have k3 : (q == 3) = false := beq_false_of_ne (by omega)
        have k4 : (q == 4) = true := beq_iff_eq.2 (by omega)
        cases w with
        | nil =>
          simp (maxSteps:=500000) only [↓vp, vv, ↓reduceIte, simprocAttr, c5_4, c5_6, TMg, TMe, TMx, selI, selMod, selWr5, selOf5, MmF, MmB, netD, plnD, hm0, uo, hq, hr, hr4, wr1, wr4, z0, z5, i14, i9, i4, i3, hn1, hp1, hn, Net.enc, Pln.enc, k0, k1, k2, k3, k4, List.map_nil, List.length_nil]
          intro a5 tk ht
          exact tm_fin n p rs.length 1 ([]) (h) (a) rs (tk) (qn n p ([]) (h) (a) nz pz (by simp)) (weak_eq [] [(0, 8), (0, 9), (0, 84), (0, 1001)] (MmG rs.length (rs.length + 1) (tk)) (H' := hp (MmV n p rs.length 1 ([]) (h) (a) rs)) (by simp (maxSteps:=500000) only [↓vp, vv, ↓reduceIte, simprocAttr, coverS, MmG, List.map_nil, List.length_nil]) (by simp (maxSteps:=500000) only [↓vp, vv, ↓reduceIte, simprocAttr, refsF, MmG]) (by simp (maxSteps:=500000) only [↓vp, vv, ↓reduceIte, simprocAttr, ref_hop, netD, plnD, rg, List.map_nil, List.length_nil]) (by simp) (by simp (maxSteps:=500000) only [↓vp, vv, ↓reduceIte, simprocAttr, hp_cons, hp_nil, MmV, netD, plnD, List.map_nil, List.length_nil]; try rfl))
        | cons x w =>
          obtain ⟨s, b⟩ := x
          have zw : (0 : Int) < ((w.length + 1 : Nat) : Int) := by omega
          have z6 : 0 < w.length + 1 := Nat.succ_pos _
          simp (maxSteps:=500000) only [↓vp, vv, ↓reduceIte, simprocAttr, c5_4, c5_6, TMg, TMe, TMx, selI, selMod, selWr5, selOf5, MmF, MmB, netD, plnD, hm0, uo, hq, hr, hr4, wr1, wr4, z0, z5, i14, i9, i4, i3, hn1, hp1, hn, Net.enc, Pln.enc, k0, k1, k2, k3, k4, zw, z6, tHop, List.map_cons, List.length_cons]
          intro a5 tk ht
          exact tm_fin n p rs.length 1 ((s, !b) :: w) (h) (a) rs (tk) (qn n p ((s, !b) :: w) (h) (a) nz pz (by simp at lw ⊢; omega)) (weak_eq [] [(0, 8), (0, 9), (0, 84), (0, 1001)] (MmG rs.length (rs.length + 1) (tk)) (H' := hp (MmV n p rs.length 1 ((s, !b) :: w) (h) (a) rs)) (by simp (maxSteps:=500000) only [↓vp, vv, ↓reduceIte, simprocAttr, coverS, MmG, List.map_cons, List.length_cons, tHop]) (by simp (maxSteps:=500000) only [↓vp, vv, ↓reduceIte, simprocAttr, refsF, MmG]) (by simp (maxSteps:=500000) only [↓vp, vv, ↓reduceIte, simprocAttr, ref_hop, netD, plnD, rg, List.map_cons, List.length_cons, tHop]) (by simp) (by simp (maxSteps:=500000) only [↓vp, vv, ↓reduceIte, simprocAttr, hp_cons, hp_nil, MmV, netD, plnD, List.map_cons, List.length_cons, tHop]; try rfl))
      · have k0 : (q == 0) = false := beq_false_of_ne (by omega)
        have k1 : (q == 1) = false := beq_false_of_ne (by omega)
        have k2 : (q == 2) = false := beq_false_of_ne (by omega)
        have k3 : (q == 3) = false := beq_false_of_ne (by omega)
        have k4 : (q == 4) = false := beq_false_of_ne (by omega)
        have k5 : (q == 5) = true := beq_iff_eq.2 (by omega)
        have y5 : (w.length + 1) * 16 ≤ 140737488355328 := by omega
        have y6 : w.length + 1 ≤ 4611686018427387904 := by omega
        simp (maxSteps:=500000) only [↓vp, vv, ↓reduceIte, simprocAttr, c5_4, c5_6, TMg, TMe, TMx, selI, selMod, selWr5, selOf5, MmF, MmB, netD, plnD, hm0, uo, hq, hr, hr4, wr1, wr4, z0, z5, i14, i9, i4, i3, hn1, hp1, hn, Net.enc, Pln.enc, k0, k1, k2, k3, k4, k5, y5, y6]
        intro a5 tk ht
        exact tm_fin n p rs.length 2 (w ++ [(r - 1, false)]) (h) (a) rs (tk) (qn n p (w ++ [(r - 1, false)]) (h) (a) nz pz (by simp; omega)) (weak_eq [] [(0, 8), (0, 9), (0, 84), (0, 1001)] (MmG rs.length (rs.length + 1) (tk)) (H' := hp (MmV n p rs.length 2 (w ++ [(r - 1, false)]) (h) (a) rs)) (by simp (maxSteps:=500000) only [↓vp, vv, ↓reduceIte, simprocAttr, coverS, MmG, wr1, List.map_append, List.map_cons, List.map_nil, List.length_append, List.length_singleton, tHop]) (by simp (maxSteps:=500000) only [↓vp, vv, ↓reduceIte, simprocAttr, refsF, MmG]) (by simp (maxSteps:=500000) only [↓vp, vv, ↓reduceIte, simprocAttr, ref_hop, netD, plnD, rg, wr1, List.map_append, List.map_cons, List.map_nil, List.length_append, List.length_singleton, tHop]) (by simp) (by simp (maxSteps:=500000) only [↓vp, vv, ↓reduceIte, simprocAttr, hp_cons, hp_nil, MmV, netD, plnD, wr1, List.map_append, List.map_cons, List.map_nil, List.length_append, List.length_singleton, tHop]; try rfl))
      · have k0 : (q == 0) = false := beq_false_of_ne (by omega)
        have k1 : (q == 1) = false := beq_false_of_ne (by omega)
        have k2 : (q == 2) = false := beq_false_of_ne (by omega)
        have k3 : (q == 3) = false := beq_false_of_ne (by omega)
        have k4 : (q == 4) = false := beq_false_of_ne (by omega)
        have k5 : (q == 5) = false := beq_false_of_ne (by omega)
        have k6 : (q == 6) = true := beq_iff_eq.2 (by omega)
        simp (maxSteps:=500000) only [↓vp, vv, ↓reduceIte, simprocAttr, c5_4, c5_6, TMg, TMe, TMx, selI, selMod, selWr5, selOf5, MmF, MmB, netD, plnD, hm0, uo, hq, hr, hr4, wr1, wr4, z0, z5, i14, i9, i4, i3, hn1, hp1, hn, Net.enc, Pln.enc, k0, k1, k2, k3, k4, k5, k6]
        intro a5 tk ht
        exact tm_fin n p rs.length 1 (w) (h) (a) rs (r4 - 1) (qn n p (w) (h) (a) nz pz (by omega)) (weak_eq [] [(0, 8), (0, 9), (0, 84), (0, 1001)] (MmG rs.length (rs.length + 1) (r4 - 1)) (H' := hp (MmV n p rs.length 1 (w) (h) (a) rs)) (by simp (maxSteps:=500000) only [↓vp, vv, ↓reduceIte, simprocAttr, coverS, MmG, wr4]) (by simp (maxSteps:=500000) only [↓vp, vv, ↓reduceIte, simprocAttr, refsF, MmG]) (by simp (maxSteps:=500000) only [↓vp, vv, ↓reduceIte, simprocAttr, ref_hop, netD, plnD, rg, wr4]) (by simp) (by simp (maxSteps:=500000) only [↓vp, vv, ↓reduceIte, simprocAttr, hp_cons, hp_nil, MmV, netD, plnD, wr4]; try rfl))
      · have k0 : (q == 0) = false := beq_false_of_ne (by omega)
        have k1 : (q == 1) = false := beq_false_of_ne (by omega)
        have k2 : (q == 2) = false := beq_false_of_ne (by omega)
        have k3 : (q == 3) = false := beq_false_of_ne (by omega)
        have k4 : (q == 4) = false := beq_false_of_ne (by omega)
        have k5 : (q == 5) = false := beq_false_of_ne (by omega)
        have k6 : (q == 6) = false := beq_false_of_ne (by omega)
        have k7 : (q == 7) = true := beq_iff_eq.2 (by omega)
        simp (maxSteps:=500000) only [↓vp, vv, ↓reduceIte, simprocAttr, c5_4, c5_6, TMg, TMe, TMx, selI, selMod, selWr5, selOf5, MmF, MmB, netD, plnD, hm0, uo, hq, hr, hr4, wr1, wr4, z0, z5, i14, i9, i4, i3, hn1, hp1, hn, Net.enc, Pln.enc, k0, k1, k2, k3, k4, k5, k6, k7]
        intro a5 tk ht
        exact tm_fin2 n p (⟨[], h, a⟩ :: rs) rs.length tk (qn n p [] h a nz pz (by simp)) (by simp) ((weak_eq [] [(0, 8), (0, 9), (0, 84)] (MmG rs.length (rs.length + 1) tk) (H' := MmP n p rs.length ([.mt, di h, di a] :: rs.map Tol.row)) (by simp (maxSteps:=500000) only [↓vp, vv, ↓reduceIte, simprocAttr, coverS, MmG]) (by simp (maxSteps:=500000) only [↓vp, vv, ↓reduceIte, simprocAttr, refsF, MmG]) (by simp (maxSteps:=500000) only [↓vp, vv, ↓reduceIte, simprocAttr, netD, plnD, rg]) (by simp) (by simp (maxSteps:=500000) only [↓vp, vv, ↓reduceIte, simprocAttr, MmP, netD, plnD]; try rfl)).trans ((weak_nil (0, 84) rs.length 3 ([.mt, di h, di a] :: rs.map Tol.row) (by simp (maxSteps:=500000) only [↓vp, vv, ↓reduceIte, simprocAttr, MmP])).trans (weak_eq [] [(0, 8), (0, 9), (0, 84)] (MmG rs.length (rs.length + 1) tk) (by simp (maxSteps:=500000) only [↓vp, vv, ↓reduceIte, simprocAttr, coverS, MmG]) (by simp (maxSteps:=500000) only [↓vp, vv, ↓reduceIte, simprocAttr, refsF, MmG]) (by simp (maxSteps:=500000) only [↓vp, vv, ↓reduceIte, simprocAttr, MmP, netD, plnD, rg, rn, D.nil]) (by simp) (by simp (maxSteps:=500000) only [↓vp, vv, ↓reduceIte, simprocAttr, MmP, netD, plnD, rn, D.nil, hl7]; try rfl))))
      · have k0 : (q == 0) = false := beq_false_of_ne (by omega)
        have k1 : (q == 1) = false := beq_false_of_ne (by omega)
        have k2 : (q == 2) = false := beq_false_of_ne (by omega)
        have k3 : (q == 3) = false := beq_false_of_ne (by omega)
        have k4 : (q == 4) = false := beq_false_of_ne (by omega)
        have k5 : (q == 5) = false := beq_false_of_ne (by omega)
        have k6 : (q == 6) = false := beq_false_of_ne (by omega)
        have k7 : (q == 7) = false := beq_false_of_ne (by omega)
        simp (maxSteps:=500000) only [↓vp, vv, ↓reduceIte, simprocAttr, c5_4, c5_6, TMg, TMe, TMx, selI, selMod, selWr5, selOf5, MmF, MmB, netD, plnD, hm0, uo, hq, hr, hr4, wr1, wr4, z0, z5, i14, i9, i4, i3, hn1, hp1, hn, Net.enc, Pln.enc, k0, k1, k2, k3, k4, k5, k6, k7]
        intro a5 tk ht
        exact tm_fin n p rs.length 1 (w) (h) (a) rs (tk) (qn n p (w) (h) (a) nz pz (by omega)) (weak_eq [] [(0, 8), (0, 9), (0, 84), (0, 1001)] (MmG rs.length (rs.length + 1) (tk)) (H' := hp (MmV n p rs.length 1 (w) (h) (a) rs)) (by simp (maxSteps:=500000) only [↓vp, vv, ↓reduceIte, simprocAttr, coverS, MmG]) (by simp (maxSteps:=500000) only [↓vp, vv, ↓reduceIte, simprocAttr, refsF, MmG]) (by simp (maxSteps:=500000) only [↓vp, vv, ↓reduceIte, simprocAttr, ref_hop, netD, plnD, rg]) (by simp) (by simp (maxSteps:=500000) only [↓vp, vv, ↓reduceIte, simprocAttr, hp_cons, hp_nil, MmV, netD, plnD]; try rfl))
theorem ToolMade_law (a : Option Addr) (len cap : Nat) (odd by_ : Int) (w : World) (h : ArgInts w a len cap) :
    Calls Try.prog 5 #[.slice a len cap, .int .i64 odd, .int .i64 by_] w (Ret (.bool true) w) :=
  law_ints (us := [.int .i64 odd, .int .i64 by_]) h fun ns hns => TMm_c ns hns odd by_ (0, 0)
end Go.Proofs.Ytadjhfjiimgddaa
