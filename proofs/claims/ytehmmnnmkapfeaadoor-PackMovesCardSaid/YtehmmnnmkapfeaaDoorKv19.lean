/- PackMoves: PkE Ti5 CtG CtO CtE CtR CodePG Pk9. -/
import Derived.Test.YtehmmnnmkapfeaaDoorKv18
import Derived.Test.YtehmmnnmkapfeaaDoorKv14
import Derived.Test.YtehmmnnmkapfeaaDoorKv11
import Derived.Test.YtehmmnnmkapfeaaDoorKv4
import Derived.Test.YtehmmnnmkapfeaaDoorKv3
import Derived.Test.YtehmmnnmkapfeaaDoorProg
set_option linter.unusedSimpArgs false
set_option linter.unusedVariables false
set_option maxRecDepth 100000

/- Inventories of all segments, of both. -/
namespace Go.Proofs.YtehmmnnmkapfeaaDoor
open Go
def fR (f : List Pce) : List D := [.sl (f.map Pce.row)]
def fA (l : List (List Pce)) (j : Nat) : List Pce := l.getD j []
theorem f_get {l : List (List Pce)} {j : Nat} (h : j < l.length) : (l.map fR).getD j [] = [.sl ((fA l j).map Pce.row)] := by
 unfold fA
 rw [List.getD_eq_getElem?_getD, List.getElem?_map, List.getD_eq_getElem?_getD, List.getElem?_eq_getElem h]
 rfl
theorem f_at {l : List (List Pce)} {j : Nat} (h : j < l.length) : l[j] = fA l j := by
 unfold fA
 rw [List.getD_eq_getElem?_getD, List.getElem?_eq_getElem h]
 rfl
theorem f_drop {l : List (List Pce)} {j : Nat} (h : j < l.length) : l.drop j = fA l j :: l.drop (j + 1) := by
 rw [List.drop_eq_getElem_cons h, f_at h]
def fsOf : List (List D) → Option (List (List Pce))
 | [] => some []
 | [.sl x] :: l => match pcsOf x, fsOf l with
  | some c, some cs => some (c :: cs)
  | _, _ => Option.none
 | _ => Option.none
theorem fsOf_map (l : List (List Pce)) : fsOf (l.map fR) = some l := by
 induction l with
 | nil => rfl
 | cons c l ih =>
  rw [List.map_cons]
  unfold fR at ih ⊢
  rw [fsOf, pcsOf_map, ih]
theorem fsOf_eq : ∀ {l : List (List D)} {cs : List (List Pce)}, fsOf l = some cs → l = cs.map fR
 | [], cs, h => by rw [fsOf] at h; cases h; rfl
 | [.sl x] :: l, cs, h => by
  rw [fsOf] at h
  split at h
  ·rename_i e e'
   cases h
   rw [List.map_cons, ← fsOf_eq e']
   unfold fR
   rw [pcsOf_eq e]
  ·cases h
def allGo (ps : List Prd) (bs : List Bat) (l : List Cnd) : List (List Pce) → Nat → List Int → List Int × Int
 | [], _, out => (out, 0)
 | f :: fs, i, out => if (segI ps bs f (cdA l i)).2 = 0 then allGo ps bs l fs (i + 1) (out ++ [(segI ps bs f (cdA l i)).1]) else ([], (segI ps bs f (cdA l i)).2)
def allI (n : Net) (ps : List Prd) (bs : List Bat) (fs : List (List Pce)) (l : List Cnd) : List Int × Int :=
 if checkI n = 0 then (if fs.length = n.segs.length then (if l.length = n.segs.length then allGo ps bs l fs 0 [] else ([], 9)) else ([], 14)) else ([], checkI n)
def reA (x : List Int × Int) : D := .tup [.sl (x.1.map iR), di x.2]
structure AlPre (n : Net) (ps : List Prd) (bs : List Bat) (fs : List (List Pce)) (l : List Cnd) : Prop where
 nz : NetSz n
 hp : ps.length ≤ 1000000
 hb : bs.length ≤ 1000000
 hf : fs.length ≤ 1000000
 hl : l.length ≤ 1000000
 ha : ∀ f, f ∈ fs → f.length ≤ 1000000
def AlT : Tbl := tc 77 (rowPu (selNet fun n => di (checkI n))) (tc 34 (rowPu selSg) T0)
theorem AlT_ok : TblOk Tryd.prog AlT := tc_netf f77_ok check_c (tc_sg (T0_ok _))
def AlB (ps : List Prd) (bs : List Bat) (l : List Cnd) (e : List (Nat × D)) : List (Nat × D) := (1, .sl (ps.map Prd.row)) :: (2, .sl (bs.map Bat.row)) :: (4, .sl (l.map Cnd.row)) :: e
def AlF (ps : List Prd) (bs : List Bat) (fs : List (List Pce)) (l : List Cnd) (out : List Int) (g : Nat) (j : Int) : List (Nat × D) := AlB ps bs l [(13, .own (0, 1000) g 0 out.length), (37, .sl (fs.map fR)), (38, di fs.length), (39, di j)]
def AlH (out : List Int) (g : Nat) : Hp := Hp.none.put (0, 1000) ⟨g, 1, out.map iR⟩
set_option maxHeartbeats 16000000 in
theorem pall_c (n : Net) (ps : List Prd) (bs : List Bat) (fs : List (List Pce)) (l : List Cnd) (h : AlPre n ps bs fs l) (nn : Nm) : CallsA Tryd.prog 42 [n.enc, .sl (ps.map Prd.row), .sl (bs.map Bat.row), .sl (fs.map fR), .sl (l.map Cnd.row)] Hp.none nn (Pu (reA (allI n ps bs fs l)) Hp.none) := by
 obtain ⟨code, h1, h2⟩ := c42_ok
 refine callsA_of AlT_ok mixed (N := fun t => (0, t)) Tryd.func42 h1 h2 r42_ok [] false js_nil js_nil' (by simp [Tryd.f42]) ?_
 have hn1 := netOf1_x n
 have hz := h.nz
 have hzs := h.nz.segs
 have b1 := h.hf
 have b2 := h.hl
 cases a0 : (checkI n != 0) with
 | true =>
  have e : allI n ps bs fs l = ([], checkI n) := by unfold allI; rw [if_neg (neq_b a0)]
  simp (maxSteps:=500000) only [↓vp, vv, ↓reduceIte, simprocAttr, c42, r42, c42_1, c42_2, c42_3, c42_4, c42_5, c42_6, c42_7, r42, AlT, selNet, hn1, hz, a0, e, reA, Net.enc, netD, List.map_nil, Pu]
 | false =>
 have k0 := eq_b a0
 have e0 : allI n ps bs fs l = if fs.length = n.segs.length then (if l.length = n.segs.length then allGo ps bs l fs 0 [] else ([], 9)) else ([], 14) := by unfold allI; rw [if_pos k0]
 cases a1 : ((fs.length : Int) != (n.segs.length : Int)) with
 | true =>
  rw [if_neg (fun e => neq_b a1 (by rw [e]))] at e0
  simp (maxSteps:=500000) only [↓vp, vv, ↓reduceIte, simprocAttr, c42, r42, c42_1, c42_2, c42_3, c42_4, c42_5, c42_6, c42_7, r42, AlT, selNet, hn1, hz, k0, a1, e0, reA, Net.enc, netD, List.map_nil, Pu]
 | false =>
 have k1 : fs.length = n.segs.length := by have := eq_b a1; omega
 rw [if_pos k1] at e0
 cases a2 : ((l.length : Int) != (n.segs.length : Int)) with
 | true =>
  rw [if_neg (fun e => neq_b a2 (by rw [e]))] at e0
  simp (maxSteps:=500000) only [↓vp, vv, ↓reduceIte, simprocAttr, c42, r42, c42_1, c42_2, c42_3, c42_4, c42_5, c42_6, c42_7, r42, AlT, selNet, hn1, hz, k0, a1, a2, e0, reA, Net.enc, netD, List.map_nil, Pu]
 | false =>
 have k2 : l.length = n.segs.length := by have := eq_b a2; omega
 rw [if_pos k2] at e0
 generalize hX : allGo ps bs l fs 0 [] = X at e0
 simp (maxSteps:=500000) only [↓vp, vv, ↓reduceIte, simprocAttr, c42, r42, c42_1, c42_2, c42_3, c42_4, c42_5, c42_6, c42_7, AlT, selNet, hn1, hz, k0, a1, a2, Net.enc, netD]
 refine rng_loopP fs.length (fun j (u : List Int × Nat) => ⟨fr (AlF ps bs fs l u.1 u.2 (j : Nat)), AlH u.1 u.2⟩) (fun j u => u.1.length = j ∧ allGo ps bs l (fs.drop j) j u.1 = X) (u0 := ([], 0)) ((weak_own 13 (0, 1000) 1 (by simp only [↓vp, vv, ↓reduceIte, simprocAttr, ]) (by simp only [↓vp, vv, ↓reduceIte, simprocAttr, ])).trans (weak_eqA [] [(0, 1000)] (AlF ps bs fs l [] 0 0) (by refine ⟨?_, ?_, ?_, by simp, ?_⟩ <;> (simp only [↓vp, vv, ↓reduceIte, simprocAttr, coverS, refsF, AlF, AlB, AlH, List.map_nil] <;> try rfl)))) ⟨rfl, hX⟩ (fun j hj u hP => ?_) (fun u hP => ?_)
 ·obtain ⟨out, g⟩ := u
  obtain ⟨ho, hP⟩ := hP
  dsimp only at ho hP
  have hj' : (j : Int) < fs.length := by omega
  have jl : j < l.length := by omega
  have jl' : (j : Int) < l.length := by omega
  have w1 := idx_next (j := j) (by omega)
  have g1 := f_get hj
  have g2 := cd_get jl
  have y1 : (out.length + 1) * 8 ≤ 140737488355328 := by omega
  have y2 : out.length + 1 ≤ 4611686018427387904 := by omega
  rw [f_drop hj, allGo] at hP
  have hf : fA fs j ∈ fs := by rw [← f_at hj]; exact List.getElem_mem hj
  have ok : SgOk ⟨ps, bs, fA fs j, cdA l j⟩ := ⟨h.hp, h.hb, h.ha _ hf⟩
  generalize fA fs j = f at g1 hP ok
  generalize cdA l j = c at g2 hP ok
  have dc : cndOf [di c.te, di c.pr] = some c := rfl
  cases d1 : ((segI ps bs f c).2 != 0) with
  | true =>
   rw [if_neg (neq_b d1)] at hP
   simp (maxSteps:=500000) only [↓vp, vv, ↓reduceIte, simprocAttr, c42, r42, c42_1, c42_2, c42_3, c42_4, c42_5, c42_6, c42_7, r42, AlT, AlF, AlB, AlH, selSg, selX, decSg, prdsOf_map, btsOf_map, pcsOf_map, dc, ok, hj', hj, jl, jl', g1, g2, Int.toNat_natCast, idx_nn, d1, e0, ← hP, ie, reA, List.map_nil, Pu]
  | false =>
   have k3 := eq_b d1
   rw [if_pos k3] at hP
   have nx : (out ++ [(segI ps bs f c).1]).length = j + 1 ∧ allGo ps bs l (fs.drop (j + 1)) (j + 1) (out ++ [(segI ps bs f c).1]) = X := ⟨by simp; omega, hP⟩
   generalize hq : (segI ps bs f c).1 = v at nx
   simp (maxSteps:=500000) only [↓vp, vv, ↓reduceIte, simprocAttr, c42, r42, c42_1, c42_2, c42_3, c42_4, c42_5, c42_6, c42_7, AlT, AlF, AlB, AlH, selSg, selX, decSg, prdsOf_map, btsOf_map, pcsOf_map, dc, ok, hj', hj, jl, jl', g1, g2, Int.toNat_natCast, idx_nn, k3, hq, ie, y1, y2]
   refine rng_nextP hj (out ++ [v], g + 1) ?_ nx
   exact (weak_eqA [] [(0, 1000)] (AlF ps bs fs l (out ++ [v]) (g + 1) ((j + 1 : Nat) : Int)) (by refine ⟨?_, ?_, ?_, by simp, ?_⟩ <;> (simp only [↓vp, vv, ↓reduceIte, simprocAttr, coverS, refsF, AlF, AlB, AlH, iR, w1, List.map_append, List.map_cons, List.map_nil, List.length_append, List.length_cons, List.length_nil] <;> try rfl)))
 ·obtain ⟨out, g⟩ := u
  obtain ⟨ho, hP⟩ := hP
  dsimp only at ho hP
  rw [List.drop_of_length_le (Nat.le_refl _), allGo] at hP
  have tk : (out.map iR).take out.length = out.map iR := List.take_of_length_le (by simp)
  simp (maxSteps:=500000) only [↓vp, vv, ↓reduceIte, simprocAttr, c42, r42, c42_1, c42_2, c42_3, c42_4, c42_5, c42_6, c42_7, r42, AlT, AlF, AlB, AlH, Int.lt_irrefl, tk, e0, ← hP, reA, eq_true (i_pl out), Pu]
structure AlA where
 n : Net
 ps : List Prd
 bs : List Bat
 fs : List (List Pce)
 l : List Cnd
def decAl : List D → Option AlA
 | [.agg x, .sl y, .sl z, .sl w, .sl v] => match netOf1 x, prdsOf y, btsOf z, fsOf w, cndsOf v with
  | some a, some b, some c, some d, some e => some ⟨a, b, c, d, e⟩
  | _, _, _, _, _ => Option.none
 | _ => Option.none
theorem decAl_eq : ∀ l a, decAl l = some a → l = [a.n.enc, .sl (a.ps.map Prd.row), .sl (a.bs.map Bat.row), .sl (a.fs.map fR), .sl (a.l.map Cnd.row)] := fun l a h => by
 unfold decAl at h
 split at h
 ·split at h
  ·rename_i e1 e2 e3 e4 e5; cases h; rw [netOf1_eq e1, prdsOf_eq e2, btsOf_eq e3, fsOf_eq e4, cndsOf_eq e5]; rfl
  ·cases h
 ·cases h
def AlOk (a : AlA) : Prop := AlPre a.n a.ps a.bs a.fs a.l
def selAl := selX decAl AlOk fun a => reA (allI a.n a.ps a.bs a.fs a.l)
theorem tc_al {T : Tbl} (hT : TblOk Tryd.prog T) : TblOk Tryd.prog (tc 42 (rowPu selAl) T) := tc_x f42_ok decAl_eq (fun a h nn => pall_c _ _ _ _ _ h nn) hT
structure TkOk (n : Net) (p : Pln) (fs : List (List Pce)) (fd : List Int) : Prop where
 ck : fckI n p = 0
 nl : n.nodes.length ≤ 6
 ql : n.ports.length ≤ 6
 fl : fs.length = n.segs.length
 fv : ∀ j, (h : j < n.segs.length) → flV (fA fs j) = true ∧ volW (fA fs j) 0 = (n.segs[j]).cap
 fn : ∀ j, j < n.segs.length → (fA fs j).length ≤ 200
 dl : fd.length = n.ports.length
 dv : ∀ j, j < fd.length → prB2 (iA fd j) = true
theorem TkOk.sl {n p fs fd} (h : TkOk n p fs fd) : n.segs.length ≤ 32 := (fck0 h.ck).net.sl
def K18T : Tbl := tc 78 (rowPu (selNetW (fun _ => True) fun n => di (checkI n))) (tc 70 (rowPu selFv) (tc 71 (rowPu selTo) T0))
theorem K18T_ok : TblOk Tryd.prog K18T := tc_netw f78_ok (fun n _ nn => rcheck_w n nn) (tc_rfv (tc_rsu (T0_ok _)))
def K8F (n : Net) (fs : List (List Pce)) (j : Int) : List (Nat × D) := [(1, .sl (fs.map fR)), (2, .ptr (0, 2) 0 0 0), (20, di fs.length), (21, di j)]
def K8G (n : Net) (fs : List (List Pce)) (j : Int) : List (Nat × D) := [(1, .sl (fs.map fR)), (2, .ptr (0, 2) 0 0 0), (32, di fs.length), (33, di j)]
def K8H (n : Net) : Hp := Hp.none.put (0, 2) ⟨0, 6, [netD n]⟩
theorem fl_len {l : List Pce} (h : flV l = true) : l.length ≤ 200 := by
 unfold flV at h
 split at h
 ·cases h
 ·omega
set_option maxHeartbeats 8000000 in
theorem check18_c {n : Net} {p : Pln} {fs : List (List Pce)} {fd : List Int} (h : TkOk n p fs fd) (nn : Nm) : CallsA Tryd.prog 122 [n.enc, .sl (fs.map fR)] Hp.none nn (Pu (di 0) Hp.none) := by
 obtain ⟨code, h1, h2⟩ := c122_ok
 refine callsA_of K18T_ok mixed (N := fun t => (0, t)) Tryd.func122 h1 h2 r122_ok [] false js_nil js_nil' (by simp [Tryd.f122]) ?_
 have hn1 := netOf1_x n
 have hc := (fck0 h.ck).ck
 have hl := h.fl
 have hsl := h.sl
 have z1 : ((fs.length : Int) != n.segs.length) = false := by rw [hl]; simp
 simp (maxSteps:=500000) only [↓vp, vv, ↓reduceIte, simprocAttr, c122, r122, c122_1, c122_10, c122_2, c122_3, c122_4, c122_5, c122_6, c122_7, c122_8, c122_9, K18T, selNetW, Net.enc, netD, hn1, hc, bne_self_eq_false, z1]
 refine rng_loop fs.length (fun j => ⟨fr (K8F n fs (j : Nat)), K8H n⟩) (fun _ => True) (weak_eqA [] [(0, 2)] (K8F n fs 0) (by refine ⟨?_, ?_, ?_, by simp, ?_⟩ <;> (simp only [↓vp, vv, ↓reduceIte, simprocAttr, coverS, refsF, K8F, K8H, netD] <;> try rfl))) trivial (fun j hj _ => ?_) (fun _ => ?_)
 ·have hj' : (j : Int) < fs.length := by omega
  have w1 := idx_next (j := j) (by omega)
  have g1 := f_get hj
  obtain ⟨v1, v2⟩ := h.fv j (by omega)
  have v3 : PfOk (fA fs j) := by have := fl_len v1; unfold PfOk; omega
  simp (maxSteps:=500000) only [↓vp, vv, ↓reduceIte, simprocAttr, c122, r122, c122_1, c122_10, c122_2, c122_3, c122_4, c122_5, c122_6, c122_7, c122_8, c122_9, K18T, selFv, selX, decPf, pcsOf_map, K8F, K8H, hj, hj', g1, v1, v3, Int.toNat_natCast, idx_nn]
  refine rng_next hj ?_ trivial
  exact (weak_eqA [] [(0, 2)] (K8F n fs ((j + 1 : Nat) : Int)) (by refine ⟨?_, ?_, ?_, by simp, ?_⟩ <;> (simp only [↓vp, vv, ↓reduceIte, simprocAttr, coverS, refsF, K8F, K8H, netD, w1] <;> try rfl)))
 ·simp (maxSteps:=500000) only [↓vp, vv, ↓reduceIte, simprocAttr, c122, r122, c122_1, c122_10, c122_2, c122_3, c122_4, c122_5, c122_6, c122_7, c122_8, c122_9, K18T, K8F, K8H, Int.lt_irrefl]
  refine rng_loop fs.length (fun j => ⟨fr (K8G n fs (j : Nat)), K8H n⟩) (fun _ => True) (weak_eqA [] [(0, 2)] (K8G n fs 0) (by refine ⟨?_, ?_, ?_, by simp, ?_⟩ <;> (simp only [↓vp, vv, ↓reduceIte, simprocAttr, coverS, refsF, K8G, K8H, netD] <;> try rfl))) trivial (fun j hj _ => ?_) (fun _ => ?_)
  ·have hj' : (j : Int) < fs.length := by omega
   have hjn : (j : Int) < n.segs.length := by omega
   have hjn' : j < n.segs.length := by omega
   have w1 := idx_next (j := j) (by omega)
   have g1 := f_get hj
   have gs := getD_map Seg.row n.segs j hjn'
   obtain ⟨v1, v2⟩ := h.fv j (by omega)
   have v3 : PfOk (fA fs j) := by have := fl_len v1; unfold PfOk; omega
   generalize n.segs[j] = sg at gs v2
   simp (maxSteps:=500000) only [↓vp, vv, ↓reduceIte, simprocAttr, c122, r122, c122_1, c122_10, c122_2, c122_3, c122_4, c122_5, c122_6, c122_7, c122_8, c122_9, K18T, selTo, selX, decPf, pcsOf_map, K8G, K8H, netD, hj, hj', hjn, hjn', g1, gs, Seg.row, v2, v3, bne_self_eq_false, Int.toNat_natCast, idx_nn]
   refine rng_next hj ?_ trivial
   exact (weak_eqA [] [(0, 2)] (K8G n fs ((j + 1 : Nat) : Int)) (by refine ⟨?_, ?_, ?_, by simp, ?_⟩ <;> (simp only [↓vp, vv, ↓reduceIte, simprocAttr, coverS, refsF, K8G, K8H, netD, w1] <;> try rfl)))
  ·simp (maxSteps:=500000) only [↓vp, vv, ↓reduceIte, simprocAttr, c122, r122, c122_1, c122_10, c122_2, c122_3, c122_4, c122_5, c122_6, c122_7, c122_8, c122_9, r122, K18T, K8G, K8H, Int.lt_irrefl, Pu]
structure TkA where
 n : Net
 p : Pln
 fs : List (List Pce)
 fd : List Int
def TkA.enc (a : TkA) : List D := [a.n.enc, .sl (a.fs.map fR), a.p.enc, .sl (a.fd.map iRow)]
def decNF : List D → Option (Net × List (List Pce))
 | [.agg a, .sl x] => (netOf1 a).bind fun n => (fsOf x).map fun f => (n, f)
 | _ => Option.none
theorem decNF_eq : ∀ l a, decNF l = some a → l = [a.1.enc, .sl (a.2.map fR)] := fun l a h => by
 unfold decNF at h
 split at h
 ·obtain ⟨b, hb, h⟩ := Option.bind_eq_some_iff.1 h
  obtain ⟨c, hc, rfl⟩ := Option.map_eq_some_iff.1 h
  rw [netOf1_eq hb, fsOf_eq hc]
  rfl
 ·cases h
def selK8 := selX decNF (fun a => ∃ p fd, TkOk a.1 p a.2 fd) fun _ => di 0
theorem tc_k8 {T : Tbl} (hT : TblOk Tryd.prog T) : TblOk Tryd.prog (tc 122 (rowPu selK8) T) := tc_x f122_ok decNF_eq (fun a h nn => by obtain ⟨p, fd, h⟩ := h; exact check18_c h nn) hT
def RdT : Tbl := tc 122 (rowPu selK8) (tc 123 (rowPu (selNP PreP fun n p => di (fckI n p))) (tc 107 (rowPu selPr2) T0))
theorem RdT_ok : TblOk Tryd.prog RdT := tc_k8 (tc_np f123_ok (fun n p h nn => rchk16_w n p h nn) (tc_pr2 (T0_ok _)))
def RdF (fd : List Int) (j : Int) : List (Nat × D) := [(3, .sl (fd.map iRow)), (31, di fd.length), (32, di j)]
set_option maxHeartbeats 8000000 in
theorem ready_c {n : Net} {p : Pln} {fs : List (List Pce)} {fd : List Int} (h : TkOk n p fs fd) (nn : Nm) : CallsA Tryd.prog 82 [n.enc, .sl (fs.map fR), p.enc, .sl (fd.map iRow)] Hp.none nn (Pu (di 0) Hp.none) := by
 obtain ⟨code, h1, h2⟩ := c82_ok
 refine callsA_of RdT_ok mixed (N := fun t => (0, t)) Tryd.func82 h1 h2 r82_ok [] false js_nil js_nil' (by simp [Tryd.f82]) ?_
 have hn1 := netOf1_x n
 have hp1 := plnOf1_x p
 have hv := fck0 h.ck
 have hq : PreP n p := ⟨by have := hv.rl; have := hv.net.sl; omega, by have := hv.pl; have := hv.net.ql; omega, by have := hv.ul; have := hv.net.tl; omega⟩
 have hc := h.ck
 have he : ∃ p fd, TkOk n p fs fd := ⟨p, fd, h⟩
 have hfs := fsOf_map fs
 have hdl := h.dl
 have hql := h.ql
 have z1 : ((fd.length : Int) != n.ports.length) = false := by rw [hdl]; simp
 simp (maxSteps:=500000) only [↓vp, vv, ↓reduceIte, simprocAttr, c82, r82, c82_1, c82_2, c82_3, c82_4, c82_5, c82_6, c82_7, RdT, selK8, selNP, selX, decNF, Option.bind_some, Option.map_some, Net.enc, netD, Pln.enc, plnD, hn1, hp1, hq, hc, he, hfs, bne_self_eq_false, z1]
 refine rng_loop fd.length (fun j => ⟨fr (RdF fd (j : Nat)), Hp.none⟩) (fun _ => True) (weak0 (by simp only [↓vp, vv, ↓reduceIte, simprocAttr, coverS, RdF]) (by simp only [↓vp, vv, ↓reduceIte, simprocAttr, refsF, RdF])) trivial (fun j hj _ => ?_) (fun _ => ?_)
 ·have hj' : (j : Int) < fd.length := by omega
  have w1 := idx_next (j := j) (by omega)
  have g1 := ir_get hj
  have v1 := h.dv j hj
  simp (maxSteps:=500000) only [↓vp, vv, ↓reduceIte, simprocAttr, c82, r82, c82_1, c82_2, c82_3, c82_4, c82_5, c82_6, c82_7, RdT, selPr2, selX, decI0, tt, RdF, hj, hj', g1, v1, Int.toNat_natCast, idx_nn]
  refine rng_next hj ?_ trivial
  exact (weak_eqA [] [] (RdF fd ((j + 1 : Nat) : Int)) (by refine ⟨?_, ?_, ?_, by simp, ?_⟩ <;> (simp only [↓vp, vv, ↓reduceIte, simprocAttr, coverS, refsF, RdF, w1] <;> try rfl)))
 ·simp (maxSteps:=500000) only [↓vp, vv, ↓reduceIte, simprocAttr, c82, r82, c82_1, c82_2, c82_3, c82_4, c82_5, c82_6, c82_7, r82, RdT, RdF, Int.lt_irrefl, Pu]
def decTk : List D → Option TkA
 | [.agg a, .sl x, .agg b, .sl y] => match netOf1 a, fsOf x, plnOf1 b, intsOf y with
  | some n, some f, some p, some d => some ⟨n, p, f, d⟩
  | _, _, _, _ => Option.none
 | _ => Option.none
theorem decTk_eq : ∀ l a, decTk l = some a → l = a.enc := fun l a h => by
 unfold decTk at h
 split at h
 ·split at h
  ·rename_i e1 e2 e3 e4
   cases h
   unfold TkA.enc
   rw [netOf1_eq e1, fsOf_eq e2, plnOf1_eq e3, intsOf_eq e4]
   rfl
  ·cases h
 ·cases h
def TkA.ok (a : TkA) : Prop := TkOk a.n a.p a.fs a.fd
def selRdy := selX decTk TkA.ok fun _ => di 0
theorem tc_rdy {T : Tbl} (hT : TblOk Tryd.prog T) : TblOk Tryd.prog (tc 82 (rowPu selRdy) T) := tc_x f82_ok decTk_eq (fun a h nn => ready_c h nn) hT
def SrcO {α : Type} (i nn : Nm) (L : List (List D)) (sz : Nat) (row : α → List D) (post : List α → Prop) : D → Hp → Prop := fun v H' => ∃ at' g l, SrcOk L at' ∧ post l ∧ v = .own nn g 0 l.length ∧ H' = (Hp.none.put nn ⟨g, sz, l.map row⟩).put i (sE L at')
theorem SrcO_all {α : Type} (i nn : Nm) (L : List (List D)) (sz : Nat) (row : α → List D) (post : List α → Prop) (K : D → Hp → Prop) : (∀ v H', SrcO i nn L sz row post v H' → K v H') = ∀ (at' : SA L) (g : Nat) (l : List α), post l → K (.own nn g 0 l.length) ((Hp.none.put nn ⟨g, sz, l.map row⟩).put i (sE L at'.1)) :=
 propext ⟨fun h at' g l h2 => h _ _ ⟨at'.1, g, l, at'.2, h2, rfl, rfl⟩, fun h v H' ⟨at', g, l, h1, h2, e1, e2⟩ => by rw [e1, e2]; exact h ⟨at', h1⟩ g l h2⟩
theorem js_two (i nn : Nm) (e : En) : ∀ (j : Nm) (x : En), (Hp.none.put i e) j = some x → j ∈ [i, nn] := fun j x h => by
 by_cases hj : j = i
 ·rw [hj]; exact List.mem_cons_self ..
 ·rw [Hp.put_other _ hj] at h; cases h
theorem js_two' (i nn : Nm) (e : En) : ∀ j ∈ [i, nn], ((Hp.none.put i e) j).isSome = true ∨ j = nn := fun j h => by
 rcases List.mem_cons.1 h with h | h
 ·rw [h, Hp.put_same]; exact .inl rfl
 ·exact .inr (List.mem_singleton.1 h)
end Go.Proofs.YtehmmnnmkapfeaaDoor

/- Tickets: the example of the laws. -/
namespace Go.Proofs.YtehmmnnmkapfeaaDoor
open Go
def selPd : List D → Option (Prop × (Prd → Prop))
 | [.v (.int .i64 n)] => some (0 ≤ n ∧ n < 26, PrdIn n)
 | _ => Option.none
theorem tc_prod {T : Tbl} (hT : TblOk Tryd.prog T) : TblOk Tryd.prog (tc 13 (rowSrc selPd Prd.enc) T) :=
 tc_src f13_ok (fun args pre post h hp => by
  unfold selPd at h
  split at h <;> cases h
  exact ⟨⟨⟨nm1B ⟨#[112]⟩ _, 800, 0, 0, 1000⟩, rfl, ⟨by dsimp only; omega, by dsimp only; omega⟩, ⟨by dsimp only; omega, by dsimp only; omega⟩, ⟨by dsimp only; omega, by dsimp only; omega⟩, ⟨by dsimp only; omega, by dsimp only; omega⟩⟩, Product_s _ hp⟩) hT
def c29_1 : C := (.seq (.block 1 (.ops false [oM 11 3, oM 12 0, oM 13 3, oP 14 (.len (.t 13)), oB 15 (.call 13 [(.t 12), (.t 14)]), oP 16 (.bsl 5 1 [(.v (.string ({ data := #[] }))), (.v (.int .i64 0)), (.v (.int .i64 0)), (.v (.int .i64 0)), (.v (.int .i64 0))] [(0, (.t 15))]), oP 17 (.app 5 48 (.t 11) (.t 16)), oM 3 17])) (.ops false [oM 9 4,
 oP 10 (.bin .sub (.t 9) (cI 1)), oM 4 10]))
def c29_2 : C := (.seq (.seq (.ops false [oM 7 4, oP 8 (.bin .gtr (.t 7) (cI 0))]) (.cond (.t 8) .skip (.exit 0))) c29_1)
def c29_3 : C := (.seq (.ops false [oM 18 3, oM 2 18]) .ret)
def c29 : C := (.seq (.ops false [oP 2 (.mv (.c .mt))]) (.seq (.ops false [oP 3 (.mv (.c .mt))]) (.seq (.seq (.ops false [oM 5 0, oB 6 (.call 32 [(.t 5), (cI 1), (cI 4)]), oM 4 6]) (.block 0 (.loop c29_2))) c29_3)))
def r29 : List RV := [(.tmp 2)]
theorem c29_ok : ∃ code, Tryd.f29.body = some code ∧ compC Tryd.prog Tryd.f29.ntmps code = some (C.strip c29) := ⟨_, rfl, by kernel_rfl⟩
theorem r29_ok : compRes Tryd.prog Tryd.f29.results.toList = some r29 := by kernel_rfl
theorem f29_ok : fnOk Tryd.prog 29 = true := by kernel_rfl
def c30_1 : C := (.seq (.block 1 (.ops false [oM 14 7, oM 15 0, oM 16 2, oB 17 (.call 14 [(.t 15), (.t 16)]), oM 18 0, oB 19 (.call 14 [(.t 18), (cI 3)]), oB 20 (.call 51 [(.c (.v (.string ({ data := #[102] })))), (.t 19)]), oP 21 (.bld [(.v (.int .i64 0)), (.v (.string ({ data := #[] }))), (.v (.int .i64 0)), (.v (.int .i64 0))] [(0, (1, (.t 17))), (1, (1, (.t 20))),
 (2, (1, (cI 0))), (3, (1, (cI 1)))]), oP 22 (.bsl 4 1 [(.v (.int .i64 0)), (.v (.string ({ data := #[] }))), (.v (.int .i64 0)), (.v (.int .i64 0))] [(0, (.t 21))]), oP 23 (.app 4 40 (.t 14) (.t 22)), oM 7 23])) (.ops false [oM 12 8, oP 13 (.bin .add (.t 12) (cI 1)), oM 8 13]))
def c30_2 : C := (.seq (.seq (.ops false [oM 9 8, oM 10 1, oP 11 (.bin .lss (.t 9) (.t 10))]) (.cond (.t 11) .skip (.exit 0))) c30_1)
def c30_3 : C := (.seq (.ops false [oM 24 7, oM 6 24]) .ret)
def c30 : C := (.seq (.ops false [oP 6 (.mv (.c .mt))]) (.seq (.ops false [oP 7 (.mv (.c .mt))]) (.seq (.seq (.ops false [oP 8 (.mv (cI 0))]) (.block 0 (.loop c30_2))) c30_3)))
def r30 : List RV := [(.tmp 6)]
theorem c30_ok : ∃ code, Tryd.f30.body = some code ∧ compC Tryd.prog Tryd.f30.ntmps code = some (C.strip c30) := ⟨_, rfl, by kernel_rfl⟩
theorem r30_ok : compRes Tryd.prog Tryd.f30.results.toList = some r30 := by kernel_rfl
theorem f30_ok : fnOk Tryd.prog 30 = true := by kernel_rfl
def c31_1 : C := (.seq (.ops false [oM 83 1, oP 84 (.fa 1 (.t 8)), oP 85 (.ld 1 false (.t 84)), oP 86 (.bin .sub (.t 83) (.t 85)), oM 1 86]) (.ops false [oM 87 7, oP 88 (.ld 2 true (.t 8)), oP 89 (.bsl 2 1 [(.v (.int .i64 0)), (.v (.int .i64 0))] [(0, (.t 88))]), oP 90 (.app 2 16 (.t 87) (.t 89)), oM 7 90]))
def c31_2 : C := (.seq (.ops false [oP 31 (.fa 1 (.t 8)), oP 32 (.ld 1 false (.t 31)), oM 33 1, oP 34 (.mnx false (.t 32) (.t 33)), oP 35 (.fa 1 (.t 8)), oS (.st 1 (.t 35) (.t 34))]) (.seq (.seq (.ops true [oM 36 7, oA 37 (.len (.t 36)) [0], oA 38 (.bin .gtr (.t 37) (cI 0)) [0, 1], oA 39 (.mv (.t 38)) [1, 0, 2], oH 40 39 true (.mv (.t 7)) [2, 0, 1, 3], oH 41 39 true (.mv (.t 7)) [2, 0, 1, 3],
 oH 42 39 true (.len (.t 41)) [1, 0, 2, 3, 5], oH 43 39 true (.bin .sub (.t 42) (cI 1)) [5, 2, 0, 1, 3, 6], oH 44 39 true (.iaS 2 (.t 40) (.t 43)) [6, 5, 1, 0, 2, 3, 7, 4], oH 45 39 true (.fa 0 (.t 44)) [4, 7, 2, 0, 1, 5, 6, 3, 8], oH 46 39 true (.ld 1 false (.t 45)) [8, 6, 5, 1, 0, 2, 7, 4, 3, 9], oH 47 39 true (.fa 0 (.t 8)) [2, 0, 1, 3], oH 48 39 true (.ld 1 false (.t 47)) [1, 0, 2, 3, 11],
 oH 49 39 true (.bin .eql (.t 46) (.t 48)) [11, 9, 4, 7, 2, 0, 1, 5, 6, 8, 3, 12, 10], oA 50 (.pick (.t 39) (.t 49) (cB false)) [10, 12, 8, 6, 5, 7, 4, 9, 11, 2, 0, 1, 13, 3]]) (.cond (.t 50) (.seq (.ops false [oP 51 (.fa 0 (.t 8)), oP 52 (.ld 1 false (.t 51)), oP 53 (.bin .add (.t 52) (cI 1)), oM 54 2, oP 55 (.bin .rem (.t 53) (.t 54)), oP 56 (.fa 0 (.t 8)), oS (.st 1 (.t 56) (.t 55))])
 (.seq (.ops true [oM 57 7, oM 58 7, oA 59 (.len (.t 58)) [1], oA 60 (.bin .sub (.t 59) (cI 1)) [1, 2], oA 61 (.iaS 2 (.t 57) (.t 60)) [2, 1, 3, 0], oA 62 (.fa 0 (.t 61)) [0, 3, 1, 2, 4], oA 63 (.ld 1 false (.t 62)) [4, 2, 1, 3, 0, 5], oP 64 (.fa 0 (.t 8)), oA 65 (.ld 1 false (.t 64)) [7], oA 66 (.bin .eql (.t 63) (.t 65)) [7, 5, 0, 3, 1, 2, 4, 8, 6]]) (.cond (.t 66)
 (.seq (.ops true [oM 67 7, oM 68 7, oA 69 (.len (.t 68)) [1], oA 70 (.bin .sub (.t 69) (cI 1)) [1, 2], oA 71 (.iaS 2 (.t 67) (.t 70)) [2, 1, 3, 0], oA 72 (.fa 1 (.t 71)) [0, 3, 1, 2, 4], oA 73 (.ld 1 false (.t 72)) [4, 2, 1, 3, 0, 5], oP 74 (.fa 1 (.t 8)), oA 75 (.ld 1 false (.t 74)) [7], oA 76 (.bin .add (.t 73) (.t 75)) [7, 5, 0, 3, 1, 2, 4, 8, 6], oA 77 (.iaS 2 (.t 67)
 (.t 70)) [9, 8, 7, 6, 5, 4, 2, 1, 3, 0], oA 78 (.fa 1 (.t 77)) [9, 8, 7, 6, 5, 4, 3, 2, 1, 0, 10], oT (.st 1 (.t 78) (.t 76)) [10, 8, 7, 6, 5, 4, 3, 2, 1, 0, 9, 11]]) (.seq (.ops false [oM 79 1, oP 80 (.fa 1 (.t 8)), oP 81 (.ld 1 false (.t 80)), oP 82 (.bin .sub (.t 79) (.t 81)), oM 1 82]) (.exit 1))) .skip))) .skip)) c31_1))
def c31_3 : C := (.block 1 (.seq (.ops false [oM 16 0, oM 17 2, oB 18 (.call 14 [(.t 16), (.t 17)]), oM 19 0, oM 20 1, oP 21 (.bin .mul (.t 20) (cI 2)), oP 22 (.bin .quo (.t 21) (cI 3)), oP 23 (.mnx true (cI 1) (.t 22)), oB 24 (.call 32 [(.t 19), (cI 1), (.t 23)]), oP 25 (.bld [(.v (.int .i64 0)), (.v (.int .i64 0))] [(0, (1, (.t 18))), (1, (1, (.t 24)))]),
 oP 8 (.new [(.v (.int .i64 0)), (.v (.int .i64 0))]), oS (.st 2 (.t 8) (.t 25))]) (.seq (.seq (.ops false [oM 26 7, oP 27 (.len (.t 26)), oP 28 (.bin .eql (.t 27) (cI 11))]) (.cond (.t 28) (.ops false [oM 29 1, oP 30 (.fa 1 (.t 8)), oS (.st 1 (.t 30) (.t 29))]) .skip)) c31_2)))
def c31_4 : C := (.seq (.seq (.ops false [oM 9 1, oP 10 (.bin .gtr (.t 9) (cI 0)), oM 11 10, oG 12 11 true (.mv (.t 7)), oG 13 11 true (.len (.t 12)), oG 14 11 true (.bin .lss (.t 13) (cI 12)), oP 15 (.pick (.t 11) (.t 14) (cB false))]) (.cond (.t 15) .skip (.exit 0))) c31_3)
def c31_5 : C := (.seq (.ops false [oM 91 7, oM 6 91]) .ret)
def c31 : C := (.seq (.ops false [oP 6 (.mv (.c .mt))]) (.seq (.ops false [oP 7 (.mv (.c .mt))]) (.seq (.block 0 (.loop c31_4)) c31_5)))
def r31 : List RV := [(.tmp 6)]
theorem c31_ok : ∃ code, Tryd.f31.body = some code ∧ compC Tryd.prog Tryd.f31.ntmps code = some (C.strip c31) := ⟨_, rfl, by kernel_rfl⟩
theorem r31_ok : compRes Tryd.prog Tryd.f31.results.toList = some r31 := by kernel_rfl
theorem f31_ok : fnOk Tryd.prog 31 = true := by kernel_rfl
def c40_1 : C := (.seq (.block 1 (.seq (.ops false [oP 15 (.iaS 7 (.t 11) (.t 13)), oP 16 (.ld 7 true (.t 15)), oP 9 (.new [(.v (.string ({ data := #[] }))), (.v (.int .i64 0)), (.v (.int .i64 0)), (.v (.int .i64 0)), (.v (.int .i64 0)), (.v (.int .i64 0)), .mt]), oS (.st 7 (.t 9) (.t 16))]) (.ops false [oM 17 7, oM 18 0, oP 19 (.fa 3 (.t 9)), oP 20 (.ld 1 false (.t 19)), oM 21 2,
 oP 22 (.call 31 [(.t 18), (.t 20), (.t 21)]), oP 23 (.bsl 1 1 [.mt] [(0, (.t 22))]), oP 24 (.app 1 24 (.t 17) (.t 23)), oM 7 24]))) (.ops false [oP 25 (.bin .add (.t 13) (cI 1)), oM 13 25]))
def c40_2 : C := (.seq (.ops false [oP 14 (.bin .lss (.t 13) (.t 12))]) (.seq (.cond (.t 14) .skip (.exit 0)) c40_1))
def c40_3 : C := (.seq (.ops false [oM 26 7, oM 6 26]) .ret)
def c40 : C := (.seq (.ops false [oP 4 (.box 6 (.t 1)), oP 6 (.mv (.c .mt))]) (.seq (.ops false [oP 7 (.mv (.c .mt))]) (.seq (.seq (.ops false [oP 10 (.fa 1 (.t 4)), oP 11 (.ld 1 false (.t 10)), oP 12 (.len (.t 11)), oP 13 (.mv (cI 0))]) (.block 0 (.loop c40_2))) c40_3)))
def r40 : List RV := [(.tmp 6)]
theorem c40_ok : ∃ code, Tryd.f40.body = some code ∧ compC Tryd.prog Tryd.f40.ntmps code = some (C.strip c40) := ⟨_, rfl, by kernel_rfl⟩
theorem r40_ok : compRes Tryd.prog Tryd.f40.results.toList = some r40 := by kernel_rfl
theorem f40_ok : fnOk Tryd.prog 40 = true := by kernel_rfl
structure PrdsIn (l : List Prd) : Prop where
 len : 1 ≤ l.length ∧ l.length ≤ 4
 at' : ∀ j : Nat, j < l.length → PrdIn (j : Int) (pdA l j)
structure BatsIn (n np : Int) (l : List Bat) : Prop where
 len : (l.length : Int) = n
 at' : ∀ b, b ∈ l → 0 ≤ b.pr ∧ b.pr < np
def PoT : Tbl := tc 13 (rowSrc selPd Prd.enc) T2
theorem PoT_ok : TblOk Tryd.prog PoT := tc_prod T2_ok
theorem pd_left {l : List Prd} {c : Prd} {j : Nat} (h : j < l.length) : pdA (l ++ [c]) j = pdA l j := by
 unfold pdA
 rw [List.getD_eq_getElem?_getD, List.getD_eq_getElem?_getD, List.getElem?_append_left h]
theorem pd_right (l : List Prd) (c : Prd) : pdA (l ++ [c]) l.length = c := by
 unfold pdA
 rw [List.getD_eq_getElem?_getD, List.getElem?_append_right (Nat.le_refl _), Nat.sub_self]
 rfl
def PoF (i nn : Nm) (g n : Nat) (k : Int) : List (Nat × D) := [(0, .ptr i 0 0 0), (3, .own nn g 0 n), (4, di k)]
def PoH (i nn : Nm) (L : List (List D)) (at' : Int) (g : Nat) (l : List Prd) : Hp := (Hp.none.put nn ⟨g, 5, l.map Prd.row⟩).put i (sE L at')
def PoI (i nn : Nm) (L : List (List D)) (K : Nat) (k : Nat) (s : St) : Prop := ∃ at' g l, SrcOk L at' ∧ (∀ j : Nat, j < l.length → PrdIn (j : Int) (pdA l j)) ∧ l.length + k = K ∧ s = ⟨fr (PoF i nn g l.length k), PoH i nn L at' g l⟩
set_option maxHeartbeats 8000000 in
theorem Products_o : ∀ i L at' nn, SrcOk L at' → nn.1 ≤ i.1 → nn ≠ i → CallsA Tryd.prog 29 [.ptr i 0 0 0] (Hp.none.put i (sE L at')) nn (SrcO i nn L 5 Prd.row PrdsIn) := by
 intro i L at' nn ho hn1 hn2
 have hn3 : ¬ i = nn := fun e => hn2 e.symm
 have hn4 : ∀ t : Nat, ¬ nn = (i.1 + 1, t) := fun t e => by rw [e] at hn1; dsimp only at hn1; omega
 have hn5 : ∀ t : Nat, ¬ (i.1 + 1, t) = nn := fun t e => hn4 t e.symm
 have hn6 : ¬ nn = i := hn2
 obtain ⟨code, h1, h2⟩ := c29_ok
 refine callsA_of PoT_ok mixed (N := fun t => if t = 17 then nn else (i.1 + 1, t)) Tryd.func29 h1 h2 r29_ok [i, nn] true (js_two i nn _) (js_two' i nn _) (by simp [Tryd.f29]) ?_
 simp (maxSteps:=500000) only [↓vp, vv, ↓reduceIte, simprocAttr, c29, r29, c29_1, c29_2, c29_3, hn3, hn4, hn5, hn6, PoT, T2, T1, selRange, ho]
 intro a1 K hK
 unfold RPost at hK
 rw [vc_loop]
 refine ⟨PoI i nn L K.toNat, ⟨K.toNat, _, (weak_own 3 nn 5 (by simp only [↓vp, vv, ↓reduceIte, simprocAttr, ]) (by simp only [↓vp, vv, ↓reduceIte, simprocAttr, hn3, hn4, hn5, hn6])).trans (weak_eqA [] [i, nn] (PoF i nn 0 0 K) (by refine ⟨?_, ?_, ?_, by simp, ?_⟩ <;> (simp only [↓vp, vv, ↓reduceIte, simprocAttr, coverS, refsF, PoF, hn3, hn4, hn5, hn6] <;> try rfl))), a1.1, 0, [], a1.2, fun j hj => (by cases hj), by simp, by rw [show ((K.toNat : Nat) : Int) = K by omega]; rfl⟩, ?_⟩
 rintro k s ⟨at1, g, l, o1, hl, hlk, rfl⟩
 by_cases hk : (0 : Int) < k
 ·have y1 : (l.length + 1) * 48 ≤ 140737488355328 := by omega
  have y2 : l.length + 1 ≤ 4611686018427387904 := by omega
  have w1 : IntKind.i64.wrap ((k : Int) - 1) = ((k - 1 : Nat) : Int) := by rw [wrap_i (by omega)]; omega
  have w3 : (l.length : Int) < 26 := by omega
  simp (maxSteps:=500000) only [↓vp, vv, ↓reduceIte, simprocAttr, c29, r29, c29_1, c29_2, c29_3, hn3, hn4, hn5, hn6, PoT, T2, T1, selRange, selPd, o1, PoF, PoH, hk, y1, y2, w3, idx_nn, Prd.enc, Prd.row]
  intro a2 p hp
  refine ⟨k - 1, ⟨fr (PoF i nn (g + 1) (l ++ [p]).length ((k - 1 : Nat) : Int)), PoH i nn L a2.1 (g + 1) (l ++ [p])⟩, by omega, ?_, a2.1, g + 1, l ++ [p], a2.2, fun j hj => ?_, by simp; omega, rfl⟩
  ·exact (weak_eqA [] [i, nn] (PoF i nn (g + 1) (l ++ [p]).length ((k - 1 : Nat) : Int)) (by refine ⟨?_, ?_, ?_, by simp, ?_⟩ <;> (simp only [↓vp, vv, ↓reduceIte, simprocAttr, coverS, refsF, PoF, PoH, Prd.row, hn3, hn4, hn5, hn6, w1, List.map_append, List.map_cons, List.map_nil, List.length_append, List.length_cons, List.length_nil] <;> try rfl)))
  ·simp only [List.length_append, List.length_cons, List.length_nil] at hj
   by_cases h : j < l.length
   ·rw [pd_left h]; exact hl j h
   ·obtain rfl : j = l.length := by omega
    rw [pd_right]; exact hp
 ·have tk : (l.map Prd.row).take l.length = l.map Prd.row := List.take_of_length_le (by simp)
  simp (maxSteps:=500000) only [↓vp, vv, ↓reduceIte, simprocAttr, c29, r29, c29_1, c29_2, c29_3, r29, hn3, hn4, hn5, hn6, PoT, T2, T1, o1, PoF, PoH, hk, tk]
  exact ⟨fun j hj => rfl, at1, g, l, o1, ⟨by omega, hl⟩, rfl, rfl⟩
def BoF (i nn : Nm) (n np : Int) (g m : Nat) (j : Int) : List (Nat × D) := [(0, .ptr i 0 0 0), (1, di n), (2, di np), (7, .own nn g 0 m), (8, di j)]
def BoH (i nn : Nm) (L : List (List D)) (at' : Int) (g : Nat) (l : List Bat) : Hp := (Hp.none.put nn ⟨g, 4, l.map Bat.row⟩).put i (sE L at')
set_option maxHeartbeats 8000000 in
theorem Batches_o (n np : Int) (h0 : 0 ≤ n ∧ n ≤ 100) (h3 : 1 ≤ np ∧ np ≤ 100) : ∀ i L at' nn, SrcOk L at' → nn.1 ≤ i.1 → nn ≠ i → CallsA Tryd.prog 30 [.ptr i 0 0 0, di n, di np] (Hp.none.put i (sE L at')) nn (SrcO i nn L 4 Bat.row (BatsIn n np)) := by
 intro i L at' nn ho hn1 hn2
 have hn3 : ¬ i = nn := fun e => hn2 e.symm
 have hn4 : ∀ t : Nat, ¬ nn = (i.1 + 1, t) := fun t e => by rw [e] at hn1; dsimp only at hn1; omega
 have hn5 : ∀ t : Nat, ¬ (i.1 + 1, t) = nn := fun t e => hn4 t e.symm
 have hn6 : ¬ nn = i := hn2
 have i1 : InI np := by unfold InI; omega
 have i2 : InI 3 := by unfold InI; decide
 obtain ⟨code, h1, h2⟩ := c30_ok
 refine callsA_of T2_ok mixed (N := fun t => if t = 23 then nn else (i.1 + 1, t)) Tryd.func30 h1 h2 r30_ok [i, nn] true (js_two i nn _) (js_two' i nn _) (by simp [Tryd.f30]) ?_
 simp (maxSteps:=500000) only [↓vp, vv, ↓reduceIte, simprocAttr, c30, r30, c30_1, c30_2, c30_3, hn3, hn4, hn5, hn6, T2, T1, ho]
 refine rng_loopP n.toNat (fun j (u : SA L × Nat × List Bat) => ⟨fr (BoF i nn n np u.2.1 u.2.2.length (j : Nat)), BoH i nn L u.1.1 u.2.1 u.2.2⟩) (fun j u => u.2.2.length = j ∧ ∀ b, b ∈ u.2.2 → 0 ≤ b.pr ∧ b.pr < np) (u0 := (⟨at', ho⟩, 0, [])) ((weak_own 7 nn 4 (by simp only [↓vp, vv, ↓reduceIte, simprocAttr, ]) (by simp only [↓vp, vv, ↓reduceIte, simprocAttr, hn3, hn4, hn5, hn6])).trans (weak_eqA [] [i, nn] (BoF i nn n np 0 0 0) (by refine ⟨?_, ?_, ?_, by simp, ?_⟩ <;> (simp only [↓vp, vv, ↓reduceIte, simprocAttr, coverS, refsF, BoF, BoH, hn3, hn4, hn5, hn6, List.map_nil, List.length_nil] <;> try rfl)))) ⟨rfl, fun b hb => (by cases hb)⟩ (fun j hj u hP => ?_) (fun u hP => ?_)
 ·obtain ⟨a1, g, l⟩ := u
  obtain ⟨h4, h5⟩ := hP
  dsimp only at h4 h5
  have oa := a1.2
  have hj' : (j : Int) < n := by omega
  have w1 := idx_next (j := j) (by omega)
  have y1 : (l.length + 1) * 40 ≤ 140737488355328 := by omega
  have y2 : l.length + 1 ≤ 4611686018427387904 := by omega
  simp (maxSteps:=500000) only [↓vp, vv, ↓reduceIte, simprocAttr, c30, r30, c30_1, c30_2, c30_3, hn3, hn4, hn5, hn6, T2, T1, selI, selName, i1, i2, oa, BoF, BoH, hj', y1, y2]
  intro a2 x hx a3 y hy
  unfold NPost at hx hy
  refine ⟨by decide, ?_⟩
  have nx : (l ++ [(⟨x, nm1B ⟨#[102]⟩ y, 0, 1⟩ : Bat)]).length = j + 1 ∧ ∀ b, b ∈ l ++ [(⟨x, nm1B ⟨#[102]⟩ y, 0, 1⟩ : Bat)] → 0 ≤ b.pr ∧ b.pr < np := ⟨by simp; omega, fun b hb => by
   rcases List.mem_append.1 hb with hb | hb
   ·exact h5 b hb
   ·rw [List.mem_singleton.1 hb]; dsimp only; omega⟩
  refine rng_nextP hj (a3, g + 1, l ++ [(⟨x, nm1B ⟨#[102]⟩ y, 0, 1⟩ : Bat)]) ?_ nx
  exact (weak_eqA [] [i, nn] (BoF i nn n np (g + 1) (l ++ [(⟨x, nm1B ⟨#[102]⟩ y, 0, 1⟩ : Bat)]).length ((j + 1 : Nat) : Int)) (by refine ⟨?_, ?_, ?_, by simp, ?_⟩ <;> (simp only [↓vp, vv, ↓reduceIte, simprocAttr, coverS, refsF, BoF, BoH, Bat.row, hn3, hn4, hn5, hn6, w1, List.map_append, List.map_cons, List.map_nil, List.length_append, List.length_cons, List.length_nil] <;> try rfl)))
 ·obtain ⟨a1, g, l⟩ := u
  obtain ⟨h4, h5⟩ := hP
  dsimp only at h4 h5
  have tk : (l.map Bat.row).take l.length = l.map Bat.row := List.take_of_length_le (by simp)
  have hj' : ¬ ((n.toNat : Nat) : Int) < n := by omega
  simp (maxSteps:=500000) only [↓vp, vv, ↓reduceIte, simprocAttr, c30, r30, c30_1, c30_2, c30_3, r30, hn3, hn4, hn5, hn6, T2, T1, BoF, BoH, hj', tk]
  exact ⟨fun j hj => rfl, a1.1, g, l, a1.2, ⟨by omega, h5⟩, rfl, rfl⟩
def volS (l : List Pce) : Int := (l.map (·.vo)).sum
structure FillP (v : Int) (l : List Pce) (vol : Int) : Prop where
 len : l.length ≤ 12
 at' : ∀ p, p ∈ l → (0 ≤ p.ba ∧ p.ba < 4) ∧ 1 ≤ p.vo
 nb : ∀ j, j + 1 < l.length → (pcA l j).ba ≠ (pcA l (j + 1)).ba
 sum : volS l + vol = v
 v0 : 0 ≤ vol
 fin : l.length = 12 → vol = 0
 le : vol ≤ v
structure FillIn (v : Int) (l : List Pce) : Prop where
 len : l.length ≤ 12
 at' : ∀ p, p ∈ l → (0 ≤ p.ba ∧ p.ba < 4) ∧ 1 ≤ p.vo
 nb : ∀ j, j + 1 < l.length → (pcA l j).ba ≠ (pcA l (j + 1)).ba
 sum : volS l = v
theorem pc_left {l : List Pce} {c : Pce} {j : Nat} (h : j < l.length) : pcA (l ++ [c]) j = pcA l j := by
 unfold pcA
 rw [List.getD_eq_getElem?_getD, List.getD_eq_getElem?_getD, List.getElem?_append_left h]
theorem pc_right (l : List Pce) (c : Pce) : pcA (l ++ [c]) l.length = c := by
 unfold pcA
 rw [List.getD_eq_getElem?_getD, List.getElem?_append_right (Nat.le_refl _), Nat.sub_self]
 rfl
theorem volS_app (l : List Pce) (p : Pce) : volS (l ++ [p]) = volS l + p.vo := by
 unfold volS
 induction l with
 | nil => simp
 | cons y l ih => rw [List.cons_append, List.map_cons, List.map_cons, List.sum_cons, List.sum_cons, ih]; omega
theorem fill_next {v : Int} {l : List Pce} {vol : Int} (h : FillP v l vol) (hl : l.length < 12) {x z : Int} (hx : 0 ≤ x ∧ x < 4) (hz : 1 ≤ z ∧ z ≤ vol) (hn : 0 < l.length → (pcA l (l.length - 1)).ba ≠ x) (he : l.length = 11 → z = vol) : FillP v (l ++ [⟨x, z⟩]) (vol - z) := by
 refine ⟨by simp; omega, fun p hp => ?_, fun j hj => ?_, ?_, by omega, fun e => ?_, by have := h.le; omega⟩
 ·rcases List.mem_append.1 hp with hp | hp
  ·exact h.at' p hp
  ·rw [List.mem_singleton.1 hp]; exact ⟨hx, hz.1⟩
 ·simp only [List.length_append, List.length_cons, List.length_nil] at hj
  by_cases hjl : j + 1 < l.length
  ·rw [pc_left hjl, pc_left (by omega)]; exact h.nb j hjl
  ·have e : l.length = j + 1 := by omega
   have hr := pc_right l ⟨x, z⟩
   rw [e] at hr
   rw [hr, pc_left (by omega)]
   have := hn (by omega)
   rw [e, Nat.add_sub_cancel] at this
   exact this
 ·rw [volS_app]; have := h.sum; dsimp only; omega
 ·simp only [List.length_append, List.length_cons, List.length_nil] at e
  have := he (by omega)
  omega
def FoF (i nn : Nm) (vol : Int) (g m : Nat) : List (Nat × D) := [(0, .ptr i 0 0 0), (1, di vol), (2, di 4), (7, .own nn g 0 m)]
def FoH (i nn : Nm) (L : List (List D)) (at' : Int) (g : Nat) (l : List Pce) : Hp := (Hp.none.put nn ⟨g, 2, l.map Pce.row⟩).put i (sE L at')
def FoI (i nn : Nm) (L : List (List D)) (v : Int) (k : Nat) (s : St) : Prop := ∃ at' g l vol, SrcOk L at' ∧ FillP v l vol ∧ (k : Int) = vol ∧ s = ⟨fr (FoF i nn vol g l.length), FoH i nn L at' g l⟩
set_option maxHeartbeats 16000000 in
theorem Fill_o (v : Int) (hv : 1 ≤ v ∧ v ≤ 1000000) : ∀ i L at' nn, SrcOk L at' → nn.1 ≤ i.1 → nn ≠ i → CallsA Tryd.prog 31 [.ptr i 0 0 0, di v, di 4] (Hp.none.put i (sE L at')) nn (SrcO i nn L 2 Pce.row (FillIn v)) := by
 intro i L at' nn ho hn1 hn2
 have hn3 : ¬ i = nn := fun e => hn2 e.symm
 have hn4 : ∀ t : Nat, ¬ nn = (i.1 + 1, t) := fun t e => by rw [e] at hn1; dsimp only at hn1; omega
 have hn5 : ∀ t : Nat, ¬ (i.1 + 1, t) = nn := fun t e => hn4 t e.symm
 have hn6 : ¬ nn = i := hn2
 have i1 : InI 4 := by unfold InI; decide
 obtain ⟨code, h1, h2⟩ := c31_ok
 refine callsA_of T2_ok mixed (N := fun t => if t = 90 then nn else (i.1 + 1, t)) Tryd.func31 h1 h2 r31_ok [i, nn] true (js_two i nn _) (js_two' i nn _) (by simp [Tryd.f31]) ?_
 simp (maxSteps:=500000) only [↓vp, vv, ↓reduceIte, simprocAttr, c31, r31, c31_1, c31_2, c31_3, c31_4, c31_5, hn3, hn4, hn5, hn6, T2, T1, ho]
 rw [vc_loop]
 refine ⟨FoI i nn L v, ⟨v.toNat, _, (weak_own 7 nn 2 (by simp only [↓vp, vv, ↓reduceIte, simprocAttr, ]) (by simp only [↓vp, vv, ↓reduceIte, simprocAttr, hn3, hn4, hn5, hn6])).trans (weak_eqA [] [i, nn] (FoF i nn v 0 0) (by refine ⟨?_, ?_, ?_, by simp, ?_⟩ <;> (simp only [↓vp, vv, ↓reduceIte, simprocAttr, coverS, refsF, FoF, hn3, hn4, hn5, hn6] <;> try rfl))), at', 0, [], v, ho, ⟨by simp, fun p hp => (by cases hp), fun j hj => (by simp at hj), by simp [volS], by omega, fun e => (by simp at e), Int.le_refl _⟩, by omega, rfl⟩, ?_⟩
 rintro k s ⟨at1, g, l, vol, o1, hl, hlk, rfl⟩
 have hlen := hl.len
 have hv0 := hl.v0
 have hvs : vol ≤ 1000000 := by have := hl.le; omega
 by_cases hk : (0 : Int) < vol
 ·have hl2 : l.length < 12 := by
   rcases Nat.lt_or_ge l.length 12 with h | h
   ·exact h
   ·have := hl.fin (by omega); omega
  have hl2' : (l.length : Int) < 12 := by omega
  have w1 : IntKind.i64.wrap (vol * 2) = vol * 2 := wrap_i (by omega)
  have w2 : (vol * 2).tdiv 3 = vol * 2 / 3 := Int.tdiv_eq_ediv_of_nonneg (by omega)
  obtain ⟨q, hq⟩ : ∃ q, vol * 2 / 3 = q := ⟨_, rfl⟩
  have q0 : 0 ≤ q ∧ q ≤ 1000000 := by omega
  have y1 : (l.length + 1) * 16 ≤ 140737488355328 := by omega
  have y2 : l.length + 1 ≤ 4611686018427387904 := by omega
  have w3 : IntKind.i64.wrap q = q := wrap_i (by omega)
  obtain ⟨mm, hmm⟩ : ∃ mm, (if 1 < q then q else 1) = mm := ⟨_, rfl⟩
  have m0 : 1 ≤ mm ∧ mm ≤ 1000000 := by rw [← hmm]; split <;> omega
  have m1 : InI mm := by unfold InI; omega
  have m2 : InI (mm - 1) := by unfold InI; omega
  have m3 : mm - 1 < 9223372036854775807 := by omega
  by_cases h0 : l.length = 0
  ·obtain rfl : l = [] := List.length_eq_zero_iff.1 h0
   simp (maxSteps:=500000) only [↓vp, vv, ↓reduceIte, simprocAttr, c31, r31, c31_1, c31_2, c31_3, c31_4, c31_5, hn3, hn4, hn5, hn6, T2, T1, selI, selRange, i1, m1, m2, m3, o1, FoF, FoH, hk, hl2', w1, w2, w3, hq, hmm, y1, y2, idx_nn, Int.toNat_natCast, List.length_nil]
   intro a2 x hx a3 y hy
   unfold NPost at hx
   unfold RPost at hy
   obtain ⟨z, hz⟩ : ∃ z, (if vol < y then vol else y) = z := ⟨_, rfl⟩
   have z0 : 1 ≤ z ∧ z ≤ vol := by rw [← hz]; split <;> omega
   have wz : IntKind.i64.wrap (vol - z) = vol - z := wrap_i (by omega)
   refine ⟨(vol - z).toNat, ⟨fr (FoF i nn (vol - z) (g + 1) (([] : List Pce) ++ [(⟨x, z⟩ : Pce)]).length), FoH i nn L a3.1 (g + 1) (([] : List Pce) ++ [(⟨x, z⟩ : Pce)])⟩, by omega, ?_, a3.1, g + 1, ([] : List Pce) ++ [(⟨x, z⟩ : Pce)], vol - z, a3.2, fill_next hl (by omega) (by omega) (by omega) (fun h => (by simp at h)) (fun h => (by simp at h)), by omega, rfl⟩
   exact (weak_eqA [] [i, nn] (FoF i nn (vol - z) (g + 1) (([] : List Pce) ++ [(⟨x, z⟩ : Pce)]).length) (by refine ⟨?_, ?_, ?_, by simp, ?_⟩ <;> (simp only [↓vp, vv, ↓reduceIte, simprocAttr, coverS, refsF, FoF, FoH, Pce.row, hn3, hn4, hn5, hn6, wz, hz, List.map_append, List.map_cons, List.map_nil, List.length_append, List.length_cons, List.length_nil] <;> try rfl)))
  have c0 : (0 : Int) < l.length := by omega
  have wl : IntKind.i64.wrap ((l.length : Int) - 1) = ((l.length - 1 : Nat) : Int) := by rw [wrap_i (by omega)]; omega
  have c1 : ((l.length - 1 : Nat) : Int) < l.length := by omega
  have c2 : l.length - 1 < l.length := by omega
  have gl := pc_get c2
  have hlast := hl.at' (pcA l (l.length - 1)) (by rw [← pc_at c2]; exact List.getElem_mem c2)
  by_cases h11 : l.length = 11
  ·have k11 : ((l.length : Int) == 11) = true := by rw [beq_iff_eq]; omega
   simp (maxSteps:=500000) only [↓vp, vv, ↓reduceIte, simprocAttr, c31, r31, c31_1, c31_2, c31_3, c31_4, c31_5, hn3, hn4, hn5, hn6, T2, T1, selI, selRange, i1, m1, m2, m3, o1, FoF, FoH, hk, hl2', w1, w2, w3, hq, hmm, y1, y2, idx_nn, Int.toNat_natCast, c0, wl, c1, c2, gl, k11, Int.lt_irrefl]
   intro a2 x hx a3 y hy
   unfold NPost at hx
   have wz : IntKind.i64.wrap (vol - vol) = vol - vol := wrap_i (by omega)
   have wx : IntKind.i64.wrap (x + 1) = x + 1 := wrap_i (by omega)
   have tx : (x + 1).tmod 4 = (x + 1) % 4 := Int.tmod_eq_emod_of_nonneg (by omega)
   split
   ·rename_i hb
    have hb := eq_of_beq hb
    rw [wx, tx, if_neg (by rw [beq_iff_eq]; omega)]
    refine ⟨(vol - vol).toNat, ⟨fr (FoF i nn (vol - vol) (g + 1) (l ++ [(⟨(x + 1) % 4, vol⟩ : Pce)]).length), FoH i nn L a3.1 (g + 1) (l ++ [(⟨(x + 1) % 4, vol⟩ : Pce)])⟩, by omega, ?_, a3.1, g + 1, l ++ [(⟨(x + 1) % 4, vol⟩ : Pce)], vol - vol, a3.2, fill_next hl (by omega) (by omega) (by omega) (fun h => (by omega)) (by omega), by omega, rfl⟩
    exact (weak_eqA [] [i, nn] (FoF i nn (vol - vol) (g + 1) (l ++ [(⟨(x + 1) % 4, vol⟩ : Pce)]).length) (by refine ⟨?_, ?_, ?_, by simp, ?_⟩ <;> (simp only [↓vp, vv, ↓reduceIte, simprocAttr, coverS, refsF, FoF, FoH, Pce.row, hn3, hn4, hn5, hn6, wz, Int.lt_irrefl, wx, tx, List.map_append, List.map_cons, List.map_nil, List.length_append, List.length_cons, List.length_nil] <;> try rfl)))
   ·rename_i hb
    have hb : (pcA l (l.length - 1)).ba ≠ x := fun e => hb (by rw [e]; exact beq_self_eq_true _)
    refine ⟨(vol - vol).toNat, ⟨fr (FoF i nn (vol - vol) (g + 1) (l ++ [(⟨x, vol⟩ : Pce)]).length), FoH i nn L a3.1 (g + 1) (l ++ [(⟨x, vol⟩ : Pce)])⟩, by omega, ?_, a3.1, g + 1, l ++ [(⟨x, vol⟩ : Pce)], vol - vol, a3.2, fill_next hl (by omega) (by omega) (by omega) (fun h => hb) (by omega), by omega, rfl⟩
    exact (weak_eqA [] [i, nn] (FoF i nn (vol - vol) (g + 1) (l ++ [(⟨x, vol⟩ : Pce)]).length) (by refine ⟨?_, ?_, ?_, by simp, ?_⟩ <;> (simp only [↓vp, vv, ↓reduceIte, simprocAttr, coverS, refsF, FoF, FoH, Pce.row, hn3, hn4, hn5, hn6, wz, Int.lt_irrefl, List.map_append, List.map_cons, List.map_nil, List.length_append, List.length_cons, List.length_nil] <;> try rfl)))
  ·have k11 : ((l.length : Int) == 11) = false := by rw [beq_eq_false_iff_ne]; omega
   simp (maxSteps:=500000) only [↓vp, vv, ↓reduceIte, simprocAttr, c31, r31, c31_1, c31_2, c31_3, c31_4, c31_5, hn3, hn4, hn5, hn6, T2, T1, selI, selRange, i1, m1, m2, m3, o1, FoF, FoH, hk, hl2', w1, w2, w3, hq, hmm, y1, y2, idx_nn, Int.toNat_natCast, c0, wl, c1, c2, gl, k11, Int.lt_irrefl]
   intro a2 x hx a3 y hy
   unfold NPost at hx
   unfold RPost at hy
   obtain ⟨z, hz⟩ : ∃ z, (if vol < y then vol else y) = z := ⟨_, rfl⟩
   have z0 : 1 ≤ z ∧ z ≤ vol := by rw [← hz]; split <;> omega
   have wz : IntKind.i64.wrap (vol - z) = vol - z := wrap_i (by omega)
   have wx : IntKind.i64.wrap (x + 1) = x + 1 := wrap_i (by omega)
   have tx : (x + 1).tmod 4 = (x + 1) % 4 := Int.tmod_eq_emod_of_nonneg (by omega)
   split
   ·rename_i hb
    have hb := eq_of_beq hb
    rw [wx, tx, if_neg (by rw [beq_iff_eq]; omega)]
    refine ⟨(vol - z).toNat, ⟨fr (FoF i nn (vol - z) (g + 1) (l ++ [(⟨(x + 1) % 4, z⟩ : Pce)]).length), FoH i nn L a3.1 (g + 1) (l ++ [(⟨(x + 1) % 4, z⟩ : Pce)])⟩, by omega, ?_, a3.1, g + 1, l ++ [(⟨(x + 1) % 4, z⟩ : Pce)], vol - z, a3.2, fill_next hl (by omega) (by omega) (by omega) (fun h => (by omega)) (by omega), by omega, rfl⟩
    exact (weak_eqA [] [i, nn] (FoF i nn (vol - z) (g + 1) (l ++ [(⟨(x + 1) % 4, z⟩ : Pce)]).length) (by refine ⟨?_, ?_, ?_, by simp, ?_⟩ <;> (simp only [↓vp, vv, ↓reduceIte, simprocAttr, coverS, refsF, FoF, FoH, Pce.row, hn3, hn4, hn5, hn6, wz, hz, wx, tx, List.map_append, List.map_cons, List.map_nil, List.length_append, List.length_cons, List.length_nil] <;> try rfl)))
   ·rename_i hb
    have hb : (pcA l (l.length - 1)).ba ≠ x := fun e => hb (by rw [e]; exact beq_self_eq_true _)
    refine ⟨(vol - z).toNat, ⟨fr (FoF i nn (vol - z) (g + 1) (l ++ [(⟨x, z⟩ : Pce)]).length), FoH i nn L a3.1 (g + 1) (l ++ [(⟨x, z⟩ : Pce)])⟩, by omega, ?_, a3.1, g + 1, l ++ [(⟨x, z⟩ : Pce)], vol - z, a3.2, fill_next hl (by omega) (by omega) (by omega) (fun h => hb) (by omega), by omega, rfl⟩
    exact (weak_eqA [] [i, nn] (FoF i nn (vol - z) (g + 1) (l ++ [(⟨x, z⟩ : Pce)]).length) (by refine ⟨?_, ?_, ?_, by simp, ?_⟩ <;> (simp only [↓vp, vv, ↓reduceIte, simprocAttr, coverS, refsF, FoF, FoH, Pce.row, hn3, hn4, hn5, hn6, wz, hz, List.map_append, List.map_cons, List.map_nil, List.length_append, List.length_cons, List.length_nil] <;> try rfl)))
 ·have hvz : vol = 0 := by omega
  subst hvz
  have tk : (l.map Pce.row).take l.length = l.map Pce.row := List.take_of_length_le (by simp)
  simp (maxSteps:=500000) only [↓vp, vv, ↓reduceIte, simprocAttr, c31, r31, c31_1, c31_2, c31_3, c31_4, c31_5, r31, hn3, hn4, hn5, hn6, T2, T1, o1, FoF, FoH, tk, Int.lt_irrefl]
  exact ⟨fun j hj => rfl, at1, g, l, o1, ⟨hlen, hl.at', hl.nb, by have := hl.sum; omega⟩, rfl, rfl⟩
end Go.Proofs.YtehmmnnmkapfeaaDoor
