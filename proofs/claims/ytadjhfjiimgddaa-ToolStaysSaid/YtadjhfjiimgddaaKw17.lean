/- ToolStays: PkE Ti5 CtG CtO CtE CtR CodePG Pk9 PkA Ti6. -/
import Derived.Test.YtadjhfjiimgddaaKw16
import Derived.Test.YtadjhfjiimgddaaKw13
import Derived.Test.YtadjhfjiimgddaaKw9
import Derived.Test.YtadjhfjiimgddaaKw4
import Derived.Test.YtadjhfjiimgddaaKw3
import Derived.Test.YtadjhfjiimgddaaProg
import Derived.Test.YtadjhfjiimgddaaKw11
set_option linter.unusedSimpArgs false
set_option linter.unusedVariables false
set_option maxRecDepth 100000

/- Inventories of all segments, of both. -/
namespace Go.Proofs.Ytadjhfjiimgddaa
open Go
def fR (f : List Pce) : List D := [.sl (f.map Pce.row)]
def fA (l : List (List Pce)) (j : Nat) : List Pce := l.getD j []
theorem f_get {l : List (List Pce)} {j : Nat} (h : j < l.length) : (l.map fR).getD j [] = [.sl ((fA l j).map Pce.row)] := by
 unfold fA
 rw [List.getD_eq_getElem?_getD, List.getElem?_map, List.getD_eq_getElem?_getD, List.getElem?_eq_getElem h]
 rfl
theorem f_at {l : List (List Pce)} {j : Nat} (h : j < l.length) : l[j] = fA l j := by
 unfold fA
 rw [List.getD_eq_getElem?_getD, List.getElem?_eq_getElem h]
 rfl
def fsOf : List (List D) → Option (List (List Pce))
 | [] => some []
 | [.sl x] :: l => match pcsOf x, fsOf l with
  | some c, some cs => some (c :: cs)
  | _, _ => Option.none
 | _ => Option.none
theorem fsOf_map (l : List (List Pce)) : fsOf (l.map fR) = some l := by
 induction l with
 | nil => rfl
 | cons c l ih =>
  rw [List.map_cons]
  unfold fR at ih ⊢
  rw [fsOf, pcsOf_map, ih]
theorem fsOf_eq : ∀ {l : List (List D)} {cs : List (List Pce)}, fsOf l = some cs → l = cs.map fR
 | [], cs, h => by rw [fsOf] at h; cases h; rfl
 | [.sl x] :: l, cs, h => by
  rw [fsOf] at h
  split at h
  ·rename_i e e'
   cases h
   rw [List.map_cons, ← fsOf_eq e']
   unfold fR
   rw [pcsOf_eq e]
  ·cases h
structure TkOk (n : Net) (p : Pln) (fs : List (List Pce)) (fd : List Int) : Prop where
 ck : fckI n p = 0
 nl : n.nodes.length ≤ 6
 ql : n.ports.length ≤ 6
 fl : fs.length = n.segs.length
 fv : ∀ j, (h : j < n.segs.length) → flV (fA fs j) = true ∧ volW (fA fs j) 0 = (n.segs[j]).cap
 fn : ∀ j, j < n.segs.length → (fA fs j).length ≤ 200
 dl : fd.length = n.ports.length
 dv : ∀ j, j < fd.length → prB2 (iA fd j) = true
theorem TkOk.sl {n p fs fd} (h : TkOk n p fs fd) : n.segs.length ≤ 32 := (fck0 h.ck).net.sl
def K18T : Tbl := tc 97 (rowPu (selNetW (fun _ => True) fun n => di (checkI n))) (tc 76 (rowPu selFv) (tc 77 (rowPu selTo) T0))
theorem K18T_ok : TblOk Try.prog K18T := tc_netw f97_ok (fun n _ nn => rcheck_w n nn) (tc_rfv (tc_rsu (T0_ok _)))
def K8F (n : Net) (fs : List (List Pce)) (j : Int) : List (Nat × D) := [(1, .sl (fs.map fR)), (2, .ptr (0, 2) 0 0 0), (20, di fs.length), (21, di j)]
def K8G (n : Net) (fs : List (List Pce)) (j : Int) : List (Nat × D) := [(1, .sl (fs.map fR)), (2, .ptr (0, 2) 0 0 0), (32, di fs.length), (33, di j)]
def K8H (n : Net) : Hp := Hp.none.put (0, 2) ⟨0, 6, [netD n]⟩
theorem fl_len {l : List Pce} (h : flV l = true) : l.length ≤ 200 := by
 unfold flV at h
 split at h
 ·cases h
 ·omega
set_option maxHeartbeats 8000000 in
theorem check18_c {n : Net} {p : Pln} {fs : List (List Pce)} {fd : List Int} (h : TkOk n p fs fd) (nn : Nm) : CallsA Try.prog 127 [n.enc, .sl (fs.map fR)] Hp.none nn (Pu (di 0) Hp.none) := by
 obtain ⟨code, h1, h2⟩ := c127_ok
 refine callsA_of K18T_ok mixed (N := fun t => (0, t)) Try.func127 h1 h2 r127_ok [] false js_nil js_nil' (by simp [Try.f127]) ?_
 have hn1 := netOf1_x n
 have hc := (fck0 h.ck).ck
 have hl := h.fl
 have hsl := h.sl
 have z1 : ((fs.length : Int) != n.segs.length) = false := by rw [hl]; simp
 simp (maxSteps:=500000) only [↓vp, vv, ↓reduceIte, simprocAttr, c127, r127, c127_1, c127_10, c127_2, c127_3, c127_4, c127_5, c127_6, c127_7, c127_8, c127_9, K18T, selNetW, Net.enc, netD, hn1, hc, bne_self_eq_false, z1]
 refine rng_loop fs.length (fun j => ⟨fr (K8F n fs (j : Nat)), K8H n⟩) (fun _ => True) (weak_eqA [] [(0, 2)] (K8F n fs 0) (by refine ⟨?_, ?_, ?_, by simp, ?_⟩ <;> (simp only [↓vp, vv, ↓reduceIte, simprocAttr, coverS, refsF, K8F, K8H, netD] <;> try rfl))) trivial (fun j hj _ => ?_) (fun _ => ?_)
 ·have hj' : (j : Int) < fs.length := by omega
  have w1 := idx_next (j := j) (by omega)
  have g1 := f_get hj
  obtain ⟨v1, v2⟩ := h.fv j (by omega)
  have v3 : PfOk (fA fs j) := by have := fl_len v1; unfold PfOk; omega
  simp (maxSteps:=500000) only [↓vp, vv, ↓reduceIte, simprocAttr, c127, r127, c127_1, c127_10, c127_2, c127_3, c127_4, c127_5, c127_6, c127_7, c127_8, c127_9, K18T, selFv, selX, decPf, pcsOf_map, K8F, K8H, hj, hj', g1, v1, v3, Int.toNat_natCast, idx_nn]
  refine rng_next hj ?_ trivial
  exact (weak_eqA [] [(0, 2)] (K8F n fs ((j + 1 : Nat) : Int)) (by refine ⟨?_, ?_, ?_, by simp, ?_⟩ <;> (simp only [↓vp, vv, ↓reduceIte, simprocAttr, coverS, refsF, K8F, K8H, netD, w1] <;> try rfl)))
 ·simp (maxSteps:=500000) only [↓vp, vv, ↓reduceIte, simprocAttr, c127, r127, c127_1, c127_10, c127_2, c127_3, c127_4, c127_5, c127_6, c127_7, c127_8, c127_9, K18T, K8F, K8H, Int.lt_irrefl]
  refine rng_loop fs.length (fun j => ⟨fr (K8G n fs (j : Nat)), K8H n⟩) (fun _ => True) (weak_eqA [] [(0, 2)] (K8G n fs 0) (by refine ⟨?_, ?_, ?_, by simp, ?_⟩ <;> (simp only [↓vp, vv, ↓reduceIte, simprocAttr, coverS, refsF, K8G, K8H, netD] <;> try rfl))) trivial (fun j hj _ => ?_) (fun _ => ?_)
  ·have hj' : (j : Int) < fs.length := by omega
   have hjn : (j : Int) < n.segs.length := by omega
   have hjn' : j < n.segs.length := by omega
   have w1 := idx_next (j := j) (by omega)
   have g1 := f_get hj
   have gs := getD_map Seg.row n.segs j hjn'
   obtain ⟨v1, v2⟩ := h.fv j (by omega)
   have v3 : PfOk (fA fs j) := by have := fl_len v1; unfold PfOk; omega
   generalize n.segs[j] = sg at gs v2
   simp (maxSteps:=500000) only [↓vp, vv, ↓reduceIte, simprocAttr, c127, r127, c127_1, c127_10, c127_2, c127_3, c127_4, c127_5, c127_6, c127_7, c127_8, c127_9, K18T, selTo, selX, decPf, pcsOf_map, K8G, K8H, netD, hj, hj', hjn, hjn', g1, gs, Seg.row, v2, v3, bne_self_eq_false, Int.toNat_natCast, idx_nn]
   refine rng_next hj ?_ trivial
   exact (weak_eqA [] [(0, 2)] (K8G n fs ((j + 1 : Nat) : Int)) (by refine ⟨?_, ?_, ?_, by simp, ?_⟩ <;> (simp only [↓vp, vv, ↓reduceIte, simprocAttr, coverS, refsF, K8G, K8H, netD, w1] <;> try rfl)))
  ·simp (maxSteps:=500000) only [↓vp, vv, ↓reduceIte, simprocAttr, c127, r127, c127_1, c127_10, c127_2, c127_3, c127_4, c127_5, c127_6, c127_7, c127_8, c127_9, r127, K18T, K8G, K8H, Int.lt_irrefl, Pu]
structure TkA where
 n : Net
 p : Pln
 fs : List (List Pce)
 fd : List Int
def TkA.enc (a : TkA) : List D := [a.n.enc, .sl (a.fs.map fR), a.p.enc, .sl (a.fd.map iRow)]
def decNF : List D → Option (Net × List (List Pce))
 | [.agg a, .sl x] => (netOf1 a).bind fun n => (fsOf x).map fun f => (n, f)
 | _ => Option.none
theorem decNF_eq : ∀ l a, decNF l = some a → l = [a.1.enc, .sl (a.2.map fR)] := fun l a h => by
 unfold decNF at h
 split at h
 ·obtain ⟨b, hb, h⟩ := Option.bind_eq_some_iff.1 h
  obtain ⟨c, hc, rfl⟩ := Option.map_eq_some_iff.1 h
  rw [netOf1_eq hb, fsOf_eq hc]
  rfl
 ·cases h
def selK8 := selX decNF (fun a => ∃ p fd, TkOk a.1 p a.2 fd) fun _ => di 0
theorem tc_k8 {T : Tbl} (hT : TblOk Try.prog T) : TblOk Try.prog (tc 127 (rowPu selK8) T) := tc_x f127_ok decNF_eq (fun a h nn => by obtain ⟨p, fd, h⟩ := h; exact check18_c h nn) hT
def RdT : Tbl := tc 127 (rowPu selK8) (tc 100 (rowPu (selNP PreP fun n p => di (fckI n p))) (tc 123 (rowPu selPr2) T0))
theorem RdT_ok : TblOk Try.prog RdT := tc_k8 (tc_np f100_ok (fun n p h nn => rchk16_w n p h nn) (tc_pr2 (T0_ok _)))
def RdF (fd : List Int) (j : Int) : List (Nat × D) := [(3, .sl (fd.map iRow)), (31, di fd.length), (32, di j)]
set_option maxHeartbeats 8000000 in
theorem ready_c {n : Net} {p : Pln} {fs : List (List Pce)} {fd : List Int} (h : TkOk n p fs fd) (nn : Nm) : CallsA Try.prog 81 [n.enc, .sl (fs.map fR), p.enc, .sl (fd.map iRow)] Hp.none nn (Pu (di 0) Hp.none) := by
 obtain ⟨code, h1, h2⟩ := c81_ok
 refine callsA_of RdT_ok mixed (N := fun t => (0, t)) Try.func81 h1 h2 r81_ok [] false js_nil js_nil' (by simp [Try.f81]) ?_
 have hn1 := netOf1_x n
 have hp1 := plnOf1_x p
 have hv := fck0 h.ck
 have hq : PreP n p := ⟨by have := hv.rl; have := hv.net.sl; omega, by have := hv.pl; have := hv.net.ql; omega, by have := hv.ul; have := hv.net.tl; omega⟩
 have hc := h.ck
 have he : ∃ p fd, TkOk n p fs fd := ⟨p, fd, h⟩
 have hfs := fsOf_map fs
 have hdl := h.dl
 have hql := h.ql
 have z1 : ((fd.length : Int) != n.ports.length) = false := by rw [hdl]; simp
 simp (maxSteps:=500000) only [↓vp, vv, ↓reduceIte, simprocAttr, c81, r81, c81_1, c81_2, c81_3, c81_4, c81_5, c81_6, c81_7, RdT, selK8, selNP, selX, decNF, Option.bind_some, Option.map_some, Net.enc, netD, Pln.enc, plnD, hn1, hp1, hq, hc, he, hfs, bne_self_eq_false, z1]
 refine rng_loop fd.length (fun j => ⟨fr (RdF fd (j : Nat)), Hp.none⟩) (fun _ => True) (weak0 (by simp only [↓vp, vv, ↓reduceIte, simprocAttr, coverS, RdF]) (by simp only [↓vp, vv, ↓reduceIte, simprocAttr, refsF, RdF])) trivial (fun j hj _ => ?_) (fun _ => ?_)
 ·have hj' : (j : Int) < fd.length := by omega
  have w1 := idx_next (j := j) (by omega)
  have g1 := ir_get hj
  have v1 := h.dv j hj
  simp (maxSteps:=500000) only [↓vp, vv, ↓reduceIte, simprocAttr, c81, r81, c81_1, c81_2, c81_3, c81_4, c81_5, c81_6, c81_7, RdT, selPr2, selX, decI0, tt, RdF, hj, hj', g1, v1, Int.toNat_natCast, idx_nn]
  refine rng_next hj ?_ trivial
  exact (weak_eqA [] [] (RdF fd ((j + 1 : Nat) : Int)) (by refine ⟨?_, ?_, ?_, by simp, ?_⟩ <;> (simp only [↓vp, vv, ↓reduceIte, simprocAttr, coverS, refsF, RdF, w1] <;> try rfl)))
 ·simp (maxSteps:=500000) only [↓vp, vv, ↓reduceIte, simprocAttr, c81, r81, c81_1, c81_2, c81_3, c81_4, c81_5, c81_6, c81_7, r81, RdT, RdF, Int.lt_irrefl, Pu]
def decTk : List D → Option TkA
 | [.agg a, .sl x, .agg b, .sl y] => match netOf1 a, fsOf x, plnOf1 b, intsOf y with
  | some n, some f, some p, some d => some ⟨n, p, f, d⟩
  | _, _, _, _ => Option.none
 | _ => Option.none
theorem decTk_eq : ∀ l a, decTk l = some a → l = a.enc := fun l a h => by
 unfold decTk at h
 split at h
 ·split at h
  ·rename_i e1 e2 e3 e4
   cases h
   unfold TkA.enc
   rw [netOf1_eq e1, fsOf_eq e2, plnOf1_eq e3, intsOf_eq e4]
   rfl
  ·cases h
 ·cases h
def TkA.ok (a : TkA) : Prop := TkOk a.n a.p a.fs a.fd
def selRdy := selX decTk TkA.ok fun _ => di 0
theorem tc_rdy {T : Tbl} (hT : TblOk Try.prog T) : TblOk Try.prog (tc 81 (rowPu selRdy) T) := tc_x f81_ok decTk_eq (fun a h nn => ready_c h nn) hT
def SrcO {α : Type} (i nn : Nm) (L : List (List D)) (sz : Nat) (row : α → List D) (post : List α → Prop) : D → Hp → Prop := fun v H' => ∃ at' g l, SrcOk L at' ∧ post l ∧ v = .own nn g 0 l.length ∧ H' = (Hp.none.put nn ⟨g, sz, l.map row⟩).put i (sE L at')
theorem SrcO_all {α : Type} (i nn : Nm) (L : List (List D)) (sz : Nat) (row : α → List D) (post : List α → Prop) (K : D → Hp → Prop) : (∀ v H', SrcO i nn L sz row post v H' → K v H') = ∀ (at' : SA L) (g : Nat) (l : List α), post l → K (.own nn g 0 l.length) ((Hp.none.put nn ⟨g, sz, l.map row⟩).put i (sE L at'.1)) :=
 propext ⟨fun h at' g l h2 => h _ _ ⟨at'.1, g, l, at'.2, h2, rfl, rfl⟩, fun h v H' ⟨at', g, l, h1, h2, e1, e2⟩ => by rw [e1, e2]; exact h ⟨at', h1⟩ g l h2⟩
theorem js_two (i nn : Nm) (e : En) : ∀ (j : Nm) (x : En), (Hp.none.put i e) j = some x → j ∈ [i, nn] := fun j x h => by
 by_cases hj : j = i
 ·rw [hj]; exact List.mem_cons_self ..
 ·rw [Hp.put_other _ hj] at h; cases h
theorem js_two' (i nn : Nm) (e : En) : ∀ j ∈ [i, nn], ((Hp.none.put i e) j).isSome = true ∨ j = nn := fun j h => by
 rcases List.mem_cons.1 h with h | h
 ·rw [h, Hp.put_same]; exact .inl rfl
 ·exact .inr (List.mem_singleton.1 h)
end Go.Proofs.Ytadjhfjiimgddaa

/- Tickets: the example of the laws. -/
namespace Go.Proofs.Ytadjhfjiimgddaa
open Go
end Go.Proofs.Ytadjhfjiimgddaa
/- Compiled code of some functions (printed by a program), each checked by the kernel. -/
namespace Go.Proofs.Ytadjhfjiimgddaa
open Go
def c26_1 : C := (.seq (.ops false [oM 83 1, oP 84 (.fa 1 (.t 8)), oP 85 (.ld 1 false (.t 84)), oP 86 (.bin .sub (.t 83) (.t 85)), oM 1 86]) (.ops false [oM 87 7, oP 88 (.ld 2 true (.t 8)), oP 89 (.bsl 2 1 [(.v (.int .i64 0)), (.v (.int .i64 0))] [(0, (.t 88))]), oP 90 (.app 2 16 (.t 87) (.t 89)), oM 7 90]))
def c26_2 : C := (.seq (.ops false [oP 31 (.fa 1 (.t 8)), oP 32 (.ld 1 false (.t 31)), oM 33 1, oP 34 (.mnx false (.t 32) (.t 33)), oP 35 (.fa 1 (.t 8)), oS (.st 1 (.t 35) (.t 34))]) (.seq (.seq (.ops true [oM 36 7, oA 37 (.len (.t 36)) [0], oA 38 (.bin .gtr (.t 37) (cI 0)) [0, 1], oA 39 (.mv (.t 38)) [1, 0, 2], oH 40 39 true (.mv (.t 7)) [2, 0, 1, 3], oH 41 39 true (.mv (.t 7)) [2, 0, 1, 3],
 oH 42 39 true (.len (.t 41)) [1, 0, 2, 3, 5], oH 43 39 true (.bin .sub (.t 42) (cI 1)) [5, 2, 0, 1, 3, 6], oH 44 39 true (.iaS 2 (.t 40) (.t 43)) [6, 5, 1, 0, 2, 3, 7, 4], oH 45 39 true (.fa 0 (.t 44)) [4, 7, 2, 0, 1, 5, 6, 3, 8], oH 46 39 true (.ld 1 false (.t 45)) [8, 6, 5, 1, 0, 2, 7, 4, 3, 9], oH 47 39 true (.fa 0 (.t 8)) [2, 0, 1, 3], oH 48 39 true (.ld 1 false (.t 47)) [1, 0, 2, 3, 11],
 oH 49 39 true (.bin .eql (.t 46) (.t 48)) [11, 9, 4, 7, 2, 0, 1, 5, 6, 8, 3, 12, 10], oA 50 (.pick (.t 39) (.t 49) (cB false)) [10, 12, 8, 6, 5, 7, 4, 9, 11, 2, 0, 1, 13, 3]]) (.cond (.t 50) (.seq (.ops false [oP 51 (.fa 0 (.t 8)), oP 52 (.ld 1 false (.t 51)), oP 53 (.bin .add (.t 52) (cI 1)), oM 54 2, oP 55 (.bin .rem (.t 53) (.t 54)), oP 56 (.fa 0 (.t 8)), oS (.st 1 (.t 56) (.t 55))])
 (.seq (.ops true [oM 57 7, oM 58 7, oA 59 (.len (.t 58)) [1], oA 60 (.bin .sub (.t 59) (cI 1)) [1, 2], oA 61 (.iaS 2 (.t 57) (.t 60)) [2, 1, 3, 0], oA 62 (.fa 0 (.t 61)) [0, 3, 1, 2, 4], oA 63 (.ld 1 false (.t 62)) [4, 2, 1, 3, 0, 5], oP 64 (.fa 0 (.t 8)), oA 65 (.ld 1 false (.t 64)) [7], oA 66 (.bin .eql (.t 63) (.t 65)) [7, 5, 0, 3, 1, 2, 4, 8, 6]]) (.cond (.t 66)
 (.seq (.ops true [oM 67 7, oM 68 7, oA 69 (.len (.t 68)) [1], oA 70 (.bin .sub (.t 69) (cI 1)) [1, 2], oA 71 (.iaS 2 (.t 67) (.t 70)) [2, 1, 3, 0], oA 72 (.fa 1 (.t 71)) [0, 3, 1, 2, 4], oA 73 (.ld 1 false (.t 72)) [4, 2, 1, 3, 0, 5], oP 74 (.fa 1 (.t 8)), oA 75 (.ld 1 false (.t 74)) [7], oA 76 (.bin .add (.t 73) (.t 75)) [7, 5, 0, 3, 1, 2, 4, 8, 6], oA 77 (.iaS 2 (.t 67)
 (.t 70)) [9, 8, 7, 6, 5, 4, 2, 1, 3, 0], oA 78 (.fa 1 (.t 77)) [9, 8, 7, 6, 5, 4, 3, 2, 1, 0, 10], oT (.st 1 (.t 78) (.t 76)) [10, 8, 7, 6, 5, 4, 3, 2, 1, 0, 9, 11]]) (.seq (.ops false [oM 79 1, oP 80 (.fa 1 (.t 8)), oP 81 (.ld 1 false (.t 80)), oP 82 (.bin .sub (.t 79) (.t 81)), oM 1 82]) (.exit 1))) .skip))) .skip)) c26_1))
def c26_3 : C := (.block 1 (.seq (.ops false [oM 16 0, oM 17 2, oB 18 (.call 13 [(.t 16), (.t 17)]), oM 19 0, oM 20 1, oP 21 (.bin .mul (.t 20) (cI 2)), oP 22 (.bin .quo (.t 21) (cI 3)), oP 23 (.mnx true (cI 1) (.t 22)), oB 24 (.call 25 [(.t 19), (cI 1), (.t 23)]), oP 25 (.bld [(.v (.int .i64 0)), (.v (.int .i64 0))] [(0, (1, (.t 18))), (1, (1, (.t 24)))]),
 oP 8 (.new [(.v (.int .i64 0)), (.v (.int .i64 0))]), oS (.st 2 (.t 8) (.t 25))]) (.seq (.seq (.ops false [oM 26 7, oP 27 (.len (.t 26)), oP 28 (.bin .eql (.t 27) (cI 11))]) (.cond (.t 28) (.ops false [oM 29 1, oP 30 (.fa 1 (.t 8)), oS (.st 1 (.t 30) (.t 29))]) .skip)) c26_2)))
def c26_4 : C := (.seq (.seq (.ops false [oM 9 1, oP 10 (.bin .gtr (.t 9) (cI 0)), oM 11 10, oG 12 11 true (.mv (.t 7)), oG 13 11 true (.len (.t 12)), oG 14 11 true (.bin .lss (.t 13) (cI 12)), oP 15 (.pick (.t 11) (.t 14) (cB false))]) (.cond (.t 15) .skip (.exit 0))) c26_3)
def c26_5 : C := (.seq (.ops false [oM 91 7, oM 6 91]) .ret)
def c26 : C := (.seq (.ops false [oP 6 (.mv (.c .mt))]) (.seq (.ops false [oP 7 (.mv (.c .mt))]) (.seq (.block 0 (.loop c26_4)) c26_5)))
def r26 : List RV := [(.tmp 6)]
theorem c26_ok : ∃ code, Try.f26.body = some code ∧ compC Try.prog Try.f26.ntmps code = some (C.strip c26) := ⟨_, rfl, by kernel_rfl⟩
theorem r26_ok : compRes Try.prog Try.f26.results.toList = some r26 := by kernel_rfl
theorem f26_ok : fnOk Try.prog 26 = true := by kernel_rfl
def volS (l : List Pce) : Int := (l.map (·.vo)).sum
structure FillP (v : Int) (l : List Pce) (vol : Int) : Prop where
 len : l.length ≤ 12
 at' : ∀ p, p ∈ l → (0 ≤ p.ba ∧ p.ba < 4) ∧ 1 ≤ p.vo
 nb : ∀ j, j + 1 < l.length → (pcA l j).ba ≠ (pcA l (j + 1)).ba
 sum : volS l + vol = v
 v0 : 0 ≤ vol
 fin : l.length = 12 → vol = 0
 le : vol ≤ v
structure FillIn (v : Int) (l : List Pce) : Prop where
 len : l.length ≤ 12
 at' : ∀ p, p ∈ l → (0 ≤ p.ba ∧ p.ba < 4) ∧ 1 ≤ p.vo
 nb : ∀ j, j + 1 < l.length → (pcA l j).ba ≠ (pcA l (j + 1)).ba
 sum : volS l = v
theorem pc_left {l : List Pce} {c : Pce} {j : Nat} (h : j < l.length) : pcA (l ++ [c]) j = pcA l j := by
 unfold pcA
 rw [List.getD_eq_getElem?_getD, List.getD_eq_getElem?_getD, List.getElem?_append_left h]
theorem pc_right (l : List Pce) (c : Pce) : pcA (l ++ [c]) l.length = c := by
 unfold pcA
 rw [List.getD_eq_getElem?_getD, List.getElem?_append_right (Nat.le_refl _), Nat.sub_self]
 rfl
theorem volS_app (l : List Pce) (p : Pce) : volS (l ++ [p]) = volS l + p.vo := by
 unfold volS
 induction l with
 | nil => simp
 | cons y l ih => rw [List.cons_append, List.map_cons, List.map_cons, List.sum_cons, List.sum_cons, ih]; omega
theorem fill_next {v : Int} {l : List Pce} {vol : Int} (h : FillP v l vol) (hl : l.length < 12) {x z : Int} (hx : 0 ≤ x ∧ x < 4) (hz : 1 ≤ z ∧ z ≤ vol) (hn : 0 < l.length → (pcA l (l.length - 1)).ba ≠ x) (he : l.length = 11 → z = vol) : FillP v (l ++ [⟨x, z⟩]) (vol - z) := by
 refine ⟨by simp; omega, fun p hp => ?_, fun j hj => ?_, ?_, by omega, fun e => ?_, by have := h.le; omega⟩
 ·rcases List.mem_append.1 hp with hp | hp
  ·exact h.at' p hp
  ·rw [List.mem_singleton.1 hp]; exact ⟨hx, hz.1⟩
 ·simp only [List.length_append, List.length_cons, List.length_nil] at hj
  by_cases hjl : j + 1 < l.length
  ·rw [pc_left hjl, pc_left (by omega)]; exact h.nb j hjl
  ·have e : l.length = j + 1 := by omega
   have hr := pc_right l ⟨x, z⟩
   rw [e] at hr
   rw [hr, pc_left (by omega)]
   have := hn (by omega)
   rw [e, Nat.add_sub_cancel] at this
   exact this
 ·rw [volS_app]; have := h.sum; dsimp only; omega
 ·simp only [List.length_append, List.length_cons, List.length_nil] at e
  have := he (by omega)
  omega
theorem mod_next {K x : Int} (hK : 2 ≤ K ∧ K ≤ 4) (hx : 0 ≤ x ∧ x < K) : ∃ u, (x + 1).tmod K = u ∧ (0 ≤ u ∧ u < K) ∧ u ≠ x := by
 refine ⟨_, rfl, ?_⟩
 rw [Int.tmod_eq_emod_of_nonneg (by omega)]
 by_cases h : x + 1 = K
 ·rw [h, Int.emod_self]; omega
 ·rw [Int.emod_eq_of_lt (by omega) (by omega)]; omega
def FilF (K : Int) (i nn : Nm) (vol : Int) (g m : Nat) : List (Nat × D) := [(0, .ptr i 0 0 0), (1, di vol), (2, di K), (7, .own nn g 0 m)]
def FilH (i nn : Nm) (L : List (List D)) (at' : Int) (g : Nat) (l : List Pce) : Hp := (Hp.none.put nn ⟨g, 2, l.map Pce.row⟩).put i (sE L at')
def FilI (K : Int) (i nn : Nm) (L : List (List D)) (v : Int) (k : Nat) (s : St) : Prop := ∃ at' g l vol, SrcOk L at' ∧ FillP v l vol ∧ (k : Int) = vol ∧ s = ⟨fr (FilF K i nn vol g l.length), FilH i nn L at' g l⟩
set_option maxHeartbeats 16000000 in
theorem Fill_o (K : Int) (hK : 2 ≤ K ∧ K ≤ 4) (v : Int) (hv : 1 ≤ v ∧ v ≤ 1000000) : ∀ i L at' nn, SrcOk L at' → nn.1 ≤ i.1 → nn ≠ i → CallsA Try.prog 26 [.ptr i 0 0 0, di v, di K] (Hp.none.put i (sE L at')) nn (SrcO i nn L 2 Pce.row (FillIn v)) := by
 intro i L at' nn ho hn1 hn2
 have hn3 : ¬ i = nn := fun e => hn2 e.symm
 have hn4 : ∀ t : Nat, ¬ nn = (i.1 + 1, t) := fun t e => by rw [e] at hn1; dsimp only at hn1; omega
 have hn5 : ∀ t : Nat, ¬ (i.1 + 1, t) = nn := fun t e => hn4 t e.symm
 have hn6 : ¬ nn = i := hn2
 have i1 : InI K := by unfold InI; omega
 have k0 : ¬ K = 0 := by omega
 have k0' : (K == 0) = false := by simp; omega
 obtain ⟨code, h1, h2⟩ := c26_ok
 refine callsA_of T2_ok mixed (N := fun t => if t = 90 then nn else (i.1 + 1, t)) Try.func26 h1 h2 r26_ok [i, nn] true (js_two i nn _) (js_two' i nn _) (by simp [Try.f26]) ?_
 simp (maxSteps:=500000) only [↓vp, vv, ↓reduceIte, simprocAttr, c26, r26, c26_1, c26_2, c26_3, c26_4, c26_5, k0, k0', hn3, hn4, hn5, hn6, T2, T1, ho]
 rw [vc_loop]
 refine ⟨FilI K i nn L v, ⟨v.toNat, _, (weak_own 7 nn 2 (by simp only [↓vp, vv, ↓reduceIte, simprocAttr, ]) (by simp only [↓vp, vv, ↓reduceIte, simprocAttr, hn3, hn4, hn5, hn6])).trans (weak_eqA [] [i, nn] (FilF K i nn v 0 0) (by refine ⟨?_, ?_, ?_, by simp, ?_⟩ <;> (simp only [↓vp, vv, ↓reduceIte, simprocAttr, coverS, refsF, FilF, hn3, hn4, hn5, hn6] <;> try rfl))), at', 0, [], v, ho, ⟨by simp, fun p hp => (by cases hp), fun j hj => (by simp at hj), by simp [volS], by omega, fun e => (by simp at e), Int.le_refl _⟩, by omega, rfl⟩, ?_⟩
 rintro k s ⟨at1, g, l, vol, o1, hl, hlk, rfl⟩
 have hlen := hl.len
 have hv0 := hl.v0
 have hvs : vol ≤ 1000000 := by have := hl.le; omega
 by_cases hk : (0 : Int) < vol
 ·have hl2 : l.length < 12 := by
   rcases Nat.lt_or_ge l.length 12 with h | h
   ·exact h
   ·have := hl.fin (by omega); omega
  have hl2' : (l.length : Int) < 12 := by omega
  have w1 : IntKind.i64.wrap (vol * 2) = vol * 2 := wrap_i (by omega)
  have w2 : (vol * 2).tdiv 3 = vol * 2 / 3 := Int.tdiv_eq_ediv_of_nonneg (by omega)
  obtain ⟨q, hq⟩ : ∃ q, vol * 2 / 3 = q := ⟨_, rfl⟩
  have q0 : 0 ≤ q ∧ q ≤ 1000000 := by omega
  have y1 : (l.length + 1) * 16 ≤ 140737488355328 := by omega
  have y2 : l.length + 1 ≤ 4611686018427387904 := by omega
  have w3 : IntKind.i64.wrap q = q := wrap_i (by omega)
  obtain ⟨mm, hmm⟩ : ∃ mm, (if 1 < q then q else 1) = mm := ⟨_, rfl⟩
  have m0 : 1 ≤ mm ∧ mm ≤ 1000000 := by rw [← hmm]; split <;> omega
  have m1 : InI mm := by unfold InI; omega
  have m2 : InI (mm - 1) := by unfold InI; omega
  have m3 : mm - 1 < 9223372036854775807 := by omega
  by_cases h0 : l.length = 0
  ·obtain rfl : l = [] := List.length_eq_zero_iff.1 h0
   simp (maxSteps:=500000) only [↓vp, vv, ↓reduceIte, simprocAttr, c26, r26, c26_1, c26_2, c26_3, c26_4, c26_5, k0, k0', hn3, hn4, hn5, hn6, T2, T1, selI, selRange, i1, m1, m2, m3, o1, FilF, FilH, hk, hl2', w1, w2, w3, hq, hmm, y1, y2, idx_nn, Int.toNat_natCast, List.length_nil]
   intro a2 x hx a3 y hy
   unfold NPost at hx
   unfold RPost at hy
   obtain ⟨z, hz⟩ : ∃ z, (if vol < y then vol else y) = z := ⟨_, rfl⟩
   have z0 : 1 ≤ z ∧ z ≤ vol := by rw [← hz]; split <;> omega
   have wz : IntKind.i64.wrap (vol - z) = vol - z := wrap_i (by omega)
   refine ⟨(vol - z).toNat, ⟨fr (FilF K i nn (vol - z) (g + 1) (([] : List Pce) ++ [(⟨x, z⟩ : Pce)]).length), FilH i nn L a3.1 (g + 1) (([] : List Pce) ++ [(⟨x, z⟩ : Pce)])⟩, by omega, ?_, a3.1, g + 1, ([] : List Pce) ++ [(⟨x, z⟩ : Pce)], vol - z, a3.2, fill_next hl (by omega) (by omega) (by omega) (fun h => (by simp at h)) (fun h => (by simp at h)), by omega, rfl⟩
   exact (weak_eqA [] [i, nn] (FilF K i nn (vol - z) (g + 1) (([] : List Pce) ++ [(⟨x, z⟩ : Pce)]).length) (by refine ⟨?_, ?_, ?_, by simp, ?_⟩ <;> (simp only [↓vp, vv, ↓reduceIte, simprocAttr, coverS, refsF, FilF, FilH, Pce.row, hn3, hn4, hn5, hn6, wz, hz, List.map_append, List.map_cons, List.map_nil, List.length_append, List.length_cons, List.length_nil] <;> try rfl)))
  have c0 : (0 : Int) < l.length := by omega
  have wl : IntKind.i64.wrap ((l.length : Int) - 1) = ((l.length - 1 : Nat) : Int) := by rw [wrap_i (by omega)]; omega
  have c1 : ((l.length - 1 : Nat) : Int) < l.length := by omega
  have c2 : l.length - 1 < l.length := by omega
  have gl := pc_get c2
  have hlast := hl.at' (pcA l (l.length - 1)) (by rw [← pc_at c2]; exact List.getElem_mem c2)
  by_cases h11 : l.length = 11
  ·have k11 : ((l.length : Int) == 11) = true := by rw [beq_iff_eq]; omega
   simp (maxSteps:=500000) only [↓vp, vv, ↓reduceIte, simprocAttr, c26, r26, c26_1, c26_2, c26_3, c26_4, c26_5, k0, k0', hn3, hn4, hn5, hn6, T2, T1, selI, selRange, i1, m1, m2, m3, o1, FilF, FilH, hk, hl2', w1, w2, w3, hq, hmm, y1, y2, idx_nn, Int.toNat_natCast, c0, wl, c1, c2, gl, k11, Int.lt_irrefl]
   intro a2 x hx a3 y hy
   unfold NPost at hx
   have wz : IntKind.i64.wrap (vol - vol) = vol - vol := wrap_i (by omega)
   have wx : IntKind.i64.wrap (x + 1) = x + 1 := wrap_i (by omega)
   obtain ⟨u, hu, u1, u2⟩ := mod_next hK ⟨hx.1, hx.2.1 (by omega)⟩
   have tx : (x + 1).tmod K = u := hu
   split
   ·rename_i hb
    have hb := eq_of_beq hb
    rw [wx, tx, if_neg (by rw [beq_iff_eq]; omega)]
    refine ⟨(vol - vol).toNat, ⟨fr (FilF K i nn (vol - vol) (g + 1) (l ++ [(⟨u, vol⟩ : Pce)]).length), FilH i nn L a3.1 (g + 1) (l ++ [(⟨u, vol⟩ : Pce)])⟩, by omega, ?_, a3.1, g + 1, l ++ [(⟨u, vol⟩ : Pce)], vol - vol, a3.2, fill_next hl (by omega) (by omega) (by omega) (fun h => (by omega)) (by omega), by omega, rfl⟩
    exact (weak_eqA [] [i, nn] (FilF K i nn (vol - vol) (g + 1) (l ++ [(⟨u, vol⟩ : Pce)]).length) (by refine ⟨?_, ?_, ?_, by simp, ?_⟩ <;> (simp only [↓vp, vv, ↓reduceIte, simprocAttr, coverS, refsF, FilF, FilH, Pce.row, hn3, hn4, hn5, hn6, wz, Int.lt_irrefl, wx, tx, List.map_append, List.map_cons, List.map_nil, List.length_append, List.length_cons, List.length_nil] <;> try rfl)))
   ·rename_i hb
    have hb : (pcA l (l.length - 1)).ba ≠ x := fun e => hb (by rw [e]; exact beq_self_eq_true _)
    refine ⟨(vol - vol).toNat, ⟨fr (FilF K i nn (vol - vol) (g + 1) (l ++ [(⟨x, vol⟩ : Pce)]).length), FilH i nn L a3.1 (g + 1) (l ++ [(⟨x, vol⟩ : Pce)])⟩, by omega, ?_, a3.1, g + 1, l ++ [(⟨x, vol⟩ : Pce)], vol - vol, a3.2, fill_next hl (by omega) (by omega) (by omega) (fun h => hb) (by omega), by omega, rfl⟩
    exact (weak_eqA [] [i, nn] (FilF K i nn (vol - vol) (g + 1) (l ++ [(⟨x, vol⟩ : Pce)]).length) (by refine ⟨?_, ?_, ?_, by simp, ?_⟩ <;> (simp only [↓vp, vv, ↓reduceIte, simprocAttr, coverS, refsF, FilF, FilH, Pce.row, hn3, hn4, hn5, hn6, wz, Int.lt_irrefl, List.map_append, List.map_cons, List.map_nil, List.length_append, List.length_cons, List.length_nil] <;> try rfl)))
  ·have k11 : ((l.length : Int) == 11) = false := by rw [beq_eq_false_iff_ne]; omega
   simp (maxSteps:=500000) only [↓vp, vv, ↓reduceIte, simprocAttr, c26, r26, c26_1, c26_2, c26_3, c26_4, c26_5, k0, k0', hn3, hn4, hn5, hn6, T2, T1, selI, selRange, i1, m1, m2, m3, o1, FilF, FilH, hk, hl2', w1, w2, w3, hq, hmm, y1, y2, idx_nn, Int.toNat_natCast, c0, wl, c1, c2, gl, k11, Int.lt_irrefl]
   intro a2 x hx a3 y hy
   unfold NPost at hx
   unfold RPost at hy
   obtain ⟨z, hz⟩ : ∃ z, (if vol < y then vol else y) = z := ⟨_, rfl⟩
   have z0 : 1 ≤ z ∧ z ≤ vol := by rw [← hz]; split <;> omega
   have wz : IntKind.i64.wrap (vol - z) = vol - z := wrap_i (by omega)
   have wx : IntKind.i64.wrap (x + 1) = x + 1 := wrap_i (by omega)
   obtain ⟨u, hu, u1, u2⟩ := mod_next hK ⟨hx.1, hx.2.1 (by omega)⟩
   have tx : (x + 1).tmod K = u := hu
   split
   ·rename_i hb
    have hb := eq_of_beq hb
    rw [wx, tx, if_neg (by rw [beq_iff_eq]; omega)]
    refine ⟨(vol - z).toNat, ⟨fr (FilF K i nn (vol - z) (g + 1) (l ++ [(⟨u, z⟩ : Pce)]).length), FilH i nn L a3.1 (g + 1) (l ++ [(⟨u, z⟩ : Pce)])⟩, by omega, ?_, a3.1, g + 1, l ++ [(⟨u, z⟩ : Pce)], vol - z, a3.2, fill_next hl (by omega) (by omega) (by omega) (fun h => (by omega)) (by omega), by omega, rfl⟩
    exact (weak_eqA [] [i, nn] (FilF K i nn (vol - z) (g + 1) (l ++ [(⟨u, z⟩ : Pce)]).length) (by refine ⟨?_, ?_, ?_, by simp, ?_⟩ <;> (simp only [↓vp, vv, ↓reduceIte, simprocAttr, coverS, refsF, FilF, FilH, Pce.row, hn3, hn4, hn5, hn6, wz, hz, wx, tx, List.map_append, List.map_cons, List.map_nil, List.length_append, List.length_cons, List.length_nil] <;> try rfl)))
   ·rename_i hb
    have hb : (pcA l (l.length - 1)).ba ≠ x := fun e => hb (by rw [e]; exact beq_self_eq_true _)
    refine ⟨(vol - z).toNat, ⟨fr (FilF K i nn (vol - z) (g + 1) (l ++ [(⟨x, z⟩ : Pce)]).length), FilH i nn L a3.1 (g + 1) (l ++ [(⟨x, z⟩ : Pce)])⟩, by omega, ?_, a3.1, g + 1, l ++ [(⟨x, z⟩ : Pce)], vol - z, a3.2, fill_next hl (by omega) (by omega) (by omega) (fun h => hb) (by omega), by omega, rfl⟩
    exact (weak_eqA [] [i, nn] (FilF K i nn (vol - z) (g + 1) (l ++ [(⟨x, z⟩ : Pce)]).length) (by refine ⟨?_, ?_, ?_, by simp, ?_⟩ <;> (simp only [↓vp, vv, ↓reduceIte, simprocAttr, coverS, refsF, FilF, FilH, Pce.row, hn3, hn4, hn5, hn6, wz, hz, List.map_append, List.map_cons, List.map_nil, List.length_append, List.length_cons, List.length_nil] <;> try rfl)))
 ·have hvz : vol = 0 := by omega
  subst hvz
  have tk : (l.map Pce.row).take l.length = l.map Pce.row := List.take_of_length_le (by simp)
  simp (maxSteps:=500000) only [↓vp, vv, ↓reduceIte, simprocAttr, c26, r26, c26_1, c26_2, c26_3, c26_4, c26_5, r26, hn3, hn4, hn5, hn6, T2, T1, o1, FilF, FilH, tk, Int.lt_irrefl]
  exact ⟨fun j hj => rfl, at1, g, l, o1, ⟨hlen, hl.at', hl.nb, by have := hl.sum; omega⟩, rfl, rfl⟩
def rowFlO : List D → Hp → Nm → Option (Prop × (D → Hp → Prop)) := fun args Hs nn =>
 match args with
 | [.ptr i g r c, .v (.int .i64 v), .v (.int .i64 n)] =>
  match Hs i with
  | some ⟨_, _, [[.sl L, .v (.int .i64 at')]]⟩ => some ((Hs = Hp.none.put i (sE L at') ∧ g = 0 ∧ r = 0 ∧ c = 0) ∧ SrcOk L at' ∧ (nn.1 ≤ i.1 ∧ nn ≠ i) ∧ (1 ≤ v ∧ v ≤ 1000000) ∧ 2 ≤ n ∧ n ≤ 4, SrcO i nn L 2 Pce.row (FillIn v))
  | _ => Option.none
 | _ => Option.none
theorem fill_ex {v : Int} (h : 1 ≤ v) : FillIn v [⟨0, v⟩] := ⟨by simp, fun p hp => by
 rw [List.mem_singleton.1 hp]
 exact ⟨⟨Int.le_refl _, by dsimp only; omega⟩, h⟩, fun j hj => by simp at hj, by simp [volS]⟩
theorem tc_flO {T : Tbl} (hT : TblOk Try.prog T) : TblOk Try.prog (tc 26 rowFlO T) :=
 tc_row f26_ok (fun args Hs nn pre R hr hp => by
  unfold rowFlO at hr
  split at hr
  ·split at hr
   ·cases hr
    obtain ⟨⟨h1, rfl, rfl, rfl⟩, h2, h3, h4, h5⟩ := hp
    rw [h1]
    exact ⟨⟨_, _, _, 0, _, h2, fill_ex h4.1, rfl, rfl⟩, Fill_o _ h5 _ h4 _ _ _ _ h2 h3.1 h3.2⟩
   ·cases hr
  ·cases hr) hT
/-! ### what holds of them -/
theorem volW_in : ∀ (l : List Pce) (s : Int), (∀ p, p ∈ l → 1 ≤ p.vo) → 0 ≤ s → s + volS l ≤ 1000000000000 → volW l s = s + volS l ∧ 0 ≤ volS l
 | [], s, _, _, _ => by simp [volW, volS]
 | p :: l, s, h, h0, h1 => by
  have hp := h p (List.mem_cons_self ..)
  have e : volS (p :: l) = p.vo + volS l := by unfold volS; rw [List.map_cons, List.sum_cons]
  have nn : ∀ l : List Pce, (∀ p, p ∈ l → 1 ≤ p.vo) → 0 ≤ volS l := fun l => by
   induction l with
   | nil => intro _; simp [volS]
   | cons q l ih =>
    intro h
    have := ih (fun x hx => h x (List.mem_cons_of_mem _ hx))
    have hq := h q (List.mem_cons_self ..)
    unfold volS at this ⊢
    rw [List.map_cons, List.sum_cons]
    omega
  have n0 := nn l (fun x hx => h x (List.mem_cons_of_mem _ hx))
  rw [e] at h1 ⊢
  rw [volW, wrap_i (by omega)]
  have := volW_in l (s + p.vo) (fun x hx => h x (List.mem_cons_of_mem _ hx)) (by omega) (by omega)
  omega
theorem volS_nil : volS [] = 0 := rfl
theorem volS_cons (p : Pce) (l : List Pce) : volS (p :: l) = p.vo + volS l := by unfold volS; rw [List.map_cons, List.sum_cons]
theorem volS_append (a b : List Pce) : volS (a ++ b) = volS a + volS b := by
 induction a with
 | nil => simp [volS_nil]
 | cons p a ih => rw [List.cons_append, volS_cons, volS_cons, ih]; omega
def PcR (M : Int) (l : List Pce) : Prop := ∀ p, p ∈ l → (0 ≤ p.ba ∧ p.ba < M) ∧ 0 ≤ p.vo
def PcP (M : Int) (l : List Pce) : Prop := ∀ p, p ∈ l → (0 ≤ p.ba ∧ p.ba < M) ∧ 1 ≤ p.vo
def PcN (l : List Pce) : Prop := ∀ j, j + 1 < l.length → (pcA l j).ba ≠ (pcA l (j + 1)).ba
theorem PcP.r {M : Int} {l : List Pce} (h : PcP M l) : PcR M l := fun p hp => by have := h p hp; exact ⟨this.1, by omega⟩
theorem PcR.nil (M : Int) : PcR M [] := fun p hp => by cases hp
theorem PcP.nil (M : Int) : PcP M [] := fun p hp => by cases hp
theorem PcR.app {M : Int} {a b : List Pce} (h : PcR M a) (k : PcR M b) : PcR M (a ++ b) := fun p hp => (List.mem_append.1 hp).elim (h p) (k p)
theorem PcP.app {M : Int} {a b : List Pce} (h : PcP M a) (k : PcP M b) : PcP M (a ++ b) := fun p hp => (List.mem_append.1 hp).elim (h p) (k p)
theorem PcR.one {M : Int} {p : Pce} (h : (0 ≤ p.ba ∧ p.ba < M) ∧ 0 ≤ p.vo) : PcR M [p] := fun q hq => by rw [List.mem_singleton.1 hq]; exact h
theorem PcP.one {M : Int} {p : Pce} (h : (0 ≤ p.ba ∧ p.ba < M) ∧ 1 ≤ p.vo) : PcP M [p] := fun q hq => by rw [List.mem_singleton.1 hq]; exact h
theorem PcR.tail {M : Int} {p : Pce} {l : List Pce} (h : PcR M (p :: l)) : PcR M l := fun q hq => h q (List.mem_cons_of_mem _ hq)
theorem PcP.tail {M : Int} {p : Pce} {l : List Pce} (h : PcP M (p :: l)) : PcP M l := fun q hq => h q (List.mem_cons_of_mem _ hq)
theorem PcR.nn {M : Int} : ∀ {l : List Pce}, PcR M l → 0 ≤ volS l
 | [], _ => by rw [volS_nil]; exact Int.le_refl _
 | p :: l, h => by
  have := h.tail.nn
  have := (h p (List.mem_cons_self ..)).2
  rw [volS_cons]; omega
theorem PcR.le {M : Int} : ∀ {l : List Pce}, PcR M l → ∀ p, p ∈ l → p.vo ≤ volS l
 | q :: l, h, p, hp => by
  have n0 := h.tail.nn
  have n1 := (h q (List.mem_cons_self ..)).2
  rw [volS_cons]
  rcases List.mem_cons.1 hp with rfl | hp
  ·omega
  ·have := h.tail.le p hp; omega
theorem PcP.len {M : Int} : ∀ {l : List Pce}, PcP M l → (l.length : Int) ≤ volS l
 | [], _ => by rw [volS_nil]; simp
 | p :: l, h => by
  have := h.tail.len
  have := (h p (List.mem_cons_self ..)).2
  rw [volS_cons, List.length_cons]; omega
theorem PcP.w {M : Int} {l : List Pce} (h : PcP M l) (hb : volS l ≤ 1000000000000) : volW l 0 = volS l := by
 have := (volW_in l 0 (fun p hp => (h p hp).2) (Int.le_refl _) (by omega)).1
 rw [this]; omega
theorem pc_in {l : List Pce} {j : Nat} (h : j < l.length) : pcA l j ∈ l := by rw [← pc_at h]; exact List.getElem_mem h
theorem jn1_spec {M : Int} {out : List Pce} {p : Pce} (h : PcP M out) (hn : PcN out) (hp : (0 ≤ p.ba ∧ p.ba < M) ∧ 0 ≤ p.vo) (hb : volS out + p.vo ≤ 1000000000000) : (PcP M (jn1 out p) ∧ PcN (jn1 out p)) ∧ volS (jn1 out p) = volS out + p.vo := by
 unfold jn1
 by_cases c : p.vo = 0
 ·rw [if_pos (by simp [c])]
  exact ⟨⟨h, hn⟩, by omega⟩
 ·rw [if_neg (by simp [c])]
  rcases List.eq_nil_or_concat out with rfl | ⟨L, q, e⟩
  ·rw [if_neg (by simp)]
   exact ⟨⟨PcP.one ⟨hp.1, by omega⟩, fun j hj => by simp at hj⟩, by rw [List.nil_append, volS_cons, volS_nil]; omega⟩
  ·rw [List.concat_eq_append] at e
   subst e
   have el : (L ++ [q]).length - 1 = L.length := by simp
   rw [el, pc_right]
   have hL : PcP M L := fun x hx => h x (List.mem_append_left _ hx)
   have hq := h q (List.mem_append_right _ (List.mem_singleton_self _))
   have n0 := hL.r.nn
   rw [volS_append, volS_cons, volS_nil] at hb
   by_cases e : q.ba = p.ba
   ·rw [if_pos (by simp [e]), wrap_i (by omega), List.set_append_right _ _ (Nat.le_refl _), Nat.sub_self, List.set_cons_zero]
    refine ⟨⟨hL.app (PcP.one ⟨hq.1, by dsimp only; omega⟩), fun j hj => ?_⟩, by rw [volS_append, volS_append, volS_cons, volS_cons, volS_nil]; dsimp only; omega⟩
    have k := hn j (by simpa using hj)
    rw [List.length_append, List.length_singleton] at hj
    rw [pc_left (c := q) (by omega)] at k
    rw [pc_left (by omega)]
    by_cases f : j + 1 < L.length
    ·rw [pc_left f] at k ⊢; exact k
    ·rw [show j + 1 = L.length by omega, pc_right] at k ⊢; exact k
   ·rw [if_neg (by simp [e])]
    refine ⟨⟨h.app (PcP.one ⟨hp.1, by omega⟩), fun j hj => ?_⟩, by rw [volS_append, volS_append, volS_cons, volS_nil, volS_cons, volS_nil]; omega⟩
    rw [List.length_append, List.length_singleton] at hj
    by_cases f : j + 1 < (L ++ [q]).length
    ·have k := hn j f
     rw [pc_left (by omega), pc_left f]
     exact k
    ·have hl : (L ++ [q]).length = L.length + 1 := by simp
     rw [show j + 1 = (L ++ [q]).length by omega, pc_right, pc_left (by omega), show j = L.length by omega, pc_right]
     exact e
theorem foldl_jn1 {M : Int} : ∀ (l out : List Pce), PcR M l → PcP M out → PcN out → volS out + volS l ≤ 1000000000000 → (PcP M (l.foldl jn1 out) ∧ PcN (l.foldl jn1 out)) ∧ volS (l.foldl jn1 out) = volS out + volS l
 | [], out, _, h, hn, _ => ⟨⟨h, hn⟩, by simp [volS_nil]⟩
 | p :: l, out, hl, h, hn, hb => by
  have hp := hl p (List.mem_cons_self ..)
  have n0 := hl.tail.nn
  rw [volS_cons] at hb ⊢
  obtain ⟨⟨a, b⟩, c⟩ := jn1_spec h hn hp (by omega)
  obtain ⟨d, e⟩ := foldl_jn1 l (jn1 out p) hl.tail a b (by omega)
  exact ⟨d, by rw [List.foldl_cons, e, c]; omega⟩
theorem joined_spec {M : Int} {l : List Pce} (h : PcR M l) (hb : volS l ≤ 1000000000000) : (PcP M (joined l) ∧ PcN (joined l)) ∧ volS (joined l) = volS l := by
 obtain ⟨a, b⟩ := foldl_jn1 l [] h (PcP.nil M) (fun j hj => by simp at hj) (by rw [volS_nil]; omega)
 exact ⟨a, by unfold joined; rw [b, volS_nil]; omega⟩
theorem spl_spec {M : Int} : ∀ (l : List Pce) (n : Int), PcR M l → 0 ≤ n → n ≤ 1000000000000 → volS l ≤ 1000000000000 → (PcR M (spl l n).1 ∧ PcR M (spl l n).2) ∧ volS (spl l n).1 = (if volS l < n then volS l else n) ∧ volS (spl l n).1 + volS (spl l n).2 = volS l
 | [], n, _, h0, _, _ => ⟨⟨PcR.nil M, PcR.nil M⟩, by simp only [spl, volS_nil]; omega, by simp only [spl, volS_nil]; omega⟩
 | p :: l, n, h, h0, h1, hb => by
  have hp := h p (List.mem_cons_self ..)
  have n0 := h.tail.nn
  rw [volS_cons] at hb
  have hk : ∃ k, (if p.vo < n then p.vo else n) = k ∧ 0 ≤ k ∧ k ≤ n ∧ k ≤ p.vo ∧ (k = p.vo ∨ k = n) := ⟨_, rfl, by split <;> omega⟩
  obtain ⟨k, e, k0, k1, k2, k3⟩ := hk
  rw [spl]
  dsimp only
  rw [e, wrap_i (by omega), wrap_i (by omega)]
  obtain ⟨⟨a, b⟩, c, d⟩ := spl_spec l (n - k) h.tail (by omega) (by omega) (by omega)
  refine ⟨⟨fun x hx => ?_, fun x hx => ?_⟩, ?_, ?_⟩
  ·rcases List.mem_cons.1 hx with rfl | hx
   ·exact ⟨hp.1, k0⟩
   ·exact a x hx
  ·rcases List.mem_cons.1 hx with rfl | hx
   ·exact ⟨hp.1, by dsimp only; omega⟩
   ·exact b x hx
  ·rw [volS_cons, volS_cons, c]
   dsimp only
   split <;> split <;> omega
  ·rw [volS_cons, volS_cons, volS_cons]
   dsimp only
   omega
theorem shift_spec {M : Int} {f i : List Pce} (hf : PcP M f) (hi : PcP M i) (b : Bool) (h1 : volS f ≤ 1000000000) (h2 : volS i ≤ 1000000000) :
  ((PcP M (shiftL f i b).1 ∧ PcN (shiftL f i b).1) ∧ volS (shiftL f i b).1 = volS f) ∧ PcP M (shiftL f i b).2 ∧ volS (shiftL f i b).2 = volS i := by
 have n1 := hf.r.nn
 have n2 := hi.r.nn
 unfold shiftL
 rw [hf.w (by omega), hi.w (by omega)]
 cases b with
 | true =>
  obtain ⟨⟨a, b⟩, c, d⟩ := spl_spec (f ++ i) (volS i) (hf.r.app hi.r) n2 (by omega) (by rw [volS_append]; omega)
  rw [volS_append] at c d
  have n3 := a.nn
  have n4 := b.nn
  rw [if_neg (by omega)] at c
  obtain ⟨e1, e2⟩ := joined_spec a (by omega)
  obtain ⟨e3, e4⟩ := joined_spec b (by omega)
  exact ⟨⟨e3, by rw [if_pos rfl]; dsimp only; omega⟩, e1.1, by rw [if_pos rfl]; dsimp only; omega⟩
 | false =>
  obtain ⟨⟨a, b⟩, c, d⟩ := spl_spec (i ++ f) (volS f) (hi.r.app hf.r) n1 (by omega) (by rw [volS_append]; omega)
  rw [volS_append] at c d
  have n3 := a.nn
  have n4 := b.nn
  rw [if_neg (by omega)] at c
  obtain ⟨e1, e2⟩ := joined_spec a (by omega)
  obtain ⟨e3, e4⟩ := joined_spec b (by omega)
  exact ⟨⟨e1, by rw [if_neg (by decide)]; dsimp only; omega⟩, e3.1, by rw [if_neg (by decide)]; dsimp only; omega⟩
theorem PcP.rev {M : Int} {l : List Pce} (h : PcP M l) : PcP M l.reverse := fun p hp => h p (List.mem_reverse.1 hp)
theorem volS_rev (l : List Pce) : volS l.reverse = volS l := by
 induction l with
 | nil => rfl
 | cons p l ih => rw [List.reverse_cons, volS_append, volS_cons, volS_cons, volS_nil, ih]; omega
/-! ### dealing -/
theorem sumA_set : ∀ (l : List Int) (i : Nat) (v : Int), i < l.length → (l.set i v).sum = l.sum - iA l i + v
 | x :: l, 0, v, _ => by rw [List.set_cons_zero, List.sum_cons, List.sum_cons]; show _ = _ - x + v; omega
 | x :: l, i + 1, v, h => by
  have := sumA_set l i v (by simpa using h)
  have e : iA (x :: l) (i + 1) = iA l i := rfl
  rw [List.set_cons_succ, List.sum_cons, List.sum_cons, this, e]; omega
theorem iA_set (l : List Int) (i k : Nat) (v : Int) (h : i < l.length) : iA (l.set i v) k = if k = i then v else iA l k := by
 unfold iA
 rw [List.getD_eq_getElem?_getD, List.getElem?_set]
 by_cases e : i = k
 ·subst e; rw [if_pos rfl, if_pos h, if_pos rfl]; rfl
 ·rw [if_neg e, if_neg (fun h => e h.symm), List.getD_eq_getElem?_getD]
theorem iA_le_sum : ∀ (l : List Int) (i : Nat), (∀ k, 0 ≤ iA l k) → iA l i ≤ l.sum ∧ 0 ≤ l.sum
 | [], i, _ => by unfold iA; simp
 | x :: l, i, h => by
  have h0 : 0 ≤ x := h 0
  have hl : ∀ k, 0 ≤ iA l k := fun k => h (k + 1)
  rw [List.sum_cons]
  cases i with
  | zero => have := (iA_le_sum l 0 hl).2; show x ≤ _ ∧ _; omega
  | succ i => have := iA_le_sum l i hl; show iA l i ≤ _ ∧ _; omega
theorem dealN_spec {rs : List Int} (pos : ∃ i, i < rs.length ∧ 0 < iA rs i) : ∀ (m : Nat) (gs : List Int), gs.length = rs.length → (∀ k, 0 ≤ iA gs k) → gs.sum + m ≤ 1000000000000 → (∀ k, iA gs k ≤ iA (dealN rs m gs) k) ∧ (dealN rs m gs).sum = gs.sum + m
 | 0, gs, _, _, _ => ⟨fun _ => Int.le_refl _, by simp [dealN]⟩
 | m + 1, gs, hl, h0, hb => by
  obtain ⟨n0, n1⟩ := nextI_in rs gs pos
  have hx : (nextI rs gs).toNat < gs.length := by omega
  obtain ⟨a, b⟩ := iA_le_sum gs (nextI rs gs).toNat h0
  have c := h0 (nextI rs gs).toNat
  have e1 : (dealO rs gs).sum = gs.sum + 1 := by unfold dealO; rw [wrap_i (by omega), sumA_set _ _ _ hx]; omega
  have e2 : ∀ k, iA gs k ≤ iA (dealO rs gs) k := fun k => by
   unfold dealO
   rw [wrap_i (by omega), iA_set _ _ _ _ hx]
   split
   ·rename_i e; subst e; omega
   ·exact Int.le_refl _
  obtain ⟨d, e⟩ := dealN_spec pos m (dealO rs gs) (by rw [dealO_len]; exact hl) (fun k => by have := h0 k; have := e2 k; omega) (by omega)
  rw [dealN]
  exact ⟨fun k => by have := e2 k; have := d k; omega, by rw [e, e1]; omega⟩
theorem apAll_spec (ba : Int) (gs ws : List Int) (os : List (List Pce)) : ∀ (k : Nat), k ≤ os.length → ((List.range k).foldl (apS ba gs ws) os).length = os.length ∧ ∀ i, pA ((List.range k).foldl (apS ba gs ws) os) i = if i < k then pA os i ++ [⟨ba, IntKind.i64.wrap (iA gs i - iA ws i)⟩] else pA os i
 | 0, _ => ⟨rfl, fun i => by rw [if_neg (Nat.not_lt_zero _)]; rfl⟩
 | k + 1, hk => by
  obtain ⟨a, b⟩ := apAll_spec ba gs ws os k (by omega)
  rw [List.range_succ, List.foldl_append]
  generalize (List.range k).foldl (apS ba gs ws) os = o at a b
  show (apS ba gs ws o k).length = _ ∧ ∀ i, pA (apS ba gs ws o k) i = _
  unfold apS
  refine ⟨by rw [List.length_set]; exact a, fun i => ?_⟩
  rw [pA_set _ _ _ _ (by omega), b, b]
  by_cases e : i = k
  ·subst e
   rw [if_pos rfl, if_neg (Nat.lt_irrefl _), if_pos (by omega)]
  ·rw [if_neg e]
   by_cases f : i < k
   ·rw [if_pos f, if_pos (by omega)]
   ·rw [if_neg f, if_neg (by omega)]
structure HdI (M : Int) (R : Nat) (s : Int) (os : List (List Pce)) (gs : List Int) : Prop where
 ol : os.length = R
 gl : gs.length = R
 pc : ∀ i, PcR M (pA os i)
 vo : ∀ i, volS (pA os i) = iA gs i
 sum : gs.sum = s
theorem HdI.nn {M R s os gs} (h : HdI M R s os gs) (i : Nat) : 0 ≤ iA gs i := by rw [← h.vo]; exact (h.pc i).nn
theorem iA_out {l : List Int} {i : Nat} (h : l.length ≤ i) : iA l i = 0 := by
 unfold iA
 rw [List.getD_eq_getElem?_getD, List.getElem?_eq_none h]
 rfl
theorem pA_out {l : List (List Pce)} {i : Nat} (h : l.length ≤ i) : pA l i = [] := by
 unfold pA
 rw [List.getD_eq_getElem?_getD, List.getElem?_eq_none h]
 rfl
theorem hdS_spec {M : Int} {rs : List Int} {s : Int} {os : List (List Pce)} {gs : List Int} (pos : ∃ i, i < rs.length ∧ 0 < iA rs i) (h : HdI M rs.length s os gs) {p : Pce} (hp : (0 ≤ p.ba ∧ p.ba < M) ∧ 0 ≤ p.vo) (hb : s + p.vo ≤ 1000000000000) : HdI M rs.length (s + p.vo) (hdS rs (os, gs) p).1 (hdS rs (os, gs) p).2 := by
 have ol := h.ol
 have gl := h.gl
 have hs := h.sum
 obtain ⟨a, b⟩ := dealN_spec pos p.vo.toNat gs h.gl h.nn (by omega)
 have lg := dealN_len rs p.vo.toNat gs
 unfold hdS apAll
 dsimp only
 generalize dealN rs p.vo.toNat gs = g2 at a b lg
 obtain ⟨c, d⟩ := apAll_spec p.ba g2 gs os rs.length (by omega)
 have bd : ∀ i, IntKind.i64.wrap (iA g2 i - iA gs i) = iA g2 i - iA gs i := fun i => by
  have := a i
  have := h.nn i
  have := (iA_le_sum g2 i fun k => by have := a k; have := h.nn k; omega).1
  rw [wrap_i (by omega)]
 refine ⟨by rw [c]; exact ol, by omega, fun i => ?_, fun i => ?_, by rw [b, hs]; omega⟩
 ·rw [d]
  split
  ·refine (h.pc i).app (PcR.one ⟨hp.1, ?_⟩)
   dsimp only
   rw [bd]
   have := a i
   omega
  ·exact h.pc i
 ·rw [d]
  split
  ·rw [volS_append, volS_cons, volS_nil, h.vo, bd]
   dsimp only
   omega
  ·rw [h.vo, iA_out (by omega), iA_out (by omega)]
theorem hand0_spec {M : Int} {rs : List Int} (pos : ∃ i, i < rs.length ∧ 0 < iA rs i) : ∀ (l : List Pce) (s : Int) (u : List (List Pce) × List Int), PcR M l → HdI M rs.length s u.1 u.2 → s + volS l ≤ 1000000000000 → HdI M rs.length (s + volS l) (l.foldl (hdS rs) u).1 (l.foldl (hdS rs) u).2
 | [], s, u, _, h, _ => by rw [volS_nil, Int.add_zero]; exact h
 | p :: l, s, u, hl, h, hb => by
  have n0 := hl.tail.nn
  rw [volS_cons] at hb ⊢
  have k := hdS_spec pos h (hl p (List.mem_cons_self ..)) (by omega)
  have := hand0_spec pos l (s + p.vo) (hdS rs (u.1, u.2) p) hl.tail k (by omega)
  rw [List.foldl_cons, show s + (p.vo + volS l) = s + p.vo + volS l by omega]
  exact this
def totV (L : List (List Pce)) : Int := (L.map volS).sum
theorem totV_eq {M : Int} {R : Nat} {s : Int} {os : List (List Pce)} {gs : List Int} (h : HdI M R s os gs) : totV os = s := by
 rw [← h.sum]
 unfold totV
 congr 1
 refine List.ext_getElem? fun k => ?_
 have ol := h.ol
 have gl := h.gl
 have hv := h.vo k
 unfold pA iA at hv
 rw [List.getD_eq_getElem?_getD, List.getD_eq_getElem?_getD] at hv
 rw [List.getElem?_map]
 by_cases hk : k < R
 ·rw [List.getElem?_eq_getElem (by omega), List.getElem?_eq_getElem (by omega)] at hv ⊢
  exact congrArg some hv
 ·rw [List.getElem?_eq_none (by omega), List.getElem?_eq_none (by omega)]; rfl
theorem hand_spec {M : Int} {l : List Pce} {rs : List Int} (pos : ∃ i, i < rs.length ∧ 0 < iA rs i) (h : PcR M l) (hb : volS l ≤ 1000000000) : (handL l rs).length = rs.length ∧ (∀ i, PcP M (pA (handL l rs) i)) ∧ totV (handL l rs) = volS l := by
 have z : HdI M rs.length 0 (List.replicate rs.length []) (List.replicate rs.length 0) := ⟨by simp, by simp, fun i => by rw [pA_rep]; exact PcR.nil M, fun i => by
  rw [pA_rep, volS_nil]
  unfold iA
  rw [List.getD_eq_getElem?_getD, List.getElem?_replicate]
  split <;> rfl, by simp⟩
 have k := hand0_spec pos l 0 (List.replicate rs.length [], List.replicate rs.length 0) h z (by omega)
 rw [Int.zero_add] at k
 have e : (l.foldl (hdS rs) (List.replicate rs.length [], List.replicate rs.length 0)) = hand0 l rs := rfl
 rw [e] at k
 have tv := totV_eq k
 have js : ∀ i, (PcP M (joined (pA (hand0 l rs).1 i)) ∧ PcN (joined (pA (hand0 l rs).1 i))) ∧ volS (joined (pA (hand0 l rs).1 i)) = volS (pA (hand0 l rs).1 i) := fun i => joined_spec (k.pc i) (by
  rw [k.vo]
  have := (iA_le_sum (hand0 l rs).2 i k.nn).1
  rw [k.sum] at this
  omega)
 refine ⟨by unfold handL; rw [List.length_map]; exact k.ol, fun i => ?_, ?_⟩
 ·by_cases hi : i < (hand0 l rs).1.length
  ·have : pA (handL l rs) i = joined (pA (hand0 l rs).1 i) := by
    unfold pA handL
    rw [List.getD_eq_getElem?_getD, List.getElem?_map, List.getD_eq_getElem?_getD, List.getElem?_eq_getElem hi]
    rfl
   rw [this]
   exact (js i).1.1
  ·rw [pA_out (by unfold handL; rw [List.length_map]; omega)]
   exact PcP.nil M
 ·rw [← tv]
  unfold totV handL
  rw [List.map_map]
  congr 1
  refine List.map_congr_left fun x hx => ?_
  obtain ⟨m, hm, rfl⟩ := List.getElem_of_mem hx
  have : pA (hand0 l rs).1 m = (hand0 l rs).1[m] := by
   unfold pA
   rw [List.getD_eq_getElem?_getD, List.getElem?_eq_getElem hm]
   rfl
  have h2 := (js m).2
  rw [this] at h2
  exact h2
end Go.Proofs.Ytadjhfjiimgddaa
