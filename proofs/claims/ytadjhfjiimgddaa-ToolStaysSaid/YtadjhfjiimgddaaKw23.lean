/- ToolStays: Ti9. -/
import Derived.Test.YtadjhfjiimgddaaKw18
import Derived.Test.YtadjhfjiimgddaaKw21
import Derived.Test.YtadjhfjiimgddaaKw10
import Derived.Test.YtadjhfjiimgddaaKw22
set_option linter.unusedSimpArgs false
set_option linter.unusedVariables false
set_option maxRecDepth 100000

/- The reference's tick: the walk. -/
namespace Go.Proofs.Ytadjhfjiimgddaa
open Go
def TkT : Tbl := tc 81 (rowPu selRdy) (tc 82 (rowPu (selNP PreP fun n p => .tup [.sl ((ordR n p).map nRow), di (fckI n p)])) (tc 83 (rowPu selEnds) (tc 84 (rowPu selAbs) (tc 85 (rowPu selJo) (tc 86 (rowPu selHn) (tc 87 (rowPu selTu) (tc 88 (rowPu selShf) T0)))))))
theorem TkT_ok : TblOk Try.prog TkT := tc_rdy (tc_np f82_ok (fun n p h nn => rOrder_w n p h nn) (tc_rends (tc_rabs (tc_jo (tc_hn (tc_tu (tc_shf (T0_ok _))))))))
def TkB (n : Net) (p : Pln) (s : TS) : Hp := ((((Hp.none.put (0, 58) ⟨0, 1, s.gv.map fR⟩).put (0, 55) ⟨0, 1, s.prt.map fR⟩).put (0, 51) ⟨0, 1, s.nxt.map fR⟩).put (0, 6) ⟨0, 3, [plnD p]⟩).put (0, 4) ⟨0, 6, [netD n]⟩
def TkF (n : Net) (fd : List Int) (lg : Bool) (l : List (Nat × D)) : List (Nat × D) := [(3, .sl (fd.map iRow)), (4, .ptr (0, 4) 0 0 0), (6, .ptr (0, 6) 0 0 0), (12, .own (0, 51) 0 0 n.segs.length), (13, .own (0, 55) 0 0 n.ports.length), (14, .own (0, 58) 0 0 n.segs.length), (15, db lg)] ++ l
def mixN (fs : List (List Pce)) (j : Nat) : List (List Pce) := fs.take j ++ List.replicate (fs.length - j) []
theorem mixN_len (fs : List (List Pce)) (j : Nat) (h : j ≤ fs.length) : (mixN fs j).length = fs.length := by unfold mixN; simp; omega
theorem mixN_set (fs : List (List Pce)) (j : Nat) (h : j < fs.length) : ((mixN fs j).map fR).set j (fR (fA fs j)) = (mixN fs (j + 1)).map fR := by
 unfold mixN
 rw [← List.map_set, List.set_append_right _ _ (by rw [List.length_take]; omega), List.length_take, Nat.min_eq_left (by omega), Nat.sub_self, show fs.length - j = (fs.length - (j + 1)) + 1 by omega, List.replicate_succ, List.set_cons_zero, List.take_add_one, List.getElem?_eq_getElem h, f_at h, List.append_assoc]
 rfl
theorem mixN_set' (fs : List (List Pce)) (j : Nat) (x : List D) (h : j < fs.length) : ((mixN fs j).map fR).set j x = (fs.take j).map fR ++ x :: (List.replicate (fs.length - (j + 1)) ([] : List Pce)).map fR := by
 unfold mixN
 rw [List.map_append, List.set_append_right _ _ (by rw [List.length_map, List.length_take]; omega), List.length_map, List.length_take, Nat.min_eq_left (by omega), Nat.sub_self, show fs.length - j = (fs.length - (j + 1)) + 1 by omega, List.replicate_succ, List.map_cons, List.set_cons_zero]
theorem mixN_succ (fs : List (List Pce)) (j : Nat) (h : j < fs.length) : (mixN fs (j + 1)).map fR = (fs.take j).map fR ++ [.sl ((fA fs j).map Pce.row)] :: (List.replicate (fs.length - (j + 1)) ([] : List Pce)).map fR := by
 rw [← mixN_set fs j h, mixN_set' fs j _ h]
 rfl
def TkW (n : Net) (p : Pln) (fs : List (List Pce)) (j : Nat) : List (Nm × En) := [((0, 4), ⟨0, 6, [netD n]⟩), ((0, 6), ⟨0, 3, [plnD p]⟩), ((0, 51), ⟨0, 1, (fs.take j).map fR ++ [.own (0, 66) 1 0 (fA fs j).length] :: (List.replicate (fs.length - (j + 1)) ([] : List Pce)).map fR⟩), ((0, 55), ⟨0, 1, (List.replicate n.ports.length ([] : List Pce)).map fR⟩), ((0, 58), ⟨0, 1, (List.replicate fs.length ([] : List Pce)).map fR⟩), ((0, 66), ⟨1, 2, (fA fs j).map Pce.row⟩)]
def mixS (n : Net) (fs : List (List Pce)) (j : Nat) : TS := ⟨mixN fs j, List.replicate n.ports.length [], List.replicate fs.length [], false⟩
def Tk0 (fs : List (List Pce)) (j : Int) : List (Nat × D) := [(1, .sl (fs.map fR)), (60, di fs.length), (61, di j)]
theorem f_ref (js : List Nm) (x : List Pce) : refsInL js (fR x) = true := rfl
theorem f_pl (x : List Pce) : (∀ d, d ∈ fR x → d.plain = true) = True := by unfold fR; simp only [List.forall_mem_cons, forall_nil, plain_sl, and_self]
theorem nr_ref (js : List Nm) (x : Nat) : refsInL js (nRow x) = true := rfl
theorem fR_v' (x : List Pce) : rowV (fR x) = true := rfl
theorem pce_v' (x : Pce) : rowV x.row = true := rfl
theorem listB_app' {α : Type} (p : α → Bool) : ∀ a b : List α, listB p (a ++ b) = (listB p a && listB p b)
 | [], b => by simp [listB]
 | x :: a, b => by rw [List.cons_append, listB, listB_app' p a b, listB]; cases p x <;> cases listB p a <;> cases listB p b <;> rfl
theorem rows_fz' {α : Type} (f : α → List D) (h : ∀ x, rowV (f x) = true) (ks : List Nm) (H : Hp) (l : List α) : (l.map f).map (fun r => r.map (lendK ks H)) = l.map f := by
 rw [List.map_map]
 exact List.map_congr_left fun x _ => (rowV_ok (h x) ks H).2.2
theorem tk_frz (n : Net) (p : Pln) (fs : List (List Pce)) (fd : List Int) (lg : Bool) (j : Nat) (i : Int) (hj : j < fs.length) : Weak [] ⟨fr (TkF n fd lg (Tk0 fs i)), hp (TkW n p fs j)⟩ ⟨fr (TkF n fd lg (Tk0 fs i)), TkB n p (mixS n fs (j + 1))⟩ := by
 have ra := fun ks H => fun w => rows_ok fR fR_v' ks H w
 have rb := fun ks H => fun w => rows_ok Pce.row pce_v' ks H w
 have rc := fun ks H => fun w => rows_fz' fR fR_v' ks H w
 have rd := fun ks H => fun w => rows_fz' Pce.row pce_v' ks H w
 have re := fun w => rows_pl Pce.row pce_v' w
 have t3 : ((fA fs j).map Pce.row).take (fA fs j).length = (fA fs j).map Pce.row := List.take_of_length_le (by simp)
 have rf := mixN_succ fs j hj
 exact (Weak.refl [] _).trans (weak_fz [(0, 66)] [(0, 4), (0, 6), (0, 51), (0, 55), (0, 58)] (l := (TkF n fd lg (Tk0 fs i))) (h := (TkW n p fs j)) (l' := (TkF n fd lg (Tk0 fs i))) (H' := (TkB n p (mixS n fs (j + 1)))) (by simp only [↓vp, vv, ↓reduceIte, simprocAttr, vz, listB, okKd, okK, lendKd, lendK, lendOk1B, frzF, Option.map_some, cond_true, cond_false, decide_true, decide_false, Bool.and_self, TkW, TkF, Tk0, TkB, mixS, netD, plnD, listB_app', ra, rb, rc, rd, re, rf, t3, f_ref, List.map_append, List.map_cons, List.map_nil]) (by simp only [↓vp, vv, ↓reduceIte, simprocAttr, vz, listB, okKd, okK, lendKd, lendK, lendOk1B, frzF, Option.map_some, cond_true, cond_false, decide_true, decide_false, Bool.and_self, TkW, TkF, Tk0, TkB, mixS, netD, plnD, listB_app', ra, rb, rc, rd, re, rf, t3, f_ref, List.map_append, List.map_cons, List.map_nil]) (by simp only [↓vp, vv, ↓reduceIte, simprocAttr, vz, listB, okKd, okK, lendKd, lendK, lendOk1B, frzF, Option.map_some, cond_true, cond_false, decide_true, decide_false, Bool.and_self, TkW, TkF, Tk0, TkB, mixS, netD, plnD, listB_app', ra, rb, rc, rd, re, rf, t3, f_ref, List.map_append, List.map_cons, List.map_nil]; try rfl) (by simp only [↓vp, vv, ↓reduceIte, simprocAttr, vz, listB, okKd, okK, lendKd, lendK, lendOk1B, frzF, Option.map_some, cond_true, cond_false, decide_true, decide_false, Bool.and_self, TkW, TkF, Tk0, TkB, mixS, netD, plnD, listB_app', ra, rb, rc, rd, re, rf, t3, f_ref, List.map_append, List.map_cons, List.map_nil]; try rfl) (by simp only [↓vp, vv, ↓reduceIte, simprocAttr, vz, listB, okKd, okK, lendKd, lendK, lendOk1B, frzF, Option.map_some, cond_true, cond_false, decide_true, decide_false, Bool.and_self, refsF, TkW, TkF, Tk0, TkB, mixS, netD, plnD, listB_app', ra, rb, rc, rd, re, rf, t3, f_ref, List.map_append, List.map_cons, List.map_nil]) (by simp only [↓vp, vv, ↓reduceIte, simprocAttr, vz, listB, okKd, okK, lendKd, lendK, lendOk1B, frzF, Option.map_some, cond_true, cond_false, decide_true, decide_false, Bool.and_self, TkW, TkF, Tk0, TkB, mixS, netD, plnD, listB_app', ra, rb, rc, rd, re, rf, t3, f_ref, List.map_append, List.map_cons, List.map_nil]) (by simp))
def Tk2 (n : Net) (p : Pln) (j : Int) : List (Nat × D) := [(80, .sl ((ordB n p).map nRow)), (81, di (ordB n p).length), (82, di j)]
def Tk4 (n : Net) (p : Pln) (j : Nat) (v : Int) (g1 g2 g3 : Nat) (a : PS3) (i : Int) : List (Nat × D) := [(20, di v), (21, .own (0, 118) g1 0 a.st.length), (22, .own (0, 139) g2 0 a.ra.length), (23, .own (0, 143) g3 0 a.ix.length), (24, .own (0, 193) 0 0 0), (80, .sl ((ordB n p).map nRow)), (81, di (ordB n p).length), (82, di (j : Int)), (87, .sl (n.ports.map Port.row)), (88, di n.ports.length), (89, di i)]
def TkC (n : Net) (p : Pln) (s : TS) (g1 g2 g3 : Nat) (a : PS3) : Hp := ((((((((Hp.none.put (0, 193) ⟨0, 1, []⟩).put (0, 143) ⟨g3, 1, a.ix.map nRow⟩).put (0, 139) ⟨g2, 1, a.ra.map iRow⟩).put (0, 118) ⟨g1, 2, a.st.map Pce.row⟩).put (0, 58) ⟨0, 1, s.gv.map fR⟩).put (0, 55) ⟨0, 1, s.prt.map fR⟩).put (0, 51) ⟨0, 1, s.nxt.map fR⟩).put (0, 6) ⟨0, 3, [plnD p]⟩).put (0, 4) ⟨0, 6, [netD n]⟩
def Tk6 (n : Net) (p : Pln) (j : Nat) (v : Int) (g1 g2 g3 g4 : Nat) (ax : List Nat) (b : PS3) (i : Int) : List (Nat × D) := [(20, di v), (21, .own (0, 118) g1 0 b.st.length), (22, .own (0, 139) g2 0 b.ra.length), (23, .own (0, 143) g3 0 ax.length), (24, .own (0, 193) g4 0 b.ix.length), (80, .sl ((ordB n p).map nRow)), (81, di (ordB n p).length), (82, di (j : Int)), (146, .sl (n.segs.map Seg.row)), (147, di n.segs.length), (148, di i)]
def TkE (n : Net) (p : Pln) (s : TS) (g1 g2 g3 g4 : Nat) (ax : List Nat) (b : PS3) : Hp := ((((((((Hp.none.put (0, 193) ⟨g4, 1, b.ix.map nRow⟩).put (0, 143) ⟨g3, 1, ax.map nRow⟩).put (0, 139) ⟨g2, 1, b.ra.map iRow⟩).put (0, 118) ⟨g1, 2, b.st.map Pce.row⟩).put (0, 58) ⟨0, 1, s.gv.map fR⟩).put (0, 55) ⟨0, 1, s.prt.map fR⟩).put (0, 51) ⟨0, 1, s.nxt.map fR⟩).put (0, 6) ⟨0, 3, [plnD p]⟩).put (0, 4) ⟨0, 6, [netD n]⟩
theorem handR_eq (l : List Pce) (rs : List Int) : handR (hand0 l rs).1 = .sl ((handL l rs).map fR) := by
 unfold handR handL
 rw [List.map_map]
 rfl
theorem tPushs_lng (p : Pln) (de : List (List Pce)) (lp : Nat) (ix : List Nat) (s : TS) : ∀ k, (tPushs p de lp ix s k).lng = s.lng
 | 0 => rfl
 | k + 1 => by
  have := tPushs_lng p de lp ix s k
  unfold tPushs at this ⊢
  rw [range_fold]
  exact this
theorem tPushs_prt (p : Pln) (de : List (List Pce)) (lp : Nat) (ix : List Nat) (s : TS) : ∀ k, (tPushs p de lp ix s k).prt = s.prt
 | 0 => rfl
 | k + 1 => by
  have := tPushs_prt p de lp ix s k
  unfold tPushs at this ⊢
  rw [range_fold]
  exact this
theorem nx_at {l : List Nat} {k : Nat} (h : k < l.length) : (l.map nRow).getD k [] = nRow (l.getD k 0) := by
 rw [getD_map nRow l k h, List.getD_eq_getElem?_getD, List.getElem?_eq_getElem h]
 rfl
def Tk8 (n : Net) (p : Pln) (j : Nat) (g3 g4 : Nat) (ax bx : List Nat) (de : List (List Pce)) (k : Int) : List (Nat × D) := [(23, .own (0, 143) g3 0 ax.length), (24, .own (0, 193) g4 0 bx.length), (31, .sl (de.map fR)), (80, .sl ((ordB n p).map nRow)), (81, di (ordB n p).length), (82, di (j : Int)), (209, .own (0, 143) g3 0 ax.length), (210, di ax.length), (211, di k)]
def Tk10 (n : Net) (p : Pln) (j : Nat) (g3 g4 : Nat) (ax bx : List Nat) (de : List (List Pce)) (k : Int) : List (Nat × D) := [(23, .own (0, 143) g3 0 ax.length), (31, .sl (de.map fR)), (80, .sl ((ordB n p).map nRow)), (81, di (ordB n p).length), (82, di (j : Int)), (224, .own (0, 193) g4 0 bx.length), (225, di bx.length), (226, di k)]
def TkG (n : Net) (p : Pln) (N P G : List (List Pce)) (g3 g4 : Nat) (ax bx : List Nat) : Hp := ((((((Hp.none.put (0, 193) ⟨g4, 1, bx.map nRow⟩).put (0, 143) ⟨g3, 1, ax.map nRow⟩).put (0, 58) ⟨0, 1, G.map fR⟩).put (0, 55) ⟨0, 1, P.map fR⟩).put (0, 51) ⟨0, 1, N.map fR⟩).put (0, 6) ⟨0, 3, [plnD p]⟩).put (0, 4) ⟨0, 6, [netD n]⟩
def Tk12 (n : Net) (lg : Bool) (k : Int) : List (Nat × D) := [(12, .own (0, 51) 0 0 n.segs.length), (13, .own (0, 55) 0 0 n.ports.length), (14, .own (0, 58) 0 0 n.segs.length), (15, db lg), (272, di n.segs.length), (273, di k)]
def Tk14 (n : Net) (lg : Bool) (k : Int) : List (Nat × D) := [(12, .own (0, 51) 0 0 n.segs.length), (13, .own (0, 55) 0 0 n.ports.length), (15, db lg), (295, di n.ports.length), (296, di k)]
def TkZ (s : TS) : Hp := ((Hp.none.put (0, 58) ⟨0, 1, s.gv.map fR⟩).put (0, 55) ⟨0, 1, s.prt.map fR⟩).put (0, 51) ⟨0, 1, s.nxt.map fR⟩
def TkY (s : TS) : Hp := (Hp.none.put (0, 55) ⟨0, 1, s.prt.map fR⟩).put (0, 51) ⟨0, 1, s.nxt.map fR⟩
def tkRes (s : TS) : D := if tLong s = true then .tup [.sl [], .sl [], di 4] else .tup [.sl (s.nxt.map fR), .sl (s.prt.map fR), di 0]
set_option maxHeartbeats 40000000 in
theorem tick_c {M : Int} {n : Net} {p : Pln} {fs : List (List Pce)} {fd : List Int} (h : TkM M n p fs fd) (nn : Nm) : CallsA Try.prog 29 [n.enc, .sl (fs.map fR), p.enc, .sl (fd.map iRow)] Hp.none nn (Pu (tkRes (tEnd n p fs fd)) Hp.none) := by
 obtain ⟨code, h1, h2⟩ := c29_ok
 refine callsA_of TkT_ok mixed (N := fun t => (0, t)) Try.func29 h1 h2 r29_ok [] false js_nil js_nil' (by simp [Try.f29]) ?_
 have hn1 := netOf1_x n
 have hp1 := plnOf1_x p
 have hv := fck0 h.ok.ck
 have hsl := h.ok.sl
 have hql := h.ok.ql
 have hnl := h.ok.nl
 have hfl := h.ok.fl
 have hdl := h.ok.dl
 have hrl := hv.rl
 have hpl := hv.pl
 have hq : PreP n p := ⟨by omega, by omega, by have := hv.ul; have := hv.net.tl; omega⟩
 have hc := h.ok.ck
 have hok : TkA.ok ⟨n, p, fs, fd⟩ := h.ok
 have hfs := fsOf_map fs
 have hfd := ir_dec fd
 have hor : ordR n p = ordB n p := if_pos hc
 have y0 : 24 * (fs.length : Int) ≤ 281474976710656 := by omega
 have y1 : 24 * (n.ports.length : Int) ≤ 281474976710656 := by omega
 have y2 : (fs.length : Int) ≤ 4611686018427387904 := by omega
 have y3 : (0 : Int) ≤ fs.length := by omega
 have y4 : (n.ports.length : Int) ≤ 4611686018427387904 := by omega
 have y5 : (0 : Int) ≤ n.ports.length := by omega
 have tn : ∀ k, (List.replicate k [D.mt]).map (fun r => r.map D.nil) = (List.replicate k ([] : List Pce)).map fR := fun k => by rw [List.map_replicate, List.map_replicate]; rfl
 have hlen : (n.segs.length : Int) = fs.length := by rw [hfl]
 simp (maxSteps:=500000) only [↓vp, vv, ↓reduceIte, simprocAttr, c29, r29, c29_1, c29_10, c29_11, c29_12, c29_13, c29_14, c29_15, c29_16, c29_17, c29_18, c29_19, c29_2, c29_20, c29_21, c29_22, c29_23, c29_24, c29_25, c29_26, c29_27, c29_28, c29_29, c29_3, c29_30, c29_31, c29_32, c29_33, c29_34, c29_35, c29_4, c29_5, c29_6, c29_7, c29_8, c29_9, TkT, selRdy, selX, decTk, hn1, hp1, hfs, hfd, hok, Net.enc, netD, Pln.enc, plnD, bne_self_eq_false, y0, y1, y2, y3, y4, y5, Int.toNat_natCast]
 have z0 : 0 < fs.length ∨ fs.length = 0 := by omega
 refine rng_loop fs.length (fun j => ⟨fr (TkF n fd false (Tk0 fs (j : Nat))), TkB n p (mixS n fs j)⟩) (fun _ => True) ?_ trivial (fun j hj _ => ?_) (fun _ => ?_)
 ·refine (((weak_nil (0, 51) 0 1 (List.replicate fs.length [D.mt]) (by simp only [↓vp, vv, ↓reduceIte, simprocAttr, ])).trans (weak_nil (0, 55) 0 1 (List.replicate n.ports.length [D.mt]) (by simp only [↓vp, vv, ↓reduceIte, simprocAttr, ]))).trans (weak_nil (0, 58) 0 1 (List.replicate fs.length [D.mt]) (by simp only [↓vp, vv, ↓reduceIte, simprocAttr, ]))).trans ?_
  have e : mixN fs 0 = List.replicate fs.length [] := by unfold mixN; simp
  exact (weak_eqA [] [(0, 4), (0, 6), (0, 51), (0, 55), (0, 58)] (TkF n fd false (Tk0 fs 0)) (by refine ⟨?_, ?_, ?_, by simp, ?_⟩ <;> (simp only [↓vp, vv, ↓reduceIte, simprocAttr, coverS, refsF, TkF, Tk0, TkB, mixS, e, tn, netD, plnD, hlen, hfl, f_ref] <;> try rfl)))
 ·have hj' : (j : Int) < fs.length := by omega
  have w1 := idx_next (j := j) (by omega)
  have g1 := f_get hj
  have ml : (mixN fs j).length = n.segs.length := by rw [mixN_len fs j (by omega), hfl]
  have lf := h.ok.fn j (by omega)
  have q1 : (fA fs j).length * 16 ≤ 140737488355328 := by omega
  have q2 : (fA fs j).length ≤ 4611686018427387904 := by omega
  have rl : ∀ x : Pce, x.row.length = 2 := fun _ => rfl
  have hs := mixN_set' fs j [.own (0, 66) 1 0 (fA fs j).length] hj
  have hjs : j < n.segs.length := by omega
  have hjs' : (j : Int) < n.segs.length := by omega
  have mg := f_get (l := mixN fs j) (j := j) (by omega)
  have mx : j < (mixN fs j).length := by omega
  simp (maxSteps:=500000) only [↓vp, vv, ↓reduceIte, simprocAttr, c29, r29, c29_1, c29_10, c29_11, c29_12, c29_13, c29_14, c29_15, c29_16, c29_17, c29_18, c29_19, c29_2, c29_20, c29_21, c29_22, c29_23, c29_24, c29_25, c29_26, c29_27, c29_28, c29_29, c29_3, c29_30, c29_31, c29_32, c29_33, c29_34, c29_35, c29_4, c29_5, c29_6, c29_7, c29_8, c29_9, TkT, TkF, Tk0, TkB, mixS, netD, plnD, hj, hj', hjs, hjs', g1, mg, ml, rl, q1, q2, Int.toNat_natCast, idx_nn]
  refine rng_next hj ?_ trivial
  refine Weak.trans ?_ (tk_frz n p fs fd false j ((j + 1 : Nat) : Int) hj)
  have rf : ∀ (l : List (List Pce)) (js : List Nm), (∀ x, x ∈ l → refsInL js (fR x) = true) = True := fun l js => eq_true fun x _ => rfl
  exact (weak_eqA [] [(0, 4), (0, 6), (0, 51), (0, 55), (0, 58), (0, 66)] (TkF n fd false (Tk0 fs ((j + 1 : Nat) : Int))) (by refine ⟨?_, ?_, ?_, by simp, ?_⟩ <;> (simp only [↓vp, vv, ↓reduceIte, simprocAttr, coverS, refsF, TkW, TkF, Tk0, netD, plnD, hp_cons, hp_nil, w1, hs, f_ref, pce_ref, List.forall_mem_append] <;> try rfl)))
 ·have me : mixN fs fs.length = fs := by unfold mixN; simp
  have me2 : mixS n fs fs.length = tRun n p fs fd 0 := by unfold mixS; rw [me]; rfl
  rw [me2]
  simp (maxSteps:=500000) only [↓vp, vv, ↓reduceIte, simprocAttr, c29, r29, c29_1, c29_10, c29_11, c29_12, c29_13, c29_14, c29_15, c29_16, c29_17, c29_18, c29_19, c29_2, c29_20, c29_21, c29_22, c29_23, c29_24, c29_25, c29_26, c29_27, c29_28, c29_29, c29_3, c29_30, c29_31, c29_32, c29_33, c29_34, c29_35, c29_4, c29_5, c29_6, c29_7, c29_8, c29_9, TkT, TkF, Tk0, TkB, netD, plnD, Int.lt_irrefl, selNP, hn1, hp1, hq, hor, hc]
  obtain ⟨o1, o2⟩ := ordB_in h
  refine rng_loop (ordB n p).length (fun j => ⟨fr (TkF n fd (tRun n p fs fd j).lng (Tk2 n p (j : Nat))), TkB n p (tRun n p fs fd j)⟩) (fun _ => True) ?_ trivial (fun j hj _ => ?_) (fun _ => ?_)
  ·have e : (tRun n p fs fd 0).lng = false := rfl
   exact (weak_eqA [] [(0, 4), (0, 6), (0, 51), (0, 55), (0, 58)] (TkF n fd (tRun n p fs fd 0).lng (Tk2 n p 0)) (by refine ⟨?_, ?_, ?_, by simp, ?_⟩ <;> (simp only [↓vp, vv, ↓reduceIte, simprocAttr, coverS, refsF, TkF, Tk2, TkB, e, netD, plnD, f_ref] <;> try rfl)))
  ·have T := tRun_spec h j (by omega)
   have hB := bndT_le j (by omega)
   have rj : tRun n p fs fd (j + 1) = tNode n p fd (tRun n p fs fd j) ((ordB n p)[j]'hj) := by
    unfold tRun
    rw [List.take_add_one, List.getElem?_eq_getElem hj, List.foldl_append]
    rfl
   have gv := getD_map nRow (ordB n p) j hj
   have hvn := o2 _ (List.getElem_mem hj)
   generalize (ordB n p)[j] = v at rj gv hvn
   have ND := node_ok h T (by omega) (v := v) (by omega)
   generalize hs : tRun n p fs fd j = s at T ND rj
   generalize bndT j = B at T ND hB
   have hj' : (j : Int) < (ordB n p).length := by omega
   have w1 := idx_next (j := j) (by omega)
   have hps : (n.ports.map Port.row).take n.ports.length = n.ports.map Port.row := List.take_of_length_le (by simp)
   simp (maxSteps:=500000) only [↓vp, vv, ↓reduceIte, simprocAttr, c29, r29, c29_1, c29_10, c29_11, c29_12, c29_13, c29_14, c29_15, c29_16, c29_17, c29_18, c29_19, c29_2, c29_20, c29_21, c29_22, c29_23, c29_24, c29_25, c29_26, c29_27, c29_28, c29_29, c29_3, c29_30, c29_31, c29_32, c29_33, c29_34, c29_35, c29_4, c29_5, c29_6, c29_7, c29_8, c29_9, TkT, TkF, Tk2, TkB, netD, plnD, hj, hj', gv, nRow, hs, Int.toNat_natCast, idx_nn]
   refine rng_loopP n.ports.length (fun i (u : Nat × Nat × Nat) => ⟨fr (TkF n fd s.lng (Tk4 n p j v u.1 u.2.1 u.2.2 (tkP n p fd v i) i)), TkC n p s u.1 u.2.1 u.2.2 (tkP n p fd v i)⟩) (fun _ _ => True) (u0 := (0, 0, 0)) ?_ trivial (fun i hi u _ => ?_) (fun u _ => ?_)
   ·have e : tkP n p fd v 0 = ⟨[], [], []⟩ := rfl
    exact ((((weak_own 21 (0, 118) 2 (by simp only [↓vp, vv, ↓reduceIte, simprocAttr, ]) (by simp only [↓vp, vv, ↓reduceIte, simprocAttr, ])).trans (weak_own 22 (0, 139) 1 (by simp only [↓vp, vv, ↓reduceIte, simprocAttr, ]) (by simp only [↓vp, vv, ↓reduceIte, simprocAttr, ]))).trans (weak_own 23 (0, 143) 1 (by simp only [↓vp, vv, ↓reduceIte, simprocAttr, ]) (by simp only [↓vp, vv, ↓reduceIte, simprocAttr, ]))).trans (weak_own 24 (0, 193) 1 (by simp only [↓vp, vv, ↓reduceIte, simprocAttr, ]) (by simp only [↓vp, vv, ↓reduceIte, simprocAttr, ]))).trans (weak_eqA [] [(0, 4), (0, 6), (0, 51), (0, 55), (0, 58), (0, 118), (0, 139), (0, 143), (0, 193)] (TkF n fd s.lng (Tk4 n p j v 0 0 0 (tkP n p fd v 0) 0)) (by refine ⟨?_, ?_, ?_, by simp, ?_⟩ <;> (simp only [↓vp, vv, ↓reduceIte, simprocAttr, coverS, refsF, TkF, Tk2, Tk4, TkB, TkC, e, netD, plnD, f_ref] <;> try rfl)))
   ·obtain ⟨g1, g2, g3⟩ := u
    have A := tkP_spec h v i (by omega)
    have e0 : tkP n p fd v (i + 1) = tPort n p fd v (tkP n p fd v i) i := range_fold _ _ _
    have hi' : (i : Int) < n.ports.length := by omega
    have hif : i < fd.length := by omega
    have hif' : (i : Int) < fd.length := by omega
    have hip : i < p.ports.length := by omega
    have hip' : (i : Int) < p.ports.length := by omega
    have wi := idx_next (j := i) (by omega)
    have gp := getD_map Port.row n.ports i hi
    rw [pt_at' hi] at gp
    have gr := ir_get hip
    have gf := ir_get hif
    have hb := hv.pb (iA p.ports i) (by rw [← iA_at hip]; exact List.getElem_mem _)
    have wn : IntKind.i64.wrap (0 - iA p.ports i) = -(iA p.ports i) := by rw [wrap_i (by omega)]; omega
    have sl := A.p.len
    have sv := A.v
    have sr := A.r
    have si := A.il
    generalize ha : tkP n p fd v i = a at A sl sv sr si e0
    have q1 : (a.st.length + 1) * 16 ≤ 140737488355328 := by omega
    have q2 : a.st.length + 1 ≤ 4611686018427387904 := by omega
    have q3 : (a.ra.length + 1) * 8 ≤ 140737488355328 := by omega
    have q4 : a.ra.length + 1 ≤ 4611686018427387904 := by omega
    have q5 : (a.ix.length + 1) * 8 ≤ 140737488355328 := by omega
    have q6 : a.ix.length + 1 ≤ 4611686018427387904 := by omega
    have rg : ∀ (l : List (List Pce)) (js : List Nm), (∀ x, x ∈ l → refsInL js (fR x) = true) = True := fun l js => eq_true fun x _ => rfl
    have se : tPort n p fd v a i = if (ptT n i).node = v ∧ 0 < iA p.ports i then ⟨a.st ++ [⟨iA fd i, iA p.ports i⟩], a.ra, a.ix⟩ else if (ptT n i).node = v ∧ iA p.ports i < 0 then ⟨a.st, a.ra ++ [-(iA p.ports i)], a.ix ++ [i]⟩ else a := rfl
    rw [se] at e0
    generalize ptT n i = pt at gp e0
    generalize iA p.ports i = r at gr wn e0 hb
    generalize iA fd i = fdi at gf e0
    have fin : ∀ (k1 k2 k3 : Nat) (b : PS3) (s0 : St), tkP n p fd v (i + 1) = b → Weak [] s0 ⟨fr (TkF n fd s.lng (Tk4 n p j v k1 k2 k3 b ((i + 1 : Nat) : Int))), TkC n p s k1 k2 k3 b⟩ → Weak [] s0 ⟨fr (TkF n fd s.lng (Tk4 n p j v k1 k2 k3 (tkP n p fd v (i + 1)) ((i + 1 : Nat) : Int))), TkC n p s k1 k2 k3 (tkP n p fd v (i + 1))⟩ := fun k1 k2 k3 b s0 he hw => by rw [he]; exact hw
    cases c1 : (pt.node == (v : Int)) with
    | false =>
     have c1' : ¬ pt.node = (v : Int) := by simpa using c1
     rw [if_neg (by omega), if_neg (by omega)] at e0
     simp (maxSteps:=500000) only [↓vp, vv, ↓reduceIte, simprocAttr, c29, r29, c29_1, c29_10, c29_11, c29_12, c29_13, c29_14, c29_15, c29_16, c29_17, c29_18, c29_19, c29_2, c29_20, c29_21, c29_22, c29_23, c29_24, c29_25, c29_26, c29_27, c29_28, c29_29, c29_3, c29_30, c29_31, c29_32, c29_33, c29_34, c29_35, c29_4, c29_5, c29_6, c29_7, c29_8, c29_9, TkT, TkF, Tk4, TkB, TkC, netD, plnD, ha, hi, hi', gp, Port.row, c1, Int.toNat_natCast, idx_nn]
     refine rng_nextP hi (g1, g2, g3) (fin g1 g2 g3 _ _ e0 ?_) trivial
     exact (weak_eqA [] [(0, 4), (0, 6), (0, 51), (0, 55), (0, 58), (0, 118), (0, 139), (0, 143), (0, 193)] (TkF n fd s.lng (Tk4 n p j v g1 g2 g3 a ((i + 1 : Nat) : Int))) (by refine ⟨?_, ?_, ?_, by simp, ?_⟩ <;> (simp only [↓vp, vv, ↓reduceIte, simprocAttr, coverS, refsF, TkF, Tk4, TkB, TkC, netD, plnD, f_ref, pce_ref, ir_ref, nr_ref, wi] <;> try rfl)))
    | true =>
     have c1' : pt.node = (v : Int) := by simpa using c1
     cases c2 : decide (0 < r) with
     | true =>
      have c2' := of_decide_eq_true c2
      have c3 : decide (r < 0) = false := decide_eq_false (by omega)
      rw [if_pos ⟨c1', c2'⟩] at e0
      simp (maxSteps:=500000) only [↓vp, vv, ↓reduceIte, simprocAttr, c29, r29, c29_1, c29_10, c29_11, c29_12, c29_13, c29_14, c29_15, c29_16, c29_17, c29_18, c29_19, c29_2, c29_20, c29_21, c29_22, c29_23, c29_24, c29_25, c29_26, c29_27, c29_28, c29_29, c29_3, c29_30, c29_31, c29_32, c29_33, c29_34, c29_35, c29_4, c29_5, c29_6, c29_7, c29_8, c29_9, TkT, TkF, Tk4, TkB, TkC, netD, plnD, ha, hi, hi', hif, hif', hip, hip', gp, gr, gf, Port.row, c1, c2, c3, q1, q2, Int.toNat_natCast, idx_nn]
      refine rng_nextP hi (g1 + 1, g2, g3) (fin (g1 + 1) g2 g3 _ _ e0 ?_) trivial
      exact (weak_eqA [] [(0, 4), (0, 6), (0, 51), (0, 55), (0, 58), (0, 118), (0, 139), (0, 143), (0, 193)] (TkF n fd s.lng (Tk4 n p j v (g1 + 1) g2 g3 (PS3.mk (a.st ++ [Pce.mk fdi r]) a.ra a.ix) ((i + 1 : Nat) : Int))) (by refine ⟨?_, ?_, ?_, by simp, ?_⟩ <;> (simp only [↓vp, vv, ↓reduceIte, simprocAttr, coverS, refsF, TkF, Tk4, TkB, TkC, netD, plnD, List.map_append, Pce.row, f_ref, pce_ref, ir_ref, nr_ref, wi] <;> try rfl)))
     | false =>
      have c2' := of_decide_eq_false c2
      rw [if_neg (by omega)] at e0
      cases c3 : decide (r < 0) with
      | true =>
       have c3' := of_decide_eq_true c3
       rw [if_pos ⟨c1', c3'⟩] at e0
       simp (maxSteps:=500000) only [↓vp, vv, ↓reduceIte, simprocAttr, c29, r29, c29_1, c29_10, c29_11, c29_12, c29_13, c29_14, c29_15, c29_16, c29_17, c29_18, c29_19, c29_2, c29_20, c29_21, c29_22, c29_23, c29_24, c29_25, c29_26, c29_27, c29_28, c29_29, c29_3, c29_30, c29_31, c29_32, c29_33, c29_34, c29_35, c29_4, c29_5, c29_6, c29_7, c29_8, c29_9, TkT, TkF, Tk4, TkB, TkC, netD, plnD, ha, hi, hi', hif, hif', hip, hip', gp, gr, gf, Port.row, c1, c2, c3, wn, q3, q4, q5, q6, Int.toNat_natCast, idx_nn]
       refine rng_nextP hi (g1, g2 + 1, g3 + 1) (fin g1 (g2 + 1) (g3 + 1) _ _ e0 ?_) trivial
       exact (weak_eqA [] [(0, 4), (0, 6), (0, 51), (0, 55), (0, 58), (0, 118), (0, 139), (0, 143), (0, 193)] (TkF n fd s.lng (Tk4 n p j v g1 (g2 + 1) (g3 + 1) (PS3.mk a.st (a.ra ++ [-r]) (a.ix ++ [i])) ((i + 1 : Nat) : Int))) (by refine ⟨?_, ?_, ?_, by simp, ?_⟩ <;> (simp only [↓vp, vv, ↓reduceIte, simprocAttr, coverS, refsF, TkF, Tk4, TkB, TkC, netD, plnD, List.map_append, iRow, nRow, f_ref, pce_ref, ir_ref, nr_ref, wi] <;> try rfl)))
      | false =>
       have c3' := of_decide_eq_false c3
       rw [if_neg (by omega)] at e0
       simp (maxSteps:=500000) only [↓vp, vv, ↓reduceIte, simprocAttr, c29, r29, c29_1, c29_10, c29_11, c29_12, c29_13, c29_14, c29_15, c29_16, c29_17, c29_18, c29_19, c29_2, c29_20, c29_21, c29_22, c29_23, c29_24, c29_25, c29_26, c29_27, c29_28, c29_29, c29_3, c29_30, c29_31, c29_32, c29_33, c29_34, c29_35, c29_4, c29_5, c29_6, c29_7, c29_8, c29_9, TkT, TkF, Tk4, TkB, TkC, netD, plnD, ha, hi, hi', hif, hif', hip, hip', gp, gr, gf, Port.row, c1, c2, c3, Int.toNat_natCast, idx_nn]
       refine rng_nextP hi (g1, g2, g3) (fin g1 g2 g3 _ _ e0 ?_) trivial
       exact (weak_eqA [] [(0, 4), (0, 6), (0, 51), (0, 55), (0, 58), (0, 118), (0, 139), (0, 143), (0, 193)] (TkF n fd s.lng (Tk4 n p j v g1 g2 g3 a ((i + 1 : Nat) : Int))) (by refine ⟨?_, ?_, ?_, by simp, ?_⟩ <;> (simp only [↓vp, vv, ↓reduceIte, simprocAttr, coverS, refsF, TkF, Tk4, TkB, TkC, netD, plnD, f_ref, pce_ref, ir_ref, nr_ref, wi] <;> try rfl)))
   ·obtain ⟨g1, g2, g3⟩ := u
    have na := ND.a
    have TSs := fun i (hi : i ≤ n.segs.length) => tkS_spec h v T.gl T.gp na i hi
    have nb := ND.b
    have hq := ND.q
    have hqv := ND.qv
    have hsl2 := ND.sl
    have hhn := ND.hn
    have rj' : tRun n p fs fd (j + 1) = if (joined (tkS n p s.gv v (tkP n p fd v n.ports.length) n.segs.length).st).length = 0 then ⟨s.nxt, s.prt, s.gv, s.lng || decide (200 < (joined (tkS n p s.gv v (tkP n p fd v n.ports.length) n.segs.length).st).length)⟩ else tPushs p (handL (joined (tkS n p s.gv v (tkP n p fd v n.ports.length) n.segs.length).st) (tkS n p s.gv v (tkP n p fd v n.ports.length) n.segs.length).ra) (tkP n p fd v n.ports.length).ix.length (tkS n p s.gv v (tkP n p fd v n.ports.length) n.segs.length).ix ⟨s.nxt, tOut (handL (joined (tkS n p s.gv v (tkP n p fd v n.ports.length) n.segs.length).st) (tkS n p s.gv v (tkP n p fd v n.ports.length) n.segs.length).ra) (tkP n p fd v n.ports.length).ix s.prt (tkP n p fd v n.ports.length).ix.length, s.gv, s.lng || decide (200 < (joined (tkS n p s.gv v (tkP n p fd v n.ports.length) n.segs.length).st).length)⟩ (tkS n p s.gv v (tkP n p fd v n.ports.length) n.segs.length).ix.length := by
     rw [rj]
     rfl
    generalize ha : tkP n p fd v n.ports.length = a at na TSs nb hq hqv hsl2 hhn rj'
    have e0 : tkS n p s.gv v a 0 = ⟨a.st, a.ra, []⟩ := rfl
    simp (maxSteps:=500000) only [↓vp, vv, ↓reduceIte, simprocAttr, c29, r29, c29_1, c29_10, c29_11, c29_12, c29_13, c29_14, c29_15, c29_16, c29_17, c29_18, c29_19, c29_2, c29_20, c29_21, c29_22, c29_23, c29_24, c29_25, c29_26, c29_27, c29_28, c29_29, c29_3, c29_30, c29_31, c29_32, c29_33, c29_34, c29_35, c29_4, c29_5, c29_6, c29_7, c29_8, c29_9, TkT, TkF, Tk4, TkB, TkC, netD, plnD, ha, Int.lt_irrefl]
    refine rng_loopP n.segs.length (fun i (u : Nat × Nat × Nat) => ⟨fr (TkF n fd s.lng (Tk6 n p j v u.1 u.2.1 g3 u.2.2 a.ix (tkS n p s.gv v a i) i)), TkE n p s u.1 u.2.1 g3 u.2.2 a.ix (tkS n p s.gv v a i)⟩) (fun _ _ => True) (u0 := (g1, g2, 0)) ?_ trivial (fun i hi u _ => ?_) (fun u _ => ?_)
    ·exact (weak_eqA [] [(0, 4), (0, 6), (0, 51), (0, 55), (0, 58), (0, 118), (0, 139), (0, 143), (0, 193)] (TkF n fd s.lng (Tk6 n p j v g1 g2 g3 0 a.ix (tkS n p s.gv v a 0) 0)) (by refine ⟨?_, ?_, ?_, by simp, ?_⟩ <;> (simp only [↓vp, vv, ↓reduceIte, simprocAttr, coverS, refsF, TkF, Tk4, Tk6, TkB, TkE, e0, netD, plnD, f_ref, pce_ref, ir_ref, nr_ref] <;> try rfl)))
    ·obtain ⟨g1, g2, g4⟩ := u
     have A := TSs i (by omega)
     have e0 : tkS n p s.gv v a (i + 1) = tSeg n p s.gv v (tkS n p s.gv v a i) i := range_fold _ _ _
     have hi' : (i : Int) < n.segs.length := by omega
     have hir : i < p.rates.length := by omega
     have hir' : (i : Int) < p.rates.length := by omega
     have wi := idx_next (j := i) (by omega)
     have gs := getD_map Seg.row n.segs i hi
     have hne := hv.net.se (sgT n i) (by rw [← sg_at hi]; exact List.getElem_mem _)
     rw [sg_at hi] at gs
     have gr := ir_get hir
     have hgl := T.gl
     have hig : i < s.gv.length := by omega
     have gg := f_get hig
     have fp : fA s.gv i = pA s.gv i := rfl
     rw [fp] at gg
     have hb := rate_in h hi
     have tt := totV_take_le i T.gp
     have tb := T.gb
     have tm := totV_mem T.gp i
     have tl := (T.gp i).len
     have sl := A.p.len
     have sv := A.v
     have sr := A.r
     have si := A.il
     have ai := na.il
     generalize hbb : tkS n p s.gv v a i = b at A sl sv sr si e0
     have q1 : (b.st.length + (pA s.gv i).length) * 16 ≤ 140737488355328 := by omega
     have q2 : b.st.length + (pA s.gv i).length ≤ 4611686018427387904 := by omega
     have q3 : (b.ra.length + 1) * 8 ≤ 140737488355328 := by omega
     have q4 : b.ra.length + 1 ≤ 4611686018427387904 := by omega
     have q5 : (b.ix.length + 1) * 8 ≤ 140737488355328 := by omega
     have q6 : b.ix.length + 1 ≤ 4611686018427387904 := by omega
     have rl : ∀ x : Pce, x.row.length = 2 := fun _ => rfl
     have se : tSeg n p s.gv v b i = if iA p.rates i = 0 then b else if toOf (sgT n i, iA p.rates i) = v then ⟨b.st ++ pA s.gv i, b.ra, b.ix⟩ else if frOf (sgT n i, iA p.rates i) = v then ⟨b.st, b.ra ++ [absI (iA p.rates i)], b.ix ++ [i]⟩ else b := rfl
     rw [se] at e0
     generalize sgT n i = sg at gs e0 hne
     generalize iA p.rates i = r at gr e0 hb
     generalize pA s.gv i = gvi at gg e0 tm tl q1 q2
     have hs1 : segOf1 [ds sg.name, di sg.fr, di sg.to, di sg.cap, di sg.resist, di sg.wave, .sl (sg.points.map Pt.row)] = some sg := segOf1_row sg
     have hft : frOf (sg, r) ≠ toOf (sg, r) := by
      unfold frOf toOf
      dsimp only
      split <;> omega
     have hab : -1000000 ≤ r ∧ r ≤ 1000000 := by omega
     generalize hsf : frOf (sg, r) = sf at e0 hft
     generalize hst : toOf (sg, r) = st at e0 hft
     have fin : ∀ (k1 k2 k3 : Nat) (b : PS3) (s0 : St), tkS n p s.gv v a (i + 1) = b → Weak [] s0 ⟨fr (TkF n fd s.lng (Tk6 n p j v k1 k2 g3 k3 a.ix b ((i + 1 : Nat) : Int))), TkE n p s k1 k2 g3 k3 a.ix b⟩ → Weak [] s0 ⟨fr (TkF n fd s.lng (Tk6 n p j v k1 k2 g3 k3 a.ix (tkS n p s.gv v a (i + 1)) ((i + 1 : Nat) : Int))), TkE n p s k1 k2 g3 k3 a.ix (tkS n p s.gv v a (i + 1))⟩ := fun k1 k2 k3 b s0 he hw => by rw [he]; exact hw
     have hgi : (i : Int) < s.gv.length := by omega
     have hgk : n.segs.length ≤ s.gv.length := by omega
     cases c0 : (r == 0) with
     | true =>
      have c0' : r = 0 := by simpa using c0
      rw [if_pos c0'] at e0
      simp (maxSteps:=500000) only [↓vp, vv, ↓reduceIte, simprocAttr, c29, r29, c29_1, c29_10, c29_11, c29_12, c29_13, c29_14, c29_15, c29_16, c29_17, c29_18, c29_19, c29_2, c29_20, c29_21, c29_22, c29_23, c29_24, c29_25, c29_26, c29_27, c29_28, c29_29, c29_3, c29_30, c29_31, c29_32, c29_33, c29_34, c29_35, c29_4, c29_5, c29_6, c29_7, c29_8, c29_9, TkT, selEnds, selAbs, TkF, Tk6, TkB, TkE, netD, plnD, hbb, hi, hi', hir, hir', hig, gs, gr, gg, hs1, hsf, hst, hab, rl, Seg.row, c0, Int.toNat_natCast, idx_nn]
      refine rng_nextP hi (g1, g2, g4) (fin g1 g2 g4 _ _ e0 ?_) trivial
      exact (weak_eqA [] [(0, 4), (0, 6), (0, 51), (0, 55), (0, 58), (0, 118), (0, 139), (0, 143), (0, 193)] (TkF n fd s.lng (Tk6 n p j v g1 g2 g3 g4 a.ix b ((i + 1 : Nat) : Int))) (by refine ⟨?_, ?_, ?_, by simp, ?_⟩ <;> (simp only [↓vp, vv, ↓reduceIte, simprocAttr, coverS, refsF, TkF, Tk6, TkB, TkE, netD, plnD, List.map_append, Pce.row, iRow, nRow, f_ref, pce_ref, ir_ref, nr_ref, wi] <;> try rfl)))
     | false =>
      have c0' : ¬ r = 0 := by simpa using c0
      rw [if_neg c0'] at e0
      cases ct : (st == (v : Int)) with
      | true =>
       have ct' : st = (v : Int) := by simpa using ct
       have cf : (sf == (v : Int)) = false := by simp; omega
       rw [if_pos ct'] at e0
       simp (maxSteps:=500000) only [↓vp, vv, ↓reduceIte, simprocAttr, c29, r29, c29_1, c29_10, c29_11, c29_12, c29_13, c29_14, c29_15, c29_16, c29_17, c29_18, c29_19, c29_2, c29_20, c29_21, c29_22, c29_23, c29_24, c29_25, c29_26, c29_27, c29_28, c29_29, c29_3, c29_30, c29_31, c29_32, c29_33, c29_34, c29_35, c29_4, c29_5, c29_6, c29_7, c29_8, c29_9, TkT, selEnds, selAbs, TkF, Tk6, TkB, TkE, netD, plnD, hbb, hi, hi', hir, hir', hig, gs, gr, gg, hs1, hsf, hst, hab, rl, Seg.row, c0, ct, cf, q1, q2, hgl, Int.toNat_natCast, idx_nn]
       refine rng_nextP hi (g1 + 1, g2, g4) (fin (g1 + 1) g2 g4 _ _ e0 ?_) trivial
       exact (weak_eqA [] [(0, 4), (0, 6), (0, 51), (0, 55), (0, 58), (0, 118), (0, 139), (0, 143), (0, 193)] (TkF n fd s.lng (Tk6 n p j v (g1 + 1) g2 g3 g4 a.ix (PS3.mk (b.st ++ gvi) b.ra b.ix) ((i + 1 : Nat) : Int))) (by refine ⟨?_, ?_, ?_, by simp, ?_⟩ <;> (simp only [↓vp, vv, ↓reduceIte, simprocAttr, coverS, refsF, TkF, Tk6, TkB, TkE, netD, plnD, List.map_append, Pce.row, iRow, nRow, f_ref, pce_ref, ir_ref, nr_ref, wi] <;> try rfl)))
      | false =>
       have ct' : ¬ st = (v : Int) := by simpa using ct
       rw [if_neg ct'] at e0
       cases cf : (sf == (v : Int)) with
       | true =>
        have cf' : sf = (v : Int) := by simpa using cf
        rw [if_pos cf'] at e0
        simp (maxSteps:=500000) only [↓vp, vv, ↓reduceIte, simprocAttr, c29, r29, c29_1, c29_10, c29_11, c29_12, c29_13, c29_14, c29_15, c29_16, c29_17, c29_18, c29_19, c29_2, c29_20, c29_21, c29_22, c29_23, c29_24, c29_25, c29_26, c29_27, c29_28, c29_29, c29_3, c29_30, c29_31, c29_32, c29_33, c29_34, c29_35, c29_4, c29_5, c29_6, c29_7, c29_8, c29_9, TkT, selEnds, selAbs, TkF, Tk6, TkB, TkE, netD, plnD, hbb, hi, hi', hir, hir', hig, gs, gr, gg, hs1, hsf, hst, hab, rl, Seg.row, c0, ct, cf, q3, q4, q5, q6, Int.toNat_natCast, idx_nn]
        refine rng_nextP hi (g1, g2 + 1, g4 + 1) (fin g1 (g2 + 1) (g4 + 1) _ _ e0 ?_) trivial
        exact (weak_eqA [] [(0, 4), (0, 6), (0, 51), (0, 55), (0, 58), (0, 118), (0, 139), (0, 143), (0, 193)] (TkF n fd s.lng (Tk6 n p j v g1 (g2 + 1) g3 (g4 + 1) a.ix (PS3.mk b.st (b.ra ++ [absI r]) (b.ix ++ [i])) ((i + 1 : Nat) : Int))) (by refine ⟨?_, ?_, ?_, by simp, ?_⟩ <;> (simp only [↓vp, vv, ↓reduceIte, simprocAttr, coverS, refsF, TkF, Tk6, TkB, TkE, netD, plnD, List.map_append, Pce.row, iRow, nRow, f_ref, pce_ref, ir_ref, nr_ref, wi] <;> try rfl)))
       | false =>
        have cf' : ¬ sf = (v : Int) := by simpa using cf
        rw [if_neg cf'] at e0
        simp (maxSteps:=500000) only [↓vp, vv, ↓reduceIte, simprocAttr, c29, r29, c29_1, c29_10, c29_11, c29_12, c29_13, c29_14, c29_15, c29_16, c29_17, c29_18, c29_19, c29_2, c29_20, c29_21, c29_22, c29_23, c29_24, c29_25, c29_26, c29_27, c29_28, c29_29, c29_3, c29_30, c29_31, c29_32, c29_33, c29_34, c29_35, c29_4, c29_5, c29_6, c29_7, c29_8, c29_9, TkT, selEnds, selAbs, TkF, Tk6, TkB, TkE, netD, plnD, hbb, hi, hi', hir, hir', hig, gs, gr, gg, hs1, hsf, hst, hab, rl, Seg.row, c0, ct, cf, Int.toNat_natCast, idx_nn]
        refine rng_nextP hi (g1, g2, g4) (fin g1 g2 g4 _ _ e0 ?_) trivial
        exact (weak_eqA [] [(0, 4), (0, 6), (0, 51), (0, 55), (0, 58), (0, 118), (0, 139), (0, 143), (0, 193)] (TkF n fd s.lng (Tk6 n p j v g1 g2 g3 g4 a.ix b ((i + 1 : Nat) : Int))) (by refine ⟨?_, ?_, ?_, by simp, ?_⟩ <;> (simp only [↓vp, vv, ↓reduceIte, simprocAttr, coverS, refsF, TkF, Tk6, TkB, TkE, netD, plnD, List.map_append, Pce.row, iRow, nRow, f_ref, pce_ref, ir_ref, nr_ref, wi] <;> try rfl)))
    ·obtain ⟨g1, g2, g4⟩ := u
     generalize hb : tkS n p s.gv v a n.segs.length = b at nb hq hqv hsl2 hhn rj'
     generalize hqe : joined b.st = q at hq hqv hhn rj'
     have pfb : PfOk b.st := hsl2
     have c6 : decide ((200 : Int) < (q.length : Int)) = decide (200 < q.length) := decide_eq_decide.2 (by omega)
     obtain ⟨lg, hlg⟩ : ∃ lg, lg = (s.lng || decide (200 < q.length)) := ⟨_, rfl⟩
     rw [← hlg] at rj'
     generalize decide (200 < q.length) = l5 at c6 hlg
     have tq : (b.st.map Pce.row).take b.st.length = b.st.map Pce.row := List.take_of_length_le (by simp)
     have tr : (b.ra.map iRow).take b.ra.length = b.ra.map iRow := List.take_of_length_le (by simp)
     generalize hde : handL q b.ra = de at rj'
     have hrr := handR_eq q b.ra
     rw [hde] at hrr
     generalize hl : s.lng = l0 at hlg
     by_cases c7 : q.length = 0
     ·have c7' : ((q.length : Int) == 0) = true := by simp [c7]
      rw [if_pos c7] at rj'
      have c6' : decide ((200 : Int) < (q.length : Int)) = false := decide_eq_false (by omega)
      have fin : ∀ s0 : St, Weak [] s0 ⟨fr (TkF n fd lg (Tk2 n p ((j + 1 : Nat) : Int))), TkB n p ⟨s.nxt, s.prt, s.gv, lg⟩⟩ → Weak [] s0 ⟨fr (TkF n fd (tRun n p fs fd (j + 1)).lng (Tk2 n p ((j + 1 : Nat) : Int))), TkB n p (tRun n p fs fd (j + 1))⟩ := fun s0 hw => by rw [rj']; exact hw
      rw [c6'] at c6
      subst c6
      rw [Bool.or_false] at hlg
      subst hlg
      cases lg <;> (
       simp (maxSteps:=500000) only [↓vp, vv, ↓reduceIte, simprocAttr, c29, r29, c29_1, c29_10, c29_11, c29_12, c29_13, c29_14, c29_15, c29_16, c29_17, c29_18, c29_19, c29_2, c29_20, c29_21, c29_22, c29_23, c29_24, c29_25, c29_26, c29_27, c29_28, c29_29, c29_3, c29_30, c29_31, c29_32, c29_33, c29_34, c29_35, c29_4, c29_5, c29_6, c29_7, c29_8, c29_9, TkT, selJo, selX, decPf, pcsOf_map, pfb, TkF, Tk6, TkB, TkE, netD, plnD, hl, hb, hqe, tq, c6', c7', pcs_pl, Int.lt_irrefl]
       refine rng_next hj (fin _ ?_) trivial
       exact (weak_eqA [] [(0, 4), (0, 6), (0, 51), (0, 55), (0, 58)] (TkF n fd _ (Tk2 n p ((j + 1 : Nat) : Int))) (by refine ⟨?_, ?_, ?_, by simp, ?_⟩ <;> (simp only [↓vp, vv, ↓reduceIte, simprocAttr, coverS, refsF, TkF, Tk2, Tk6, TkB, TkE, netD, plnD, f_ref, pce_ref, ir_ref, nr_ref, w1] <;> try rfl))))
     ·have c7' : ((q.length : Int) == 0) = false := by simp [c7]
      rw [if_neg c7] at rj'
      have hk := hhn c7
      obtain ⟨d1, d2, d3⟩ := hand_spec hk.pos hq.r (by omega)
      rw [hde] at d1 d2 d3
      have e8 : tOut de a.ix s.prt 0 = s.prt := rfl
      have na2 := na.r
      have nb2 := nb.r
      have nal := na.il
      have nbl := nb.il
      have hdl2 : de.length = a.ix.length + b.ix.length := by omega
      obtain ⟨s1, es1⟩ : ∃ s1, s1 = (⟨s.nxt, tOut de a.ix s.prt a.ix.length, s.gv, lg⟩ : TS) := ⟨_, rfl⟩
      rw [← es1] at rj'
      have e10a : (tPushs p de a.ix.length b.ix s1 0).nxt = s.nxt := by rw [es1]; rfl
      have e10b : s1.prt = tOut de a.ix s.prt a.ix.length := by rw [es1]
      have e10c : (tPushs p de a.ix.length b.ix s1 0).gv = s.gv := by rw [es1]; rfl
      have e10d : s1.lng = lg := by rw [es1]
      have T1 : TkI M B n s1 := by rw [es1]; exact ⟨T.nl, T.gl, by dsimp only; rw [tOut_len]; exact T.pl, T.nx, T.gp, T.gb⟩
      cases l0 <;> cases l5 <;> simp only [Bool.or_false, Bool.or_true, Bool.true_or] at hlg <;> (
       simp (maxSteps:=500000) only [↓vp, vv, ↓reduceIte, simprocAttr, c29, r29, c29_1, c29_10, c29_11, c29_12, c29_13, c29_14, c29_15, c29_16, c29_17, c29_18, c29_19, c29_2, c29_20, c29_21, c29_22, c29_23, c29_24, c29_25, c29_26, c29_27, c29_28, c29_29, c29_3, c29_30, c29_31, c29_32, c29_33, c29_34, c29_35, c29_4, c29_5, c29_6, c29_7, c29_8, c29_9, TkT, selJo, selHn, decHn, ir_dec, Option.bind_some, Option.map_some, selX, decPf, pcsOf_map, pfb, hk, hrr, TkF, Tk6, TkB, TkE, netD, plnD, hl, hb, hqe, tq, tr, c6, c7', pcs_pl, ir_pl, Int.lt_irrefl]
       refine rng_loop a.ix.length (fun k => ⟨fr (TkF n fd lg (Tk8 n p j g3 g4 a.ix b.ix de (k : Nat))), TkG n p s.nxt (tOut de a.ix s.prt k) s.gv g3 g4 a.ix b.ix⟩) (fun _ => True) ?_ trivial (fun k hk _ => ?_) (fun _ => ?_)
       ·exact (weak_eqA [] [(0, 4), (0, 6), (0, 51), (0, 55), (0, 58), (0, 143), (0, 193)] (TkF n fd lg (Tk8 n p j g3 g4 a.ix b.ix de 0)) (by refine ⟨?_, ?_, ?_, by simp, ?_⟩ <;> (simp only [↓vp, vv, ↓reduceIte, simprocAttr, coverS, refsF, TkF, Tk6, Tk8, TkE, TkG, e8, hlg, netD, plnD, f_ref, pce_ref, ir_ref, nr_ref] <;> try rfl)))
       ·have hk' : (k : Int) < a.ix.length := by omega
        have gk := nx_at hk
        have hi := ixA na.ix hk
        have e1 : tOut de a.ix s.prt (k + 1) = (tOut de a.ix s.prt k).set (a.ix.getD k 0) (pA de k) := range_fold _ _ _
        have ol := tOut_len de a.ix s.prt k
        have hpl2 := T.pl
        generalize tOut de a.ix s.prt k = P at e1 ol
        generalize a.ix.getD k 0 = i at hi gk e1
        have hdk : k < de.length := by omega
        have hdk' : (k : Int) < de.length := by omega
        have gd := f_get hdk
        have hip : i < P.length := by omega
        have hip2 : i < n.ports.length := by omega
        have hip' : (i : Int) < n.ports.length := by omega
        have wk := idx_next (j := k) (by omega)
        have ms : (P.map fR).set i [.sl ((pA de k).map Pce.row)] = (P.set i (pA de k)).map fR := List.map_set.symm
        have fp : fA de k = pA de k := rfl
        rw [fp] at gd
        have mg := f_get hip
        have Pl : P.length = n.ports.length := by omega
        have fin : ∀ s0 : St, Weak [] s0 ⟨fr (TkF n fd lg (Tk8 n p j g3 g4 a.ix b.ix de ((k + 1 : Nat) : Int))), TkG n p s.nxt (P.set i (pA de k)) s.gv g3 g4 a.ix b.ix⟩ → Weak [] s0 ⟨fr (TkF n fd lg (Tk8 n p j g3 g4 a.ix b.ix de ((k + 1 : Nat) : Int))), TkG n p s.nxt (tOut de a.ix s.prt (k + 1)) s.gv g3 g4 a.ix b.ix⟩ := fun s0 hw => by rw [e1]; exact hw
        simp (maxSteps:=500000) only [↓vp, vv, ↓reduceIte, simprocAttr, c29, r29, c29_1, c29_10, c29_11, c29_12, c29_13, c29_14, c29_15, c29_16, c29_17, c29_18, c29_19, c29_2, c29_20, c29_21, c29_22, c29_23, c29_24, c29_25, c29_26, c29_27, c29_28, c29_29, c29_3, c29_30, c29_31, c29_32, c29_33, c29_34, c29_35, c29_4, c29_5, c29_6, c29_7, c29_8, c29_9, TkT, TkF, Tk8, TkG, netD, plnD, hk, hk', gk, gd, mg, nRow, hdk, hdk', hip, hip2, hip', Pl, Int.toNat_natCast, idx_nn]
        refine rng_next hk (fin _ ?_) trivial
        exact (weak_eqA [] [(0, 4), (0, 6), (0, 51), (0, 55), (0, 58), (0, 143), (0, 193)] (TkF n fd lg (Tk8 n p j g3 g4 a.ix b.ix de ((k + 1 : Nat) : Int))) (by refine ⟨?_, ?_, ?_, by simp, ?_⟩ <;> (simp only [↓vp, vv, ↓reduceIte, simprocAttr, coverS, refsF, TkF, Tk8, TkG, netD, plnD, ms, f_ref, pce_ref, ir_ref, nr_ref, wk] <;> try rfl)))
       ·simp (maxSteps:=500000) only [↓vp, vv, ↓reduceIte, simprocAttr, c29, r29, c29_1, c29_10, c29_11, c29_12, c29_13, c29_14, c29_15, c29_16, c29_17, c29_18, c29_19, c29_2, c29_20, c29_21, c29_22, c29_23, c29_24, c29_25, c29_26, c29_27, c29_28, c29_29, c29_3, c29_30, c29_31, c29_32, c29_33, c29_34, c29_35, c29_4, c29_5, c29_6, c29_7, c29_8, c29_9, TkT, TkF, Tk8, TkG, netD, plnD, Int.lt_irrefl]
        refine rng_loop b.ix.length (fun k => ⟨fr (TkF n fd lg (Tk10 n p j g3 g4 a.ix b.ix de (k : Nat))), TkG n p (tPushs p de a.ix.length b.ix s1 k).nxt s1.prt (tPushs p de a.ix.length b.ix s1 k).gv g3 g4 a.ix b.ix⟩) (fun _ => True) ?_ trivial (fun k hk _ => ?_) (fun _ => ?_)
        ·exact (weak_eqA [] [(0, 4), (0, 6), (0, 51), (0, 55), (0, 58), (0, 143), (0, 193)] (TkF n fd lg (Tk10 n p j g3 g4 a.ix b.ix de 0)) (by refine ⟨?_, ?_, ?_, by simp, ?_⟩ <;> (simp only [↓vp, vv, ↓reduceIte, simprocAttr, coverS, refsF, TkF, Tk8, Tk10, TkG, e10a, e10b, e10c, netD, plnD, f_ref, pce_ref, ir_ref, nr_ref] <;> try rfl)))
        ·have hk' : (k : Int) < b.ix.length := by omega
         have T2 := tPushs_spec h T1 (lp := a.ix.length) d2 (by omega) nb.ix (by omega) k (by omega)
         have e1 : tPushs p de a.ix.length b.ix s1 (k + 1) = tPush p de a.ix.length b.ix (tPushs p de a.ix.length b.ix s1 k) k := range_fold _ _ _
         have gk := nx_at hk
         have hi := ixA nb.ix hk
         unfold tPush at e1
         dsimp only at e1
         generalize tPushs p de a.ix.length b.ix s1 k = s2 at e1 T2
         generalize b.ix.getD k 0 = i at hi gk e1
         have hi' : (i : Int) < n.segs.length := by omega
         have hil : i < p.rates.length := by omega
         have hil' : (i : Int) < p.rates.length := by omega
         have nl2 := T2.nl
         have gl2 := T2.gl
         have hdk : a.ix.length + k < de.length := by omega
         have hdk' : ((a.ix.length + k : Nat) : Int) < de.length := by omega
         have gd := f_get hdk
         have fp : fA de (a.ix.length + k) = pA de (a.ix.length + k) := rfl
         rw [fp] at gd
         have wk2 : IntKind.i64.wrap ((a.ix.length : Int) + (k : Int)) = ((a.ix.length + k : Nat) : Int) := by rw [wrap_i (by omega)]; omega
         have gr := ir_get hil
         have mgN := f_get (l := s2.nxt) (j := i) (by omega)
         have fpN : fA s2.nxt i = pA s2.nxt i := rfl
         rw [fpN] at mgN
         have mgG := f_get (l := s2.gv) (j := i) (by omega)
         have wk := idx_next (j := k) (by omega)
         obtain ⟨⟨n1, n2⟩, n3⟩ := T2.nx i hi
         have nlen := n1.len
         have hcap := h.cp i hi
         have x1 := d2 (a.ix.length + k)
         have x2 := totV_mem d2 (a.ix.length + k)
         have xlen := x1.len
         generalize pA de (a.ix.length + k) = x at gd e1 x1 x2 xlen
         generalize pA s2.nxt i = y at mgN e1 n1 n2 n3 nlen
         have fin : ∀ (X Y : List (List Pce)) (s0 : St), (tPushs p de a.ix.length b.ix s1 (k + 1)).nxt = X → (tPushs p de a.ix.length b.ix s1 (k + 1)).gv = Y → Weak [] s0 ⟨fr (TkF n fd lg (Tk10 n p j g3 g4 a.ix b.ix de ((k + 1 : Nat) : Int))), TkG n p X s1.prt Y g3 g4 a.ix b.ix⟩ → Weak [] s0 ⟨fr (TkF n fd lg (Tk10 n p j g3 g4 a.ix b.ix de ((k + 1 : Nat) : Int))), TkG n p (tPushs p de a.ix.length b.ix s1 (k + 1)).nxt s1.prt (tPushs p de a.ix.length b.ix s1 (k + 1)).gv g3 g4 a.ix b.ix⟩ := fun X Y s0 hx hy hw => by rw [hx, hy]; exact hw
         have pfx : PfOk x := (show x.length ≤ 1000000 by omega)
         have pfr : PfOk x.reverse := (show x.reverse.length ≤ 1000000 by rw [List.length_reverse]; omega)
         have ms : ∀ z : List Pce, (s2.nxt.map fR).set i [.sl (z.map Pce.row)] = (s2.nxt.set i z).map fR := fun z => List.map_set.symm
         have mt : ∀ z : List Pce, (s2.gv.map fR).set i [.sl (z.map Pce.row)] = (s2.gv.set i z).map fR := fun z => List.map_set.symm
         generalize iA p.rates i = r at gr e1
         cases c : decide (r < 0) with
         | true =>
          rw [c] at e1
          simp only [↓reduceIte] at e1
          obtain ⟨-, z1, z2⟩ := shift_spec n1 x1 true (by omega) (by omega)
          have zlen := z1.len
          have sho : ShOk (y, x, true) := ⟨(show y.length ≤ 500000 by omega), (show x.length ≤ 500000 by omega)⟩
          generalize hsh : shiftL y x true = sh at e1 z1 z2 zlen
          simp (maxSteps:=500000) only [↓vp, vv, ↓reduceIte, simprocAttr, c29, r29, c29_1, c29_10, c29_11, c29_12, c29_13, c29_14, c29_15, c29_16, c29_17, c29_18, c29_19, c29_2, c29_20, c29_21, c29_22, c29_23, c29_24, c29_25, c29_26, c29_27, c29_28, c29_29, c29_3, c29_30, c29_31, c29_32, c29_33, c29_34, c29_35, c29_4, c29_5, c29_6, c29_7, c29_8, c29_9, TkT, selTu, selShf, selX, decPf, decShf, pcsOf_map, Option.bind_some, Option.map_some, TkF, Tk10, TkG, netD, plnD, hk, hk', hi, hi', hil, hil', gk, gd, gr, mgN, mgG, hdk, hdk', wk2, nl2, gl2, nRow, c, sho, hsh, pcs_pl, Int.toNat_natCast, idx_nn]
          refine rng_next hk (fin _ _ _ (congrArg TS.nxt e1) (congrArg TS.gv e1) ?_) trivial
          exact (weak_eqA [] [(0, 4), (0, 6), (0, 51), (0, 55), (0, 58), (0, 143), (0, 193)] (TkF n fd lg (Tk10 n p j g3 g4 a.ix b.ix de ((k + 1 : Nat) : Int))) (by refine ⟨?_, ?_, ?_, by simp, ?_⟩ <;> (simp only [↓vp, vv, ↓reduceIte, simprocAttr, coverS, refsF, TkF, Tk10, TkG, netD, plnD, ms, mt, f_ref, pce_ref, ir_ref, nr_ref, wk] <;> try rfl)))
         | false =>
          rw [c] at e1
          simp only [Bool.false_eq_true, ↓reduceIte] at e1
          obtain ⟨-, z1, z2⟩ := shift_spec n1 x1.rev false (by omega) (by rw [volS_rev]; omega)
          rw [volS_rev] at z2
          have zlen := z1.len
          have sho : ShOk (y, x.reverse, false) := ⟨(show y.length ≤ 500000 by omega), (show x.reverse.length ≤ 500000 by rw [List.length_reverse]; omega)⟩
          generalize hsh : shiftL y x.reverse false = sh at e1 z1 z2 zlen
          have pfs : PfOk sh.2 := (show sh.2.length ≤ 1000000 by omega)
          simp (maxSteps:=500000) only [↓vp, vv, ↓reduceIte, simprocAttr, c29, r29, c29_1, c29_10, c29_11, c29_12, c29_13, c29_14, c29_15, c29_16, c29_17, c29_18, c29_19, c29_2, c29_20, c29_21, c29_22, c29_23, c29_24, c29_25, c29_26, c29_27, c29_28, c29_29, c29_3, c29_30, c29_31, c29_32, c29_33, c29_34, c29_35, c29_4, c29_5, c29_6, c29_7, c29_8, c29_9, TkT, selTu, selShf, selX, decPf, decShf, pcsOf_map, Option.bind_some, Option.map_some, TkF, Tk10, TkG, netD, plnD, hk, hk', hi, hi', hil, hil', gk, gd, gr, mgN, mgG, hdk, hdk', wk2, nl2, gl2, nRow, c, sho, hsh, pfx, pfs, pcs_pl, Int.toNat_natCast, idx_nn]
          refine rng_next hk (fin _ _ _ (congrArg TS.nxt e1) (congrArg TS.gv e1) ?_) trivial
          exact (weak_eqA [] [(0, 4), (0, 6), (0, 51), (0, 55), (0, 58), (0, 143), (0, 193)] (TkF n fd lg (Tk10 n p j g3 g4 a.ix b.ix de ((k + 1 : Nat) : Int))) (by refine ⟨?_, ?_, ?_, by simp, ?_⟩ <;> (simp only [↓vp, vv, ↓reduceIte, simprocAttr, coverS, refsF, TkF, Tk10, TkG, netD, plnD, ms, mt, f_ref, pce_ref, ir_ref, nr_ref, wk] <;> try rfl)))
        ·have fin : ∀ s0 : St, Weak [] s0 ⟨fr (TkF n fd lg (Tk2 n p ((j + 1 : Nat) : Int))), TkB n p (tPushs p de a.ix.length b.ix s1 b.ix.length)⟩ → Weak [] s0 ⟨fr (TkF n fd (tRun n p fs fd (j + 1)).lng (Tk2 n p ((j + 1 : Nat) : Int))), TkB n p (tRun n p fs fd (j + 1))⟩ := fun s0 hw => by rw [rj', tPushs_lng, e10d]; exact hw
         have ep := tPushs_prt p de a.ix.length b.ix s1 b.ix.length
         generalize tPushs p de a.ix.length b.ix s1 b.ix.length = s3 at fin ep
         simp (maxSteps:=500000) only [↓vp, vv, ↓reduceIte, simprocAttr, c29, r29, c29_1, c29_10, c29_11, c29_12, c29_13, c29_14, c29_15, c29_16, c29_17, c29_18, c29_19, c29_2, c29_20, c29_21, c29_22, c29_23, c29_24, c29_25, c29_26, c29_27, c29_28, c29_29, c29_3, c29_30, c29_31, c29_32, c29_33, c29_34, c29_35, c29_4, c29_5, c29_6, c29_7, c29_8, c29_9, TkT, TkF, Tk10, TkG, netD, plnD, Int.lt_irrefl]
         refine rng_next hj (fin _ ?_) trivial
         exact (weak_eqA [] [(0, 4), (0, 6), (0, 51), (0, 55), (0, 58)] (TkF n fd lg (Tk2 n p ((j + 1 : Nat) : Int))) (by refine ⟨?_, ?_, ?_, by simp, ?_⟩ <;> (simp only [↓vp, vv, ↓reduceIte, simprocAttr, coverS, refsF, TkF, Tk2, Tk10, TkB, TkG, ep, netD, plnD, f_ref, pce_ref, ir_ref, nr_ref, w1] <;> try rfl))))
  ·have T := tRun_spec h (ordB n p).length (Nat.le_refl _)
   have hte : tRun n p fs fd (ordB n p).length = tEnd n p fs fd := rfl
   rw [hte] at T ⊢
   generalize tEnd n p fs fd = s at T ⊢
   have nl := T.nl
   have gl := T.gl
   have pl := T.pl
   simp (maxSteps:=500000) only [↓vp, vv, ↓reduceIte, simprocAttr, c29, r29, c29_1, c29_10, c29_11, c29_12, c29_13, c29_14, c29_15, c29_16, c29_17, c29_18, c29_19, c29_2, c29_20, c29_21, c29_22, c29_23, c29_24, c29_25, c29_26, c29_27, c29_28, c29_29, c29_3, c29_30, c29_31, c29_32, c29_33, c29_34, c29_35, c29_4, c29_5, c29_6, c29_7, c29_8, c29_9, TkT, TkF, Tk2, TkB, netD, plnD, Int.lt_irrefl]
   refine rng_loop n.segs.length (fun k => ⟨fr (Tk12 n (lngA s s.lng k) (k : Nat)), TkZ s⟩) (fun _ => True) ?_ trivial (fun k hk _ => ?_) (fun _ => ?_)
   ·have e : lngA s s.lng 0 = s.lng := rfl
    exact (weak_eqA [] [(0, 51), (0, 55), (0, 58)] (Tk12 n (lngA s s.lng 0) 0) (by refine ⟨?_, ?_, ?_, by simp, ?_⟩ <;> (simp only [↓vp, vv, ↓reduceIte, simprocAttr, coverS, refsF, TkF, Tk2, Tk12, TkB, TkZ, e, netD, plnD, f_ref] <;> try rfl)))
   ·have hk' : (k : Int) < n.segs.length := by omega
    have e1 : lngA s s.lng (k + 1) = ((lngA s s.lng k || decide (200 < (pA s.nxt k).length)) || decide (200 < (pA s.gv k).length)) := range_fold _ _ _
    have mgN := f_get (l := s.nxt) (j := k) (by omega)
    have fpN : fA s.nxt k = pA s.nxt k := rfl
    rw [fpN] at mgN
    have mgG := f_get (l := s.gv) (j := k) (by omega)
    have fpG : fA s.gv k = pA s.gv k := rfl
    rw [fpG] at mgG
    have wk := idx_next (j := k) (by omega)
    generalize pA s.nxt k = x at mgN e1
    generalize pA s.gv k = y at mgG e1
    have c1 : decide ((200 : Int) < (x.length : Int)) = decide (200 < x.length) := decide_eq_decide.2 (by omega)
    have c2 : decide ((200 : Int) < (y.length : Int)) = decide (200 < y.length) := decide_eq_decide.2 (by omega)
    generalize decide (200 < x.length) = b1 at c1 e1
    generalize decide (200 < y.length) = b2 at c2 e1
    have fin : ∀ (b : Bool) (s0 : St), lngA s s.lng (k + 1) = b → Weak [] s0 ⟨fr (Tk12 n b ((k + 1 : Nat) : Int)), TkZ s⟩ → Weak [] s0 ⟨fr (Tk12 n (lngA s s.lng (k + 1)) ((k + 1 : Nat) : Int)), TkZ s⟩ := fun b s0 hb hw => by rw [hb]; exact hw
    generalize hl : lngA s s.lng k = l at e1
    cases l <;> cases b1 <;> cases b2 <;> (
     simp (maxSteps:=500000) only [↓vp, vv, ↓reduceIte, simprocAttr, c29, r29, c29_1, c29_10, c29_11, c29_12, c29_13, c29_14, c29_15, c29_16, c29_17, c29_18, c29_19, c29_2, c29_20, c29_21, c29_22, c29_23, c29_24, c29_25, c29_26, c29_27, c29_28, c29_29, c29_3, c29_30, c29_31, c29_32, c29_33, c29_34, c29_35, c29_4, c29_5, c29_6, c29_7, c29_8, c29_9, TkT, hl, Tk12, TkZ, hk, hk', nl, gl, mgN, mgG, c1, c2, Int.toNat_natCast, idx_nn]
     refine rng_next hk (fin _ _ e1 ?_) trivial
     exact (weak_eqA [] [(0, 51), (0, 55), (0, 58)] (Tk12 n _ ((k + 1 : Nat) : Int)) (by refine ⟨?_, ?_, ?_, by simp, ?_⟩ <;> (simp only [↓vp, vv, ↓reduceIte, simprocAttr, coverS, refsF, Tk12, TkZ, Bool.or_false, Bool.or_true, Bool.true_or, Bool.false_or, f_ref, wk] <;> try rfl))))
   ·have e0 : lngA s s.lng n.segs.length = lngA s s.lng s.nxt.length := by rw [nl]
    rw [e0]
    generalize hl0 : lngA s s.lng s.nxt.length = l0
    simp (maxSteps:=500000) only [↓vp, vv, ↓reduceIte, simprocAttr, c29, r29, c29_1, c29_10, c29_11, c29_12, c29_13, c29_14, c29_15, c29_16, c29_17, c29_18, c29_19, c29_2, c29_20, c29_21, c29_22, c29_23, c29_24, c29_25, c29_26, c29_27, c29_28, c29_29, c29_3, c29_30, c29_31, c29_32, c29_33, c29_34, c29_35, c29_4, c29_5, c29_6, c29_7, c29_8, c29_9, TkT, Tk12, TkZ, Int.lt_irrefl]
    refine rng_loop n.ports.length (fun k => ⟨fr (Tk14 n (lngP s l0 k) (k : Nat)), TkY s⟩) (fun _ => True) ?_ trivial (fun k hk _ => ?_) (fun _ => ?_)
    ·have e : lngP s l0 0 = l0 := rfl
     exact (weak_eqA [] [(0, 51), (0, 55)] (Tk14 n (lngP s l0 0) 0) (by refine ⟨?_, ?_, ?_, by simp, ?_⟩ <;> (simp only [↓vp, vv, ↓reduceIte, simprocAttr, coverS, refsF, Tk12, Tk14, TkZ, TkY, e, f_ref] <;> try rfl)))
    ·have hk' : (k : Int) < n.ports.length := by omega
     have e1 : lngP s l0 (k + 1) = (lngP s l0 k || decide (200 < (pA s.prt k).length)) := range_fold _ _ _
     have mgN := f_get (l := s.prt) (j := k) (by omega)
     have fpN : fA s.prt k = pA s.prt k := rfl
     rw [fpN] at mgN
     have wk := idx_next (j := k) (by omega)
     generalize pA s.prt k = x at mgN e1
     have c1 : decide ((200 : Int) < (x.length : Int)) = decide (200 < x.length) := decide_eq_decide.2 (by omega)
     generalize decide (200 < x.length) = b1 at c1 e1
     have fin : ∀ (b : Bool) (s0 : St), lngP s l0 (k + 1) = b → Weak [] s0 ⟨fr (Tk14 n b ((k + 1 : Nat) : Int)), TkY s⟩ → Weak [] s0 ⟨fr (Tk14 n (lngP s l0 (k + 1)) ((k + 1 : Nat) : Int)), TkY s⟩ := fun b s0 hb hw => by rw [hb]; exact hw
     generalize hl : lngP s l0 k = l at e1
     cases l <;> cases b1 <;> (
      simp (maxSteps:=500000) only [↓vp, vv, ↓reduceIte, simprocAttr, c29, r29, c29_1, c29_10, c29_11, c29_12, c29_13, c29_14, c29_15, c29_16, c29_17, c29_18, c29_19, c29_2, c29_20, c29_21, c29_22, c29_23, c29_24, c29_25, c29_26, c29_27, c29_28, c29_29, c29_3, c29_30, c29_31, c29_32, c29_33, c29_34, c29_35, c29_4, c29_5, c29_6, c29_7, c29_8, c29_9, TkT, hl, Tk14, TkY, hk, hk', pl, mgN, c1, Int.toNat_natCast, idx_nn]
      refine rng_next hk (fin _ _ e1 ?_) trivial
      exact (weak_eqA [] [(0, 51), (0, 55)] (Tk14 n _ ((k + 1 : Nat) : Int)) (by refine ⟨?_, ?_, ?_, by simp, ?_⟩ <;> (simp only [↓vp, vv, ↓reduceIte, simprocAttr, coverS, refsF, Tk14, TkY, Bool.or_false, Bool.or_true, Bool.true_or, Bool.false_or, f_ref, wk] <;> try rfl))))
    ·have et : lngP s l0 n.ports.length = tLong s := by rw [← hl0]; unfold tLong; rw [pl]
     rw [et]
     have t1 : (s.nxt.map fR).take n.segs.length = s.nxt.map fR := List.take_of_length_le (by simp; omega)
     have t2 : (s.prt.map fR).take n.ports.length = s.prt.map fR := List.take_of_length_le (by simp; omega)
     have u1 : n.segs.length ≤ s.nxt.length := by omega
     have u2 : n.ports.length ≤ s.prt.length := by omega
     cases hl : tLong s with
     | true => simp (maxSteps:=500000) only [↓vp, vv, ↓reduceIte, simprocAttr, c29, r29, c29_1, c29_10, c29_11, c29_12, c29_13, c29_14, c29_15, c29_16, c29_17, c29_18, c29_19, c29_2, c29_20, c29_21, c29_22, c29_23, c29_24, c29_25, c29_26, c29_27, c29_28, c29_29, c29_3, c29_30, c29_31, c29_32, c29_33, c29_34, c29_35, c29_4, c29_5, c29_6, c29_7, c29_8, c29_9, r29, TkT, Tk14, TkY, hl, tkRes, Int.lt_irrefl, Pu]
     | false => simp (maxSteps:=500000) only [↓vp, vv, ↓reduceIte, simprocAttr, c29, r29, c29_1, c29_10, c29_11, c29_12, c29_13, c29_14, c29_15, c29_16, c29_17, c29_18, c29_19, c29_2, c29_20, c29_21, c29_22, c29_23, c29_24, c29_25, c29_26, c29_27, c29_28, c29_29, c29_3, c29_30, c29_31, c29_32, c29_33, c29_34, c29_35, c29_4, c29_5, c29_6, c29_7, c29_8, c29_9, r29, TkT, Tk14, TkY, hl, tkRes, t1, t2, u1, u2, f_pl, Int.lt_irrefl, Pu]
end Go.Proofs.Ytadjhfjiimgddaa
