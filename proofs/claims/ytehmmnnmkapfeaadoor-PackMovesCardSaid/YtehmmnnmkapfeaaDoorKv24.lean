/- PackMoves: Pv2. -/
import Derived.Test.YtehmmnnmkapfeaaDoorKv23
import Derived.Test.YtehmmnnmkapfeaaDoorKv19
import Derived.Test.YtehmmnnmkapfeaaDoorKv18
set_option linter.unusedSimpArgs false
set_option linter.unusedVariables false
set_option maxRecDepth 100000

/- PackMoves: the walk. -/
namespace Go.Proofs.YtehmmnnmkapfeaaDoor
open Go
def selTk : List D → Option (Prop × D) := selX decTk (fun a => TkM 4 a.n a.p a.fs a.fd) fun a => tickD (tEnd a.n a.p a.fs a.fd)
theorem tc_tick {T : Tbl} (hT : TblOk Tryd.prog T) : TblOk Tryd.prog (tc 50 (rowPu selTk) T) := tc_x f50_ok decTk_eq (fun a h nn => tick_c h nn) hT
def PwA : Tbl := tc 42 (rowPu selAl) (tc 44 (rowPu selSq) (tc 37 (rowPu selSc) (tc 38 (rowPu selCg) T0)))
def PwT : Tbl := tc 9 (rowPu selFe) (tc 28 (rowPu selAw) (tc 11 rowNew (tc 39 (rowSrc (sel0 NetOk) Net.enc) (tc 29 rowPdO (tc 30 rowBtO (tc 40 rowFls (tc 48 (rowSrc selPlan Pln.enc) (tc 49 (rowSrc selFds fun c => .sl (c.map iRow)) (tc 50 (rowPu selTk) PwA)))))))))
theorem PwT_ok : TblOk Tryd.prog PwT := tc_fewe (tc_aw33 (tc_new (tc_net (tc_pdO (tc_btO (tc_fls (tc_plan (tc_fds (tc_tick (tc_al (tc_sq (tc_sc (tc_cg (T0_ok _))))))))))))))
def pvN (t : Nat) : Nm := if t = 30 then (0, 38) else if t = 38 then (0, 30) else if t = 41 then (0, 49) else if t = 49 then (0, 41) else (0, t)
def PmvF (g1 g2 g : Nat) (ps : List Prd) (bs : List Bat) (k : Nat) (fd : List Int) : List (Nat × D) := [(4, .ptr (0, 4) 0 0 0), (5, .own (0, 34) g1 0 ps.length), (6, .own (0, 30) g2 0 bs.length), (7, .own (0, 49) g 0 (k + 1)), (8, .ptr (0, 8) 0 0 0), (9, .sl (fd.map iRow))]
def PmvW (n : Net) (p : Pln) (ps : List Prd) (bs : List Bat) (f0 : List Pce) (rest : List (List Pce)) (g1 g2 g g5 : Nat) : List (Nm × En) := [((0, 4), ⟨0, 6, [netD n]⟩), ((0, 8), ⟨0, 3, [plnD p]⟩), ((0, 30), ⟨g2, 4, bs.map Bat.row⟩), ((0, 34), ⟨g1, 5, ps.map Prd.row⟩), ((0, 49), ⟨g, 1, [.own (0, 5049) g5 0 f0.length] :: rest.map fR⟩), ((0, 5049), ⟨g5, 2, f0.map Pce.row⟩)]
def PmvV (n : Net) (p : Pln) (ps : List Prd) (bs : List Bat) (fs : List (List Pce)) (g1 g2 g : Nat) : Hp := ((((Hp.none.put (0, 49) ⟨g, 1, fs.map fR⟩).put (0, 34) ⟨g1, 5, ps.map Prd.row⟩).put (0, 30) ⟨g2, 4, bs.map Bat.row⟩).put (0, 8) ⟨0, 3, [plnD p]⟩).put (0, 4) ⟨0, 6, [netD n]⟩
theorem prd_v (x : Prd) : rowV x.row = true := rfl
theorem bat_v (x : Bat) : rowV x.row = true := rfl
theorem prd_ref (js : List Nm) (x : Prd) : refsInL js x.row = true := rfl
theorem bat_ref (js : List Nm) (x : Bat) : refsInL js x.row = true := rfl
theorem pv_frz (n : Net) (p : Pln) (ps : List Prd) (bs : List Bat) (f0 : List Pce) (rest : List (List Pce)) (g1 g2 g g5 : Nat) (fd : List Int) : Weak [] ⟨fr (PmvF g1 g2 g ps bs rest.length fd), hp (PmvW n p ps bs f0 rest g1 g2 g g5)⟩ ⟨fr (PmvF g1 g2 g ps bs rest.length fd), PmvV n p ps bs (f0 :: rest) g1 g2 g⟩ := by
 have ra := fun ks H => fun w => rows_ok fR fR_v' ks H w
 have rb := fun ks H => fun w => rows_ok Pce.row pce_v' ks H w
 have rb2 := fun ks H => fun w => rows_ok Prd.row prd_v ks H w
 have rb3 := fun ks H => fun w => rows_ok Bat.row bat_v ks H w
 have rc := fun ks H => fun w => rows_fz' fR fR_v' ks H w
 have rd := fun ks H => fun w => rows_fz' Pce.row pce_v' ks H w
 have rd2 := fun ks H => fun w => rows_fz' Prd.row prd_v ks H w
 have rd3 := fun ks H => fun w => rows_fz' Bat.row bat_v ks H w
 have re := fun w => rows_pl Pce.row pce_v' w
 have t3 : (f0.map Pce.row).take f0.length = f0.map Pce.row := List.take_of_length_le (by simp)
 have rf : (f0 :: rest).map fR = [D.sl (f0.map Pce.row)] :: rest.map fR := rfl
 exact (Weak.refl [] _).trans (weak_fz [(0, 5049)] [(0, 4), (0, 8), (0, 30), (0, 34), (0, 49)] (l := (PmvF g1 g2 g ps bs rest.length fd)) (h := (PmvW n p ps bs f0 rest g1 g2 g g5)) (l' := (PmvF g1 g2 g ps bs rest.length fd)) (H' := (PmvV n p ps bs (f0 :: rest) g1 g2 g)) (by simp only [↓vp, vv, ↓reduceIte, simprocAttr, vz, listB, okKd, okK, lendKd, lendK, lendOk1B, frzF, Option.map_some, cond_true, cond_false, decide_true, decide_false, Bool.and_self, PmvW, PmvF, PmvV, netD, plnD, listB_app', ra, rb, rb2, rb3, rc, rd, rd2, rd3, re, rf, t3, f_ref, prd_ref, bat_ref, List.map_append, List.map_cons, List.map_nil]) (by simp only [↓vp, vv, ↓reduceIte, simprocAttr, vz, listB, okKd, okK, lendKd, lendK, lendOk1B, frzF, Option.map_some, cond_true, cond_false, decide_true, decide_false, Bool.and_self, PmvW, PmvF, PmvV, netD, plnD, listB_app', ra, rb, rb2, rb3, rc, rd, rd2, rd3, re, rf, t3, f_ref, prd_ref, bat_ref, List.map_append, List.map_cons, List.map_nil]) (by simp only [↓vp, vv, ↓reduceIte, simprocAttr, vz, listB, okKd, okK, lendKd, lendK, lendOk1B, frzF, Option.map_some, cond_true, cond_false, decide_true, decide_false, Bool.and_self, PmvW, PmvF, PmvV, netD, plnD, listB_app', ra, rb, rb2, rb3, rc, rd, rd2, rd3, re, rf, t3, f_ref, prd_ref, bat_ref, List.map_append, List.map_cons, List.map_nil]; try rfl) (by simp only [↓vp, vv, ↓reduceIte, simprocAttr, vz, listB, okKd, okK, lendKd, lendK, lendOk1B, frzF, Option.map_some, cond_true, cond_false, decide_true, decide_false, Bool.and_self, PmvW, PmvF, PmvV, netD, plnD, listB_app', ra, rb, rb2, rb3, rc, rd, rd2, rd3, re, rf, t3, f_ref, prd_ref, bat_ref, List.map_append, List.map_cons, List.map_nil]; try rfl) (by simp only [↓vp, vv, ↓reduceIte, simprocAttr, vz, listB, okKd, okK, lendKd, lendK, lendOk1B, frzF, Option.map_some, cond_true, cond_false, decide_true, decide_false, Bool.and_self, refsF, PmvW, PmvF, PmvV, netD, plnD, listB_app', ra, rb, rb2, rb3, rc, rd, rd2, rd3, re, rf, t3, f_ref, prd_ref, bat_ref, List.map_append, List.map_cons, List.map_nil]) (by simp only [↓vp, vv, ↓reduceIte, simprocAttr, vz, listB, okKd, okK, lendKd, lendK, lendOk1B, frzF, Option.map_some, cond_true, cond_false, decide_true, decide_false, Bool.and_self, PmvW, PmvF, PmvV, netD, plnD, listB_app', ra, rb, rb2, rb3, rc, rd, rd2, rd3, re, rf, t3, f_ref, prd_ref, bat_ref, List.map_append, List.map_cons, List.map_nil]) (by simp))
def PmvG (ps : List Prd) (bs : List Bat) (fs nx : List (List Pce)) (v : Int) (k : Nat) : List (Nat × D) := [(4, .ptr (0, 4) 0 0 0), (5, .sl (ps.map Prd.row)), (6, .sl (bs.map Bat.row)), (7, .sl (fs.map fR)), (10, .sl (nx.map fR)), (13, .own (0, 70) k 0 k), (14, .own (0, 74) k 0 k), (15, di v), (16, di k)]
def stdL (k : Nat) : List Cnd := List.replicate k ⟨150, 0⟩
theorem stdL_next (k : Nat) : stdL k ++ [⟨150, 0⟩] = stdL (k + 1) := by unfold stdL; rw [List.replicate_succ']
theorem stdL_len (k : Nat) : (stdL k).length = k := List.length_replicate
def PmvH (n : Net) (k : Nat) : Hp := ((Hp.none.put (0, 74) ⟨k, 1, (rgI k).map iR⟩).put (0, 70) ⟨k, 2, (stdL k).map Cnd.row⟩).put (0, 4) ⟨0, 6, [netD n]⟩
theorem fs_pl (l : List (List Pce)) : (∀ j, j ∈ l → ∀ d, d ∈ fR j → d.plain = true) = True := eq_true fun j _ d hd => by rw [List.mem_singleton.1 hd]; rfl
set_option maxHeartbeats 16000000 in
theorem PMov_c (ns : List Int) (hns : ∀ n ∈ ns, InI n) (nn : Nm) : CallsA Tryd.prog 8 [.sl (ns.map fun n => [di n])] Hp.none nn (Pu (db true) Hp.none) := by
 obtain ⟨code, h1, h2⟩ := c8_ok
 refine callsA_of PwT_ok mixed (N := pvN) Tryd.func8 h1 h2 r8_ok [] false js_nil js_nil' (by simp [Tryd.f8]) ?_
 have ho : SrcOk ((ns.map fun n => [di n]).take 2000) 0 := src_new ns hns
 have hf' : ((ns.map fun n => [di n]).length : Int) = (ns.length : Int) := by simp
 cases hf : decide ((ns.length : Int) ≤ 400) with
 | false => simp (maxSteps:=500000) only [↓vp, vv, ↓reduceIte, simprocAttr, c8, r8, c8_1, c8_2, c8_3, c8_4, c8_5, c8_6, r8, PwT, PwA, pvN, selFe, selAw, hf', hf, Pu]
 | true =>
  have hnr : ∀ n : Net, netOf1 [D.sl (n.nodes.map nmRow), .sl (n.segs.map Seg.row), .sl (n.ports.map Port.row), .sl (n.sts.map Stn.row), di n.vap, di n.set] = some n := fun n => netOf1_row n
  simp (maxSteps:=500000) only [↓vp, vv, ↓reduceIte, simprocAttr, c8, r8, c8_1, c8_2, c8_3, c8_4, c8_5, c8_6, PwT, PwA, pvN, selFe, rowNew, sel0, rowPdO, rowBtO, rowFls, selPlan, selFds, SrcO_all, flsO_all, hf', hf, ho, hnr, Net.enc, netD, Pln.enc, plnD]
  intro a1 n hn a2 g1 ps hps
  have lps := hps.len
  refine ⟨by omega, ?_⟩
  intro a3 g2 bs hbs
  have lbs := hbs.len
  refine ⟨hn, ?_⟩
  intro a4 g g5 f0 rest hfs
  have hck := check_ok hn
  have hv := check0 hck
  refine ⟨⟨hv, ports1 hn⟩, ?_⟩
  intro a5 p hp0
  have hpl := hn.ports.len
  have hnl := hn.nlen
  have hsl := hn.slen
  refine ⟨by omega, ?_⟩
  intro a6 fd hfd
  have hfl := hfs.len
  simp only [List.length_cons] at hfl
  have rr : ∀ js, (∀ j, j ∈ rest → refsInL js (fR j) = true) = True := fun js => eq_true fun j _ => rfl
  have r1 : ∀ js, (∀ j, j ∈ ps → refsInL js j.row = true) = True := fun js => eq_true fun j _ => rfl
  have r2 : ∀ js, (∀ j, j ∈ bs → refsInL js j.row = true) = True := fun js => eq_true fun j _ => rfl
  have htk := tkm_of hn hp0 hfs hfd
  have fw := filw_fls hfs
  have hfa : ∀ f, f ∈ f0 :: rest → f.length ≤ 200 := fun f hf => by
   obtain ⟨k, hk, rfl⟩ := List.getElem_of_mem hf
   exact (fw k (by simp only [List.length_cons] at hk; omega)).len
  have hfl2 : (f0 :: rest).length = n.segs.length := by rw [List.length_cons]; exact hfl
  have al1 := all_std hn hps hbs hfl2 fw
  clear fw
  have t1 : (ps.map Prd.row).take ps.length = ps.map Prd.row := List.take_of_length_le (by simp)
  have t2 : (bs.map Bat.row).take bs.length = bs.map Bat.row := List.take_of_length_le (by simp)
  have t3 : ((f0 :: rest).map fR).take (rest.length + 1) = (f0 :: rest).map fR := List.take_of_length_le (by simp)
  refine vc_wk (Weak.trans (Weak.trans ((weak_eqA [] [(0, 4), (0, 8), (0, 30), (0, 34), (0, 49), (0, 5049)] (PmvF g1 g2 g ps bs rest.length fd) (by refine ⟨?_, ?_, ?_, by simp, ?_⟩ <;> (simp only [↓vp, vv, ↓reduceIte, simprocAttr, coverS, refsF, PmvW, PmvF, netD, plnD, sE, hp_cons, hp_nil, rr, r1, r2, pce_ref] <;> try rfl)))) (pv_frz n p ps bs f0 rest g1 g2 g g5 fd)) (weak_eq (J := []) (F := fr (PmvF g1 g2 g ps bs rest.length fd)) (H := PmvV n p ps bs (f0 :: rest) g1 g2 g) [(0, 30), (0, 34), (0, 49)] [(0, 4), (0, 8)] [(4, .ptr (0, 4) 0 0 0), (5, .sl (ps.map Prd.row)), (6, .sl (bs.map Bat.row)), (7, .sl ((f0 :: rest).map fR)), (8, .ptr (0, 8) 0 0 0), (9, .sl (fd.map iRow))] (H' := (Hp.none.put (0, 8) ⟨0, 3, [plnD p]⟩).put (0, 4) ⟨0, 6, [netD n]⟩) (by simp only [↓vp, vv, ↓reduceIte, simprocAttr, coverS, PmvF, PmvV, t1, t2, t3, fs_pl, f_pl, List.length_cons]; exact ⟨⟨prd_pl ps, by simp⟩, ⟨bat_pl bs, by simp⟩, by simp⟩) (by simp only [↓vp, vv, ↓reduceIte, simprocAttr, refsF]) (by simp only [↓vp, vv, ↓reduceIte, simprocAttr, PmvV, netD, plnD]) (by simp) (by simp only [↓vp, vv, ↓reduceIte, simprocAttr, PmvV]; try rfl))) ?_
  generalize hfe : f0 :: rest = fs at htk hfa hfl2 al1 ⊢
  have hn1 := netOf1_x n
  have hp1 := plnOf1_x p
  have hq := fsOf_map fs
  have hqd := ir_dec fd
  have hk : TkM 4 (TkA.n ⟨n, p, fs, fd⟩) (TkA.p ⟨n, p, fs, fd⟩) (TkA.fs ⟨n, p, fs, fd⟩) (TkA.fd ⟨n, p, fs, fd⟩) := htk
  dsimp only at hk
  have T := tend_i htk
  generalize hs : tEnd n p fs fd = s at T
  cases hl : tLong s with
  | true => simp (maxSteps:=500000) only [↓vp, vv, ↓reduceIte, simprocAttr, c8, r8, c8_1, c8_2, c8_3, c8_4, c8_5, c8_6, r8, PwT, PwA, pvN, selTk, selAw, selX, decTk, hn1, hp1, hq, hqd, hk, hs, tickD, hl, netD, plnD, Pu]
  | false =>
  have fw2 := filw_tki T (short hl)
  have al2 := all_std hn hps hbs T.nl fw2
  have hfb : ∀ f, f ∈ s.nxt → f.length ≤ 200 := fun f hf => by
   obtain ⟨k, hk, rfl⟩ := List.getElem_of_mem hf
   exact (fw2 k (by have := T.nl; omega)).len
  have hnx := T.nl
  clear fw2
  generalize hnxt : s.nxt = nx at al2 hfb hnx
  simp (maxSteps:=500000) only [↓vp, vv, ↓reduceIte, simprocAttr, c8, r8, c8_1, c8_2, c8_3, c8_4, c8_5, c8_6, PwT, PwA, pvN, selTk, selX, decTk, hn1, hp1, hq, hqd, hk, hs, hnxt, tickD, hl, netD, plnD]
  refine rng_loop n.segs.length (fun k => ⟨fr (PmvG ps bs fs nx (capS n k) k), PmvH n k⟩) (fun _ => True) ?_ trivial (fun k hk _ => ?_) (fun _ => ?_)
  ·have e0 : capS n 0 = 0 := rfl
   have e1 : stdL 0 = [] := rfl
   have e2 : rgI 0 = [] := rfl
   exact (((weak_own 13 (0, 70) 2 (by simp only [↓vp, vv, ↓reduceIte, simprocAttr, ]) (by simp only [↓vp, vv, ↓reduceIte, simprocAttr, ])).trans (weak_own 14 (0, 74) 1 (by simp only [↓vp, vv, ↓reduceIte, simprocAttr, ]) (by simp only [↓vp, vv, ↓reduceIte, simprocAttr, ]))).trans (weak_eqA [] [(0, 4), (0, 70), (0, 74)] (PmvG ps bs fs nx (capS n 0) 0) (by refine ⟨?_, ?_, ?_, by simp, ?_⟩ <;> (simp only [↓vp, vv, ↓reduceIte, simprocAttr, coverS, refsF, PmvG, PmvH, e0, e1, e2, netD, List.map_nil] <;> try rfl))))
  ·have hk' : (k : Int) < n.segs.length := by omega
   have w1 := idx_next (j := k) (by omega)
   have gs := getD_map Seg.row n.segs k hk
   have cb := capS_b hn k (by omega)
   have cn := capS_next hk
   have cc : 1 ≤ (n.segs[k]).cap ∧ (n.segs[k]).cap ≤ 1000 := by
    obtain ⟨_, x, y, _, _, _, h, _⟩ := hn.segs.mem (List.getElem_mem hk)
    exact h.cap
   generalize n.segs[k] = sg at gs cn cc
   have w2 : IntKind.i64.wrap (capS n k + sg.cap) = capS n (k + 1) := by rw [wrap_i (by omega), cn]
   have s1 := stdL_next k
   have s2 := rgI_next k
   have l1 := stdL_len k
   have l2 := rgI_len k
   have e1 : (stdL (k + 1)).map Cnd.row = (stdL k).map Cnd.row ++ [[di 150, di 0]] := by rw [← s1, List.map_append]; rfl
   have e2 : (rgI (k + 1)).map iR = (rgI k).map iR ++ [[di k]] := by rw [← s2, List.map_append]; rfl
   have y1 : (k + 1) * 16 ≤ 140737488355328 := by omega
   have y2 : k + 1 ≤ 4611686018427387904 := by omega
   have y3 : (k + 1) * 8 ≤ 140737488355328 := by omega
   simp (maxSteps:=500000) only [↓vp, vv, ↓reduceIte, simprocAttr, c8, r8, c8_1, c8_2, c8_3, c8_4, c8_5, c8_6, PwT, PwA, pvN, PmvG, PmvH, netD, hk, hk', gs, Seg.row, l1, l2, y1, y2, y3, Int.toNat_natCast, idx_nn]
   refine rng_next hk ?_ trivial
   have rfC : ∀ js (x : Cnd), refsInL js x.row = true := fun _ _ => rfl
   have rfI : ∀ js (x : Int), refsInL js (iR x) = true := fun _ _ => rfl
   exact (weak_eqA [] [(0, 4), (0, 70), (0, 74)] (PmvG ps bs fs nx (capS n (k + 1)) (k + 1)) (by refine ⟨?_, ?_, ?_, by simp, ?_⟩ <;> (simp only [↓vp, vv, ↓reduceIte, simprocAttr, coverS, refsF, PmvG, rfC, rfI, PmvH, e1, e2, l1, l2, w1, w2, netD, List.map_append] <;> try rfl)))
  ·have hN : n.segs.length ≤ 8 := by omega
   have al : ∀ gs : List (List Pce), (∀ f, f ∈ gs → f.length ≤ 200) → gs.length = n.segs.length → AlOk ⟨n, ps, bs, gs, stdL n.segs.length⟩ := fun gs h1 h2 => ⟨net_sz hn, by dsimp only; omega, by dsimp only; omega, by dsimp only; omega, by dsimp only; rw [stdL_len]; omega, fun f hf => by have := h1 f hf; omega⟩
   have o1 := al fs hfa hfl2
   have o2 := al nx hfb hnx
   have q2 := fsOf_map nx
   have al1' : allI n ps bs fs (stdL n.segs.length) = (capsL n, 0) := al1
   have al2' : allI n ps bs nx (stdL n.segs.length) = (capsL n, 0) := al2
   have u1 : ((stdL n.segs.length).map Cnd.row).take n.segs.length = (stdL n.segs.length).map Cnd.row := List.take_of_length_le (by rw [List.length_map, stdL_len]; exact Nat.le_refl _)
   have u2 : ((rgI n.segs.length).map iR).take n.segs.length = (rgI n.segs.length).map iR := List.take_of_length_le (by rw [List.length_map, rgI_len]; exact Nat.le_refl _)
   have cl : (capsL n).length = n.segs.length := by unfold capsL; simp
   have sp : SecPre (capsL n) (rgI n.segs.length) := ⟨by omega, by rw [rgI_len]; omega, fun x hx => by
    unfold rgI at hx
    obtain ⟨j, hj, rfl⟩ := List.mem_map.1 hx
    have := List.mem_range.1 hj
    unfold InI
    omega⟩
   have sc : Sc2 (capsL n, rgI n.segs.length) := sp
   have ch : Ch3 (capsL n, capsL n, rgI n.segs.length) := ⟨sp, sp⟩
   have e1 := sec_all hn
   have e2 := chg_all hn
   have cl2 : (capsL n).length ≤ 1000000 := by omega
   have cN : ∀ k, (stdL k).map Cnd.row = (stdL k).map Cnd.row := fun _ => rfl
   have dc := cndsOf_map (stdL n.segs.length)
   generalize hst : stdL n.segs.length = st at u1 o1 o2 al1' al2' dc
   generalize hrg : rgI n.segs.length = rg at u2 sc ch e1 e2
   generalize capsL n = cs at sc ch e1 e2 al1' al2' cl2
   generalize capS n n.segs.length = v at e1
   have lst : st.length = n.segs.length := by rw [← hst]; exact stdL_len _
   have lrg : rg.length = n.segs.length := by rw [← hrg]; exact rgI_len _
   have cp : ∀ j : Cnd, j ∈ st → ∀ d : D, d ∈ j.row → d.plain = true := fun j _ d hd => by
    simp only [Cnd.row, List.mem_cons, List.not_mem_nil, or_false] at hd
    rcases hd with rfl | rfl <;> rfl
   simp (maxSteps:=500000) only [↓vp, vv, ↓reduceIte, simprocAttr, c8, r8, c8_1, c8_2, c8_3, c8_4, c8_5, c8_6, PwT, PwA, pvN, PmvG, PmvH, netD, Int.lt_irrefl]
   refine vc_wk (weak_eq [(0, 70), (0, 74)] [(0, 4)] [(4, .ptr (0, 4) 0 0 0), (5, .sl (ps.map Prd.row)), (6, .sl (bs.map Bat.row)), (7, .sl (fs.map fR)), (10, .sl (nx.map fR)), (13, .sl (st.map Cnd.row)), (14, .sl (rg.map iR)), (15, di v)] (H' := Hp.none.put (0, 4) ⟨0, 6, [netD n]⟩) (by simp only [↓vp, vv, ↓reduceIte, simprocAttr, coverS, hst, hrg, u1, u2, lst, lrg]; exact ⟨⟨cp, by simp⟩, ⟨i_pl rg, by simp⟩⟩) (by simp only [↓vp, vv, ↓reduceIte, simprocAttr, refsF]) (by simp only [↓vp, vv, ↓reduceIte, simprocAttr, netD]) (by simp) (by simp only [↓vp, vv, ↓reduceIte, simprocAttr, netD]; try rfl)) ?_
   simp (maxSteps:=500000) only [↓vp, vv, ↓reduceIte, simprocAttr, c8, r8, c8_1, c8_2, c8_3, c8_4, c8_5, c8_6, r8, PwT, PwA, pvN, selAl, selSc, selCg, selSq, selAw, selX, decAl, decI2, decI3, intsOf_iR, prdsOf_map, btsOf_map, hn1, hq, q2, dc, hst, hrg, u1, u2, o1, o2, al1', al2', sc, ch, e1, e2, cl2, reA, ie, netD, beq_self_eq_true, Int.lt_irrefl, Pu]
theorem PackMoves_law (a : Option Addr) (len cap : Nat) (w : World) (h : ArgInts w a len cap) (hsp : LaidFacts w) :
  Calls Tryd.prog 8 #[.slice a len cap] w (Ret (.bool true) w) :=
 law_intsG (us := []) (glOk_of hsp) h fun ns hns => PMov_c ns hns _
end Go.Proofs.YtehmmnnmkapfeaaDoor
