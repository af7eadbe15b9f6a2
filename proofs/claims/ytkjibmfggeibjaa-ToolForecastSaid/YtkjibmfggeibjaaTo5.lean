
/- Tools: Run. -/
import Derived.Test.YtkjibmfggeibjaaTo4
import Derived.Test.YtkjibmfggeibjaaPl1
namespace Go.Proofs.Ytkjibmfggeibjaa
open Go
set_option linter.unusedVariables false
set_option linter.unusedSimpArgs false
set_option maxRecDepth 100000

structure RunPre (n : Net) (p : Pln) (l : List Tol) (ticks : Int) : Prop where
  z : FckPre n p
  f : fckI n p = 0
  few : l.length ≤ 16
  ok : ∀ t ∈ l, TolOk n t
  k : 0 ≤ ticks ∧ ticks ≤ 400
theorem plnv_rb {n : Net} {p : Pln} (h : PlnV n p) : ∀ r ∈ p.rates, -1000000 ≤ r ∧ r ≤ 1000000 := fun r hr => by
  obtain ⟨k, hk⟩ := List.getElem?_of_mem hr
  have hl : k < p.rates.length := (List.getElem?_eq_some_iff.1 hk).1
  have hrl := h.rl
  have hx : (n.segs[k]'(by omega), r) ∈ n.segs.zip p.rates := zip_of (List.getElem?_eq_getElem (by omega)) hk
  have := withB_of (h.rb _ hx)
  dsimp only at this
  have hm : most (n.segs[k]'(by omega)) ≤ 1000 := by unfold most; split <;> omega
  omega
def selMv : List D → Option (Prop × D)
  | [.agg a, .agg b, .agg c] => match netOf1 a, plnOf1 b, tolOf1 c with
    | some n, some p, some t => some (MvPre n p t, (mov1 n p t).enc)
    | _, _, _ => Option.none
  | _ => Option.none
def selCk : List D → Option (Prop × D)
  | [.agg a, .agg b, .sl rows] => match netOf1 a, plnOf1 b, lsOf tolOf1 rows with
    | some n, some p, some l => some (FckPre n p ∧ l.length ≤ 1000000 ∧ ∀ t ∈ l, t.way.length ≤ 1000000, di (toolE n p l))
    | _, _, _ => Option.none
  | _ => Option.none
def TRun : Tbl := tc 76 (rowPu (selTol wayP Tol.enc)) (tc 78 (rowPu selMv) (tc 77 (rowPu selCk) T0))
theorem TRun_ok : TblOk Try.prog TRun := tc_tol f76_ok (fun t h nn => copied_c t h nn) (tc_pu f78_ok (fun args pre d hs hp nn => by
  unfold selMv at hs
  split at hs
  · split at hs
    · rename_i e1 e2 e3
      cases hs
      rw [netOf1_eq e1, plnOf1_eq e2, tolOf1_eq e3]
      exact moved_c _ _ _ hp nn
    · cases hs
  · cases hs) (tc_pu f77_ok (fun args pre d hs hp nn => by
  unfold selCk at hs
  split at hs
  · split at hs
    · rename_i e1 e2 e3
      cases hs
      rw [netOf1_eq e1, plnOf1_eq e2, lsOf_eq (fun r x => tolOf1_eq) e3]
      exact check_t _ _ _ hp.1 hp.2.1 hp.2.2 nn
    · cases hs
  · cases hs) (T0_ok _)))
theorem tolRow_g (o : List Tol) (j : Nat) (h : j < o.length) : (o.map Tol.row).getD j [] = o[j].row := getD_map Tol.row o j h
def RnF (ticks : Int) (g len : Nat) (l : List (Nat × D)) : List (Nat × D) := (3, di ticks) :: (4, .ptr (0, 4) 0 0 0) :: (5, .ptr (0, 5) 0 0 0) :: (10, .own (0, 1000) g 0 len) :: l
def RnH (n : Net) (p : Pln) (o : List Tol) (g : Nat) : Hp := ((Hp.none.put (0, 1000) ⟨g, 3, o.map Tol.row⟩).put (0, 5) ⟨0, 3, [plnD p]⟩).put (0, 4) ⟨0, 6, [netD n]⟩
/-- The tools while the one is moved. -/
def mixL (f : Tol → Tol) (l : List Tol) (i : Nat) : List Tol := (l.take i).map f ++ l.drop i
theorem mix_len (f : Tol → Tol) (l : List Tol) (i : Nat) : (mixL f l i).length = l.length := by
  unfold mixL
  rw [List.length_append, List.length_map, List.length_take, List.length_drop]
  omega
theorem mix_at (f : Tol → Tol) (l : List Tol) (i : Nat) (h : i < l.length) : (mixL f l i)[i]'(by rw [mix_len]; exact h) = l[i] := by
  unfold mixL
  rw [List.getElem_append_right (by rw [List.length_map, List.length_take]; omega)]
  simp only [List.length_map, List.length_take, List.getElem_drop]
  congr 1
  omega
theorem mix_0 (f : Tol → Tol) (l : List Tol) : mixL f l 0 = l := by unfold mixL; simp
theorem mix_all (f : Tol → Tol) (l : List Tol) : mixL f l l.length = l.map f := by unfold mixL; rw [List.take_length, List.drop_length, List.append_nil]
theorem mix_set0 (f : Tol → Tol) (l : List Tol) (i : Nat) (h : i < l.length) : (mixL f l i).set i l[i] = mixL f l i := by
  rw [← mix_at f l i h]
  exact List.set_getElem_self _
theorem mix_next (f : Tol → Tol) (l : List Tol) (i : Nat) (h : i < l.length) : (mixL f l i).set i (f l[i]) = mixL f l (i + 1) := by
  unfold mixL
  rw [List.set_append_right _ _ (by rw [List.length_map, List.length_take]; omega), List.length_map, List.length_take, Nat.min_eq_left (by omega), Nat.sub_self, List.drop_eq_getElem_cons h, List.set_cons_zero, ← List.take_append_getElem h, List.map_append, List.append_assoc]
  rfl
set_option maxHeartbeats 16000000 in
theorem trun_2 (n : Net) (p : Pln) (l : List Tol) (ticks : Nat) (h : RunPre n p l ticks) (F : Fr) (H : Hp) (hwk : Weak [] ⟨F, H⟩ ⟨fr (RnF ticks l.length l.length []), RnH n p l l.length⟩) : vc TRun (fun t => (0, t)) [] (.weak c15_9) (finQ r15 [] false (Pu (.tup [.sl ((l.map (movK n p ticks)).map Tol.row), di 0]) Hp.none)) ⟨F, H⟩ := by
  refine vc_wk hwk ?_
  have hll := h.few
  have hkk := h.k
  have hv := fck0 h.f
  have hrb := plnv_rb hv
  have hok := h.ok
  have hn1 : netOf1 [D.sl (n.nodes.map nmRow), .sl (n.segs.map Seg.row), .sl (n.ports.map Port.row), .sl (n.sts.map Stn.row), di n.vap, di n.set] = some n := netOf1_row n
  have hp1 : plnOf1 [D.sl (p.rates.map iRow), .sl (p.ports.map iRow), .sl (p.pumps.map bRow)] = some p := plnOf1_row p
  have hfl : ∀ o : List Tol, (∀ j ∈ o, ∀ d ∈ j.row, d.plain = true) = True := fun o => eq_true fun j _ d hd => by
    rcases List.mem_cons.1 hd with rfl | hd
    · rfl
    · rcases List.mem_cons.1 hd with rfl | hd
      · rfl
      · rw [List.mem_singleton.1 hd]; rfl
  simp (config := { maxSteps := 500000 }) only [↓vp, vv, implies_true, forall_const, undef, InI, ↓reduceIte, simprocAttr, c15_9, RnF, RnH, netD, plnD]
  refine rng_loop l.length (fun i => ⟨fr (RnF ticks l.length l.length [(49, di l.length), (50, di (i : Nat))]), RnH n p (mixL (movK n p ticks) l i) l.length⟩) (fun _ => True) (weak_eq [] [(0, 4), (0, 5), (0, 1000)] (RnF ticks l.length l.length [(49, di l.length), (50, di 0)]) (by simp (config := { maxSteps := 500000 }) only [↓vp, vv, implies_true, forall_const, undef, InI, ↓reduceIte, simprocAttr, coverS, RnF, RnH, netD, plnD, mix_0, Tol.row]) (by simp (config := { maxSteps := 500000 }) only [↓vp, vv, implies_true, forall_const, undef, InI, ↓reduceIte, simprocAttr, refsF, RnF, RnH, netD, plnD, mix_0, Tol.row]) (by simp (config := { maxSteps := 500000 }) only [↓vp, vv, implies_true, forall_const, undef, InI, ↓reduceIte, simprocAttr, RnF, RnH, netD, plnD, mix_0, Tol.row]) (by simp) (by simp (config := { maxSteps := 500000 }) only [↓vp, vv, implies_true, forall_const, undef, InI, ↓reduceIte, simprocAttr, RnF, RnH, netD, plnD, mix_0, Tol.row]; try rfl)) trivial (fun i hi _ => ?_) (fun _ => ?_)
  · have hi' : (i : Int) < l.length := by omega
    have hin := idx_nn i
    have wi := idx_next (j := i) (by omega)
    have hml := mix_len (movK n p ticks) l i
    have m0 := mix_set0 (movK n p ticks) l i hi
    have m1 := mix_next (movK n p ticks) l i hi
    have hti := hok _ (List.getElem_mem hi)
    generalize mixL (movK n p ticks) l i = B at *
    generalize l[i] = t at *
    simp (config := { maxSteps := 500000 }) only [↓vp, vv, implies_true, forall_const, undef, InI, ↓reduceIte, simprocAttr, c15_7, c15_6, RnF, RnH, netD, plnD, hi']
    refine rng_loop ticks (fun m => ⟨fr (RnF ticks l.length l.length [(14, di i), (49, di l.length), (50, di i), (53, di ticks), (54, di (m : Nat))]), RnH n p (B.set i (movK n p m t)) l.length⟩) (fun _ => True) (weak_eq [] [(0, 4), (0, 5), (0, 1000)] (RnF ticks l.length l.length [(14, di i), (49, di l.length), (50, di i), (53, di ticks), (54, di 0)]) (by simp (config := { maxSteps := 500000 }) only [↓vp, vv, implies_true, forall_const, undef, InI, ↓reduceIte, simprocAttr, coverS, RnF, RnH, netD, plnD, m0, movK, Tol.row]) (by simp (config := { maxSteps := 500000 }) only [↓vp, vv, implies_true, forall_const, undef, InI, ↓reduceIte, simprocAttr, refsF, RnF, RnH, netD, plnD, m0, movK, Tol.row]) (by simp (config := { maxSteps := 500000 }) only [↓vp, vv, implies_true, forall_const, undef, InI, ↓reduceIte, simprocAttr, RnF, RnH, netD, plnD, m0, movK, Tol.row]) (by simp) (by simp (config := { maxSteps := 500000 }) only [↓vp, vv, implies_true, forall_const, undef, InI, ↓reduceIte, simprocAttr, RnF, RnH, netD, plnD, m0, movK, Tol.row]; try rfl)) trivial (fun m hm _ => ?_) (fun _ => ?_)
    · have hm' : (m : Int) < ticks := by omega
      have hmn := idx_nn m
      have wm := idx_next (j := m) (by omega)
      have hsl : (B.set i (movK n p m t)).length = l.length := by rw [List.length_set, hml]
      have hg := tolRow_g (B.set i (movK n p m t)) i (by omega)
      rw [List.getElem_set_self] at hg
      have hmp : MvPre n p (movK n p m t) := ⟨hv.net, hti.movK hv.net m, hv.rl, hrb⟩
      have hsu := movK_succ n p m t
      have hset : ∀ y : Tol, ((B.set i (movK n p m t)).map Tol.row).set i [.sl (y.way.map tHop), di y.hop, di y.pos] = (B.set i y).map Tol.row := fun y => by
        have : [D.sl (y.way.map tHop), di y.hop, di y.pos] = y.row := rfl
        rw [this, ← List.map_set, List.set_set]
      generalize movK n p m t = u at *
      have ht1 : tolOf1 [.sl (u.way.map tHop), di u.hop, di u.pos] = some u := tolOf1_row u
      simp (config := { maxSteps := 500000 }) only [↓vp, vv, implies_true, forall_const, undef, InI, ↓reduceIte, simprocAttr, c15_4, c15_3, TRun, selMv, RnF, RnH, netD, plnD, hm', hi, hi', hin, hsl, hg, hn1, hp1, ht1, hmp, Tol.enc, Tol.row, hset, wm, Int.toNat_natCast]
      exact rng_next hm (weak_eq [] [(0, 4), (0, 5), (0, 1000)] (RnF ticks l.length l.length [(14, di i), (49, di l.length), (50, di i), (53, di ticks), (54, di (m + 1 : Nat))]) (by simp (config := { maxSteps := 500000 }) only [↓vp, vv, implies_true, forall_const, undef, InI, ↓reduceIte, simprocAttr, coverS, RnF, RnH, netD, plnD, wm, hset, hsu, Tol.row]) (by simp (config := { maxSteps := 500000 }) only [↓vp, vv, implies_true, forall_const, undef, InI, ↓reduceIte, simprocAttr, refsF, RnF, RnH, netD, plnD, wm, hset, hsu, Tol.row]) (by simp (config := { maxSteps := 500000 }) only [↓vp, vv, implies_true, forall_const, undef, InI, ↓reduceIte, simprocAttr, RnF, RnH, netD, plnD, wm, hset, hsu, Tol.row]) (by simp) (by simp (config := { maxSteps := 500000 }) only [↓vp, vv, implies_true, forall_const, undef, InI, ↓reduceIte, simprocAttr, RnF, RnH, netD, plnD, wm, hset, hsu, Tol.row]; try rfl)) trivial
    · simp (config := { maxSteps := 500000 }) only [↓vp, vv, implies_true, forall_const, undef, InI, ↓reduceIte, simprocAttr, c15_4, c15_5, RnF, RnH, netD, plnD, Int.lt_irrefl, wi]
      rw [m1]
      exact rng_next hi (weak_eq [] [(0, 4), (0, 5), (0, 1000)] (RnF ticks l.length l.length [(49, di l.length), (50, di (i + 1 : Nat))]) (by simp (config := { maxSteps := 500000 }) only [↓vp, vv, implies_true, forall_const, undef, InI, ↓reduceIte, simprocAttr, coverS, RnF, RnH, netD, plnD, wi, Tol.row]) (by simp (config := { maxSteps := 500000 }) only [↓vp, vv, implies_true, forall_const, undef, InI, ↓reduceIte, simprocAttr, refsF, RnF, RnH, netD, plnD, wi, Tol.row]) (by simp (config := { maxSteps := 500000 }) only [↓vp, vv, implies_true, forall_const, undef, InI, ↓reduceIte, simprocAttr, RnF, RnH, netD, plnD, wi, Tol.row]) (by simp) (by simp (config := { maxSteps := 500000 }) only [↓vp, vv, implies_true, forall_const, undef, InI, ↓reduceIte, simprocAttr, RnF, RnH, netD, plnD, wi, Tol.row]; try rfl)) trivial
  · rw [mix_all]
    have tk : ((l.map (movK n p ticks)).map Tol.row).take l.length = (l.map (movK n p ticks)).map Tol.row := List.take_of_length_le (by simp)
    have hf2 := hfl (l.map (movK n p ticks))
    simp (config := { maxSteps := 500000 }) only [↓vp, vv, implies_true, forall_const, undef, InI, ↓reduceIte, simprocAttr, c15_7, c15_8, r15, RnF, RnH, netD, plnD, Int.lt_irrefl, tk, List.length_map, Nat.le_refl, Pu]
    exact fun j _ d hd => (by
      rcases List.mem_cons.1 hd with rfl | hd
      · rfl
      · rcases List.mem_cons.1 hd with rfl | hd
        · rfl
        · rw [List.mem_singleton.1 hd]; rfl)
set_option maxHeartbeats 16000000 in
theorem trun_c (n : Net) (p : Pln) (l : List Tol) (ticks : Nat) (h : RunPre n p l ticks) (nn : Nm) : CallsA Try.prog 15 [n.enc, p.enc, .sl (l.map Tol.row), di ticks] Hp.none nn (Pu (.tup [.sl ((l.map (movK n p ticks)).map Tol.row), di 0]) Hp.none) := by
  obtain ⟨code, h1, h2⟩ := c15_ok
  refine callsA_of TRun_ok mixed (N := fun t => (0, t)) Try.func15 h1 h2 r15_ok [] false js_nil js_nil' (by simp [Try.f15]) ?_
  have hll := h.few
  have hkk := h.k
  have hz := h.z
  have hok := h.ok
  have hn1 : netOf1 [D.sl (n.nodes.map nmRow), .sl (n.segs.map Seg.row), .sl (n.ports.map Port.row), .sl (n.sts.map Stn.row), di n.vap, di n.set] = some n := netOf1_row n
  have hp1 : plnOf1 [D.sl (p.rates.map iRow), .sl (p.ports.map iRow), .sl (p.pumps.map bRow)] = some p := plnOf1_row p
  have hl1 : lsOf tolOf1 (l.map Tol.row) = some l := lsOf_map tolOf1_row l
  have hlw : ∀ t ∈ l, t.way.length ≤ 1000000 := fun t ht => by have := (hok t ht).l; omega
  have hll2 : l.length ≤ 1000000 := by omega
  have hE : toolE n p l = 0 := by
    unfold toolE
    have hb : l.any (badT n) = false := by
      cases e : l.any (badT n) with
      | false => rfl
      | true =>
        obtain ⟨t, ht, hb⟩ := List.any_eq_true.1 e
        unfold badT at hb
        rw [(tolV_iff n t).2 (hok t ht)] at hb
        cases hb
    rw [if_neg (by have := (fck0 h.f).ck; omega), if_neg (by have := h.f; omega), hb, if_neg Bool.false_ne_true]
  have nx := trun_2 n p l ticks h
  simp (config := { maxSteps := 500000 }) only [↓vp, vv, implies_true, forall_const, undef, InI, ↓reduceIte, simprocAttr, c15, Net.enc, Pln.enc, netD, plnD]
  refine rng_loop l.length (fun j => ⟨fr ((2, .sl (l.map Tol.row)) :: RnF ticks j j [(15, .sl (l.map Tol.row)), (16, di l.length), (17, di (j : Nat))]), RnH n p (l.take j) j⟩) (fun _ => True) ((weak_own 10 (0, 1000) 3 (by simp (config := { maxSteps := 500000 }) only [↓vp, vv, implies_true, forall_const, undef, InI, ↓reduceIte, simprocAttr, ]) (by simp (config := { maxSteps := 500000 }) only [↓vp, vv, implies_true, forall_const, undef, InI, ↓reduceIte, simprocAttr, ])).trans (weak_eq [] [(0, 4), (0, 5), (0, 1000)] ((2, .sl (l.map Tol.row)) :: RnF ticks 0 0 [(15, .sl (l.map Tol.row)), (16, di l.length), (17, di 0)]) (by simp (config := { maxSteps := 500000 }) only [↓vp, vv, implies_true, forall_const, undef, InI, ↓reduceIte, simprocAttr, coverS, RnF, RnH, netD, plnD, List.take_zero, Tol.row]) (by simp (config := { maxSteps := 500000 }) only [↓vp, vv, implies_true, forall_const, undef, InI, ↓reduceIte, simprocAttr, refsF, RnF, RnH, netD, plnD, List.take_zero, Tol.row]) (by simp (config := { maxSteps := 500000 }) only [↓vp, vv, implies_true, forall_const, undef, InI, ↓reduceIte, simprocAttr, RnF, RnH, netD, plnD, List.take_zero, Tol.row]) (by simp) (by simp (config := { maxSteps := 500000 }) only [↓vp, vv, implies_true, forall_const, undef, InI, ↓reduceIte, simprocAttr, RnF, RnH, netD, plnD, List.take_zero, Tol.row]; try rfl))) trivial (fun j hj _ => ?_) (fun _ => ?_)
  · have hj' : (j : Int) < l.length := by omega
    have hjn := idx_nn j
    have w1 := idx_next (j := j) (by omega)
    have hg := tolRow_g l j hj
    have ht := List.take_append_getElem hj
    have hwj : wayP l[j] := ⟨(hok _ (List.getElem_mem hj)).l.1, hlw _ (List.getElem_mem hj)⟩
    generalize l[j] = t at hg ht hwj
    have ht1 : tolOf1 [.sl (t.way.map tHop), di t.hop, di t.pos] = some t := tolOf1_row t
    have y1 : (j + 1) * 40 ≤ 140737488355328 := by omega
    have y2 : j + 1 ≤ 4611686018427387904 := by omega
    have htl : (l.take j).length = j := by rw [List.length_take]; omega
    simp (config := { maxSteps := 500000 }) only [↓vp, vv, implies_true, forall_const, undef, InI, ↓reduceIte, simprocAttr, c15_2, c15_1, TRun, selTol, RnF, RnH, netD, plnD, hj', hjn, hg, ht1, hwj, Tol.enc, Tol.row, w1, y1, y2, htl, Int.toNat_natCast]
    exact rng_next hj (weak_eq [] [(0, 4), (0, 5), (0, 1000)] ((2, .sl (l.map Tol.row)) :: RnF ticks (j + 1) (j + 1) [(15, .sl (l.map Tol.row)), (16, di l.length), (17, di (j + 1 : Nat))]) (by simp (config := { maxSteps := 500000 }) only [↓vp, vv, implies_true, forall_const, undef, InI, ↓reduceIte, simprocAttr, coverS, RnF, RnH, netD, plnD, w1, ← ht, List.map_append, List.map_cons, List.map_nil, Tol.row]) (by simp (config := { maxSteps := 500000 }) only [↓vp, vv, implies_true, forall_const, undef, InI, ↓reduceIte, simprocAttr, refsF, RnF, RnH, netD, plnD, w1, ← ht, List.map_append, List.map_cons, List.map_nil, Tol.row]) (by simp (config := { maxSteps := 500000 }) only [↓vp, vv, implies_true, forall_const, undef, InI, ↓reduceIte, simprocAttr, RnF, RnH, netD, plnD, w1, ← ht, List.map_append, List.map_cons, List.map_nil, Tol.row]) (by simp) (by simp (config := { maxSteps := 500000 }) only [↓vp, vv, implies_true, forall_const, undef, InI, ↓reduceIte, simprocAttr, RnF, RnH, netD, plnD, w1, ← ht, List.map_append, List.map_cons, List.map_nil, Tol.row]; try rfl)) trivial
  · rw [List.take_length]
    have cont : ∀ F H, Weak [] ⟨F, H⟩ ⟨fr ((2, .sl (l.map Tol.row)) :: RnF ticks l.length l.length []), RnH n p l l.length⟩ → vc TRun (fun t => (0, t)) [] (.weak c15_11) (finQ r15 [] false (Pu (.tup [.sl ((l.map (movK n p ticks)).map Tol.row), di 0]) Hp.none)) ⟨F, H⟩ := fun F H hw => by
      refine vc_wk hw ?_
      have hlwT := eq_true hlw
      have k1 : decide ((16 : Int) < l.length) = false := decide_eq_false (by omega)
      have k2 : decide ((ticks : Int) < 0) = false := decide_eq_false (by omega)
      have k3 : decide ((400 : Int) < ticks) = false := decide_eq_false (by omega)
      simp (config := { maxSteps := 500000 }) only [↓vp, vv, implies_true, forall_const, undef, InI, ↓reduceIte, simprocAttr, c15_11, c15_10, TRun, selCk, RnF, RnH, netD, plnD, hn1, hp1, hl1, hz, hll2, hlwT, hE, bne_self_eq_false, k1, k2, k3]
      exact nx _ _ (weak_eq [] [(0, 4), (0, 5), (0, 1000)] (RnF ticks l.length l.length []) (by simp (config := { maxSteps := 500000 }) only [↓vp, vv, implies_true, forall_const, undef, InI, ↓reduceIte, simprocAttr, coverS, RnF, RnH, netD, plnD, Tol.row]) (by simp (config := { maxSteps := 500000 }) only [↓vp, vv, implies_true, forall_const, undef, InI, ↓reduceIte, simprocAttr, refsF, RnF, RnH, netD, plnD, Tol.row]) (by simp (config := { maxSteps := 500000 }) only [↓vp, vv, implies_true, forall_const, undef, InI, ↓reduceIte, simprocAttr, RnF, RnH, netD, plnD, Tol.row]) (by simp) (by simp (config := { maxSteps := 500000 }) only [↓vp, vv, implies_true, forall_const, undef, InI, ↓reduceIte, simprocAttr, RnF, RnH, netD, plnD, Tol.row]; try rfl))
    simp (config := { maxSteps := 500000 }) only [↓vp, vv, implies_true, forall_const, undef, InI, ↓reduceIte, simprocAttr, c15_2, RnF, RnH, netD, plnD, Int.lt_irrefl]
    exact cont _ _ (weak_eq [] [(0, 4), (0, 5), (0, 1000)] ((2, .sl (l.map Tol.row)) :: RnF ticks l.length l.length []) (by simp (config := { maxSteps := 500000 }) only [↓vp, vv, implies_true, forall_const, undef, InI, ↓reduceIte, simprocAttr, coverS, RnF, RnH, netD, plnD, Tol.row]) (by simp (config := { maxSteps := 500000 }) only [↓vp, vv, implies_true, forall_const, undef, InI, ↓reduceIte, simprocAttr, refsF, RnF, RnH, netD, plnD, Tol.row]) (by simp (config := { maxSteps := 500000 }) only [↓vp, vv, implies_true, forall_const, undef, InI, ↓reduceIte, simprocAttr, RnF, RnH, netD, plnD, Tol.row]) (by simp) (by simp (config := { maxSteps := 500000 }) only [↓vp, vv, implies_true, forall_const, undef, InI, ↓reduceIte, simprocAttr, RnF, RnH, netD, plnD, Tol.row]; try rfl))
end Go.Proofs.Ytkjibmfggeibjaa
