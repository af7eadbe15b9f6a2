/- TicketMade: CtO. -/
import Derived.Test.YtehmmnnmkapfeaaDoorCm8
set_option linter.unusedSimpArgs false
set_option linter.unusedVariables false
set_option maxRecDepth 100000

/- Tickets: chains with a list of their own. -/
namespace Go.Proofs.YtehmmnnmkapfeaaDoor
open Go
def ChR (nn : Nm) (X : List Tic × Run × Int) : D → Hp → Prop := fun v H' => (X.2.2 ≠ 0 ∧ v = .tup [.mt, X.2.1.enc, di X.2.2] ∧ (H' = Hp.none ∨ ∃ (g : Nat) (l : List Tic), H' = Hp.none.put nn ⟨g, 8, l.map Tic.row⟩)) ∨ (X.2.2 = 0 ∧ ∃ g, v = .tup [.own nn g 0 X.1.length, X.2.1.enc, di X.2.2] ∧ H' = Hp.none.put nn ⟨g, 8, X.1.map Tic.row⟩)
theorem chR_bad (nn : Nm) (e : Int) (he : e ≠ 0) {H' : Hp} (h : H' = Hp.none ∨ ∃ (g : Nat) (l : List Tic), H' = Hp.none.put nn ⟨g, 8, l.map Tic.row⟩) : ChR nn ([], ⟨0, 0⟩, e) (.tup [.mt, .agg [di 0, di 0], di e]) H' := .inl ⟨he, rfl, h⟩
theorem chR_ok (nn : Nm) (out : List Tic) (r : Run) (g : Nat) : ChR nn (out, r, 0) (.tup [.own nn g 0 out.length, .agg [di r.vol, di r.rest], di 0]) (Hp.none.put nn ⟨g, 8, out.map Tic.row⟩) := .inr ⟨rfl, g, rfl, rfl⟩
theorem js_new (nn : Nm) : ∀ (j : Nm) (x : En), Hp.none j = some x → j ∈ [nn] := fun j x h => by cases h
theorem js_new' (nn : Nm) : ∀ j ∈ [nn], (Hp.none j).isSome = true ∨ j = nn := fun j h => .inr (List.mem_singleton.1 h)
def CsF' (nn : Nm) (b : Int) (cs : List Cnt) (l : List Cnd) (out : List Tic) (g : Nat) (j : Int) : List (Nat × D) := [(2, di b), (3, .sl (cs.map Cnt.row)), (5, .ptr (nn.1 + 1, 5) 0 0 0), (6, .ptr (nn.1 + 1, 6) 0 0 0), (11, .ptr (nn.1 + 1, 11) 0 0 0), (15, .ptr (nn.1 + 1, 15) 0 0 0), (16, .own nn g 0 out.length), (50, .sl (l.map Cnd.row)), (51, di l.length), (52, di j)]
def CsH' (nn : Nm) (m : Mtr) (p : Prd) (r : Run) (out : List Tic) (g : Nat) : Hp := ((((Hp.none.put (nn.1 + 1, 5) ⟨0, 3, [m.row]⟩).put (nn.1 + 1, 6) ⟨0, 5, [p.row]⟩).put (nn.1 + 1, 11) ⟨0, 2, [[di 0, di 0]]⟩).put (nn.1 + 1, 15) ⟨0, 2, [r.row]⟩).put nn ⟨g, 8, out.map Tic.row⟩
set_option maxHeartbeats 16000000 in
theorem tchain_o (m : Mtr) (p : Prd) (b : Int) (cs : List Cnt) (l : List Cnd) (hn : l.length ≤ 1000000 ∧ cs.length ≤ 1000000) (nn : Nm) : CallsA Tryd.prog 21 [m.enc, p.enc, di b, .sl (cs.map Cnt.row), .sl (l.map Cnd.row)] Hp.none nn (ChR nn (chI m p b cs l)) := by
  obtain ⟨code, h1, h2⟩ := c21_ok
  refine callsA_of CsT_ok mixed (N := fun t => (nn.1 + 1, t)) Tryd.func21 h1 h2 r21_ok [nn] true (js_new nn) (js_new' nn) (by simp [Tryd.f21]) ?_
  have hn4 : ∀ t : Nat, ¬ nn = (nn.1 + 1, t) := fun t e => by have := congrArg Prod.fst e; dsimp only at this; omega
  have hn5 : ∀ t : Nat, ¬ (nn.1 + 1, t) = nn := fun t e => hn4 t e.symm
  have wl : IntKind.i64.wrap ((l.length : Int) + 1) = (l.length : Int) + 1 := wrap_i (by omega)
  cases c1 : (begI m p 0 != 0) with
  | true =>
    have e : chI m p b cs l = ([], Run.zero, 9) := by unfold chI; rw [if_neg fun h => neq_b c1 h.1]
    simp (maxSteps:=500000) only [↓vp, vv, ↓reduceIte, simprocAttr, c21, c21_9, c21_8, r21, CsT, hn4, hn5, Mtr.enc, Mtr.row, Prd.enc, Prd.row, Cnt.enc, Cnd.enc, Run.enc, Run.row, Run.zero, selBg, selBet, selFa, selAd, selX, decMPI, decMCC, decPC, decRII, mtrOf_x, prdOf_x, cntOf_x, cndOf_x, runOf_x, tt, ie, re2, c1, e, Pu]
    exact chR_bad nn 9 (by decide) (.inl rfl)
  | false =>
  have k1 := eq_b c1
  cases c2 : ((cs.length : Int) != (l.length : Int) + 1) with
  | true =>
    have e : chI m p b cs l = ([], Run.zero, 9) := by unfold chI; rw [if_neg fun h => neq_b c2 (by have := h.2.1; omega)]
    simp (maxSteps:=500000) only [↓vp, vv, ↓reduceIte, simprocAttr, c21, c21_9, c21_8, r21, CsT, hn4, hn5, Mtr.enc, Mtr.row, Prd.enc, Prd.row, Cnt.enc, Cnd.enc, Run.enc, Run.row, Run.zero, selBg, selBet, selFa, selAd, selX, decMPI, decMCC, decPC, decRII, mtrOf_x, prdOf_x, cntOf_x, cndOf_x, runOf_x, tt, ie, re2, k1, wl, c2, e, Pu]
    exact chR_bad nn 9 (by decide) (.inl rfl)
  | false =>
  have k2 := eq_b c2
  cases c3 : decide ((1000 : Int) < (l.length : Int)) with
  | true =>
    have e : chI m p b cs l = ([], Run.zero, 9) := by unfold chI; rw [if_neg fun h => by have := h.2.2; have := of_decide_eq_true c3; omega]
    simp (maxSteps:=500000) only [↓vp, vv, ↓reduceIte, simprocAttr, c21, c21_9, c21_8, r21, CsT, hn4, hn5, Mtr.enc, Mtr.row, Prd.enc, Prd.row, Cnt.enc, Cnd.enc, Run.enc, Run.row, Run.zero, selBg, selBet, selFa, selAd, selX, decMPI, decMCC, decPC, decRII, mtrOf_x, prdOf_x, cntOf_x, cndOf_x, runOf_x, tt, ie, re2, k1, wl, c2, c3, e, Pu]
    exact chR_bad nn 9 (by decide) (.inl rfl)
  | false =>
  have hl : l.length ≤ 1000 := by have := of_decide_eq_false c3; omega
  have e0 : chI m p b cs l = if begI m p b = 0 then chGo m p b cs l 0 Run.zero [] else ([], Run.zero, begI m p b) := by unfold chI; rw [if_pos ⟨k1, by omega, hl⟩]
  cases c4 : (begI m p b != 0) with
  | true =>
    have e : chI m p b cs l = ([], Run.zero, begI m p b) := by rw [e0, if_neg (neq_b c4)]
    simp (maxSteps:=500000) only [↓vp, vv, ↓reduceIte, simprocAttr, c21, c21_9, c21_8, r21, CsT, hn4, hn5, Mtr.enc, Mtr.row, Prd.enc, Prd.row, Cnt.enc, Cnd.enc, Run.enc, Run.row, Run.zero, selBg, selBet, selFa, selAd, selX, decMPI, decMCC, decPC, decRII, mtrOf_x, prdOf_x, cntOf_x, cndOf_x, runOf_x, tt, ie, re2, k1, wl, c2, c3, c4, e, Pu]
    exact chR_bad nn _ (neq_b c4) (.inl rfl)
  | false =>
  have k4 := eq_b c4
  rw [e0, if_pos k4]
  generalize hX : chGo m p b cs l 0 Run.zero [] = X
  simp (maxSteps:=500000) only [↓vp, vv, ↓reduceIte, simprocAttr, c21, c21_9, c21_8, r21, CsT, hn4, hn5, Mtr.enc, Mtr.row, Prd.enc, Prd.row, Cnt.enc, Cnd.enc, Run.enc, Run.row, Run.zero, selBg, selBet, selFa, selAd, selX, decMPI, decMCC, decPC, decRII, mtrOf_x, prdOf_x, cntOf_x, cndOf_x, runOf_x, tt, ie, re2, k1, wl, c2, c3, k4]
  refine rng_loopP l.length (fun j (u : Run × List Tic × Nat) => ⟨fr (CsF' nn b cs l u.2.1 u.2.2 (j : Nat)), CsH' nn m p u.1 u.2.1 u.2.2⟩) (ChP m p b cs l X) (u0 := (Run.zero, [], 0)) ((weak_own 16 nn 8 (by simp (maxSteps:=500000) only [↓vp, vv, ↓reduceIte, simprocAttr, ]) (by simp (maxSteps:=500000) only [↓vp, vv, ↓reduceIte, simprocAttr, ])).trans (weak_eq [] [nn, (nn.1 + 1, 15), (nn.1 + 1, 11), (nn.1 + 1, 6), (nn.1 + 1, 5)] (CsF' nn b cs l [] 0 0) (by simp (maxSteps:=500000) only [↓vp, vv, ↓reduceIte, simprocAttr, coverS, CsF', CsH', Mtr.row, Prd.row, Run.row, Run.zero]) (by simp (maxSteps:=500000) only [↓vp, vv, ↓reduceIte, simprocAttr, refsF, CsF', CsH', Mtr.row, Prd.row, Run.row, Run.zero]) (by simp (maxSteps:=500000) only [↓vp, vv, ↓reduceIte, simprocAttr, CsF', CsH', Mtr.row, Prd.row, Run.row, Run.zero]) (by simp) (by simp (maxSteps:=500000) only [↓vp, vv, ↓reduceIte, simprocAttr, CsF', CsH', Mtr.row, Prd.row, Run.row, Run.zero]; try rfl))) ⟨⟨⟨by decide, by decide⟩, by decide, by decide⟩, rfl, hX⟩ (fun j hj u hP => ?_) (fun u hP => ?_)
  · obtain ⟨r, out, g⟩ := u
    have ho := hP.2.1
    have hr := hP.1.vol
    dsimp only at ho hr
    have hj' : (j : Int) < l.length := by omega
    have jc : j < cs.length := by omega
    have jc' : (j : Int) < cs.length := by omega
    have jd : j + 1 < cs.length := by omega
    have jd' : ((j + 1 : Nat) : Int) < cs.length := by omega
    have w1 := idx_next (j := j) (by omega)
    have g1 := cn_get jc
    have g2 := cn_get jd
    have g3 := cd_get hj
    have y1 : (out.length + 1) * 64 ≤ 140737488355328 := by omega
    have y2 : out.length + 1 ≤ 4611686018427387904 := by omega
    generalize hx : cnA cs j = x at g1
    generalize hy : cnA cs (j + 1) = y at g2
    generalize hc : cdA l j = c at g3
    cases d2 : ((betI m x y).2 != 0) with
    | true =>
      have e := chP_bad hP hj (neq_b d2) (by rw [hx, hy, hc]; exact step_b (neq_b d2))
      simp (maxSteps:=500000) only [↓vp, vv, ↓reduceIte, simprocAttr, c21_6, c21_5, c21_4, c21_3, c21_2, c21_1, r21, CsT, CsF', CsH', hn4, hn5, Int.toNat_natCast, idx_nn, Mtr.enc, Mtr.row, Prd.enc, Prd.row, Cnt.enc, Cnd.enc, Run.enc, Run.row, Run.zero, selBg, selBet, selFa, selAd, selX, decMPI, decMCC, decPC, decRII, mtrOf_x, prdOf_x, cntOf_x, cndOf_x, runOf_x, tt, ie, re2, hj', jc, jc', jd, jd', w1, g1, g2, g3, d2, e, List.map_nil, Pu]
      exact ⟨fun j _ => rfl, chR_bad nn _ (neq_b d2) (.inr ⟨g, out, rfl⟩)⟩
    | false =>
    have k2 := eq_b d2
    cases d3 : ((facI p c).2 != 0) with
    | true =>
      have e := chP_bad hP hj (neq_b d3) (by rw [hx, hy, hc]; exact step_f k2 (neq_b d3))
      simp (maxSteps:=500000) only [↓vp, vv, ↓reduceIte, simprocAttr, c21_6, c21_5, c21_4, c21_3, c21_2, c21_1, r21, CsT, CsF', CsH', hn4, hn5, Int.toNat_natCast, idx_nn, Mtr.enc, Mtr.row, Prd.enc, Prd.row, Cnt.enc, Cnd.enc, Run.enc, Run.row, Run.zero, selBg, selBet, selFa, selAd, selX, decMPI, decMCC, decPC, decRII, mtrOf_x, prdOf_x, cntOf_x, cndOf_x, runOf_x, tt, ie, re2, hj', jc, jc', jd, jd', w1, g1, g2, g3, k2, d3, e, List.map_nil, Pu]
      exact ⟨fun j _ => rfl, chR_bad nn _ (neq_b d3) (.inr ⟨g, out, rfl⟩)⟩
    | false =>
    have k3 := eq_b d3
    cases d4 : ((addI r (betI m x y).1 (facI p c).1).2 != 0) with
    | true =>
      have e := chP_bad hP hj (neq_b d4) (by rw [hx, hy, hc]; exact step_a k2 k3 (neq_b d4))
      simp (maxSteps:=500000) only [↓vp, vv, ↓reduceIte, simprocAttr, c21_6, c21_5, c21_4, c21_3, c21_2, c21_1, r21, CsT, CsF', CsH', hn4, hn5, Int.toNat_natCast, idx_nn, Mtr.enc, Mtr.row, Prd.enc, Prd.row, Cnt.enc, Cnd.enc, Run.enc, Run.row, Run.zero, selBg, selBet, selFa, selAd, selX, decMPI, decMCC, decPC, decRII, mtrOf_x, prdOf_x, cntOf_x, cndOf_x, runOf_x, tt, ie, re2, hj', jc, jc', jd, jd', w1, g1, g2, g3, k2, k3, d4, e, List.map_nil, Pu]
      exact ⟨fun j _ => rfl, chR_bad nn _ (neq_b d4) (.inr ⟨g, out, rfl⟩)⟩
    | false =>
      have k4 := eq_b d4
      obtain ⟨a1, a2⟩ := add_o k4
      have a3 := a1.vol
      have w2 : IntKind.i64.wrap ((addI r (betI m x y).1 (facI p c).1).1.vol - r.vol) = (addI r (betI m x y).1 (facI p c).1).1.vol - r.vol := wrap_i (by omega)
      have nx := fun g' => chP_next hP hj a1 (by rw [hx, hy, hc]; exact step_o k2 k3 k4) g'
      generalize hq : (addI r (betI m x y).1 (facI p c).1).1 = q at nx w2
      simp (maxSteps:=500000) only [↓vp, vv, ↓reduceIte, simprocAttr, c21_6, c21_5, c21_4, c21_3, c21_2, c21_1, r21, CsT, CsF', CsH', hn4, hn5, Int.toNat_natCast, idx_nn, Mtr.enc, Mtr.row, Prd.enc, Prd.row, Cnt.enc, Cnd.enc, Run.enc, Run.row, Run.zero, selBg, selBet, selFa, selAd, selX, decMPI, decMCC, decPC, decRII, mtrOf_x, prdOf_x, cntOf_x, cndOf_x, runOf_x, tt, ie, re2, hj', jc, jc', jd, jd', w1, w2, g1, g2, g3, k2, k3, k4, hq, y1, y2]
      refine rng_nextP hj (q, out ++ [ticOf b x y c (q.vol - r.vol)], g + 1) ?_ (nx (g + 1))
      exact (weak_eq [] [nn, (nn.1 + 1, 15), (nn.1 + 1, 11), (nn.1 + 1, 6), (nn.1 + 1, 5)] (CsF' nn b cs l (out ++ [ticOf b x y c (q.vol - r.vol)]) (g + 1) ((j + 1 : Nat) : Int)) (by simp (maxSteps:=500000) only [↓vp, vv, ↓reduceIte, simprocAttr, coverS, CsF', CsH', Mtr.row, Prd.row, Run.row, w1, List.map_append, List.length_append, List.length_cons, List.length_nil, List.map_cons, List.map_nil, Tic.row, ticOf]) (by simp (maxSteps:=500000) only [↓vp, vv, ↓reduceIte, simprocAttr, refsF, CsF', CsH', Mtr.row, Prd.row, Run.row, w1, List.map_append, List.length_append, List.length_cons, List.length_nil, List.map_cons, List.map_nil, Tic.row, ticOf]) (by simp (maxSteps:=500000) only [↓vp, vv, ↓reduceIte, simprocAttr, CsF', CsH', Mtr.row, Prd.row, Run.row, w1, List.map_append, List.length_append, List.length_cons, List.length_nil, List.map_cons, List.map_nil, Tic.row, ticOf]) (by simp) (by simp (maxSteps:=500000) only [↓vp, vv, ↓reduceIte, simprocAttr, CsF', CsH', Mtr.row, Prd.row, Run.row, w1, List.map_append, List.length_append, List.length_cons, List.length_nil, List.map_cons, List.map_nil, Tic.row, ticOf]; try rfl))
  · obtain ⟨r, out, g⟩ := u
    have h3 := hP.2.2
    dsimp only at h3
    rw [List.drop_of_length_le (Nat.le_refl _), chGo] at h3
    have tk : (out.map Tic.row).take out.length = out.map Tic.row := List.take_of_length_le (by simp)
    simp (maxSteps:=500000) only [↓vp, vv, ↓reduceIte, simprocAttr, c21_6, c21_7, r21, Int.lt_irrefl, CsF', CsH', tk, ← h3, hn4, hn5, Run.enc, Run.row, Pu]
    exact ⟨fun j _ => rfl, chR_ok nn out r g⟩
def CrF' (nn : Nm) (b : Int) (cs : List Cnt) (l : List Cnd) (out : List Tic) (g : Nat) (j : Int) : List (Nat × D) := [(2, di b), (3, .sl (cs.map Cnt.row)), (4, .sl (l.map Cnd.row)), (5, .ptr (nn.1 + 1, 5) 0 0 0), (6, .ptr (nn.1 + 1, 6) 0 0 0), (11, .ptr (nn.1 + 1, 11) 0 0 0), (14, .own nn g 0 out.length), (15, .ptr (nn.1 + 1, 15) 0 0 0), (16, di j)]
def CrH' (nn : Nm) (m : Mtr) (p : Prd) (r : Run) (out : List Tic) (g : Nat) : Hp := ((((Hp.none.put (nn.1 + 1, 5) ⟨0, 3, [m.row]⟩).put (nn.1 + 1, 6) ⟨0, 5, [p.row]⟩).put (nn.1 + 1, 11) ⟨0, 2, [[di 0, di 0]]⟩).put (nn.1 + 1, 15) ⟨0, 2, [r.row]⟩).put nn ⟨g, 8, out.map Tic.row⟩
set_option maxHeartbeats 16000000 in
theorem rchain_o (m : Mtr) (p : Prd) (b : Int) (cs : List Cnt) (l : List Cnd) (hn : l.length ≤ 1000000 ∧ cs.length ≤ 1000000) (nn : Nm) : CallsA Tryd.prog 22 [m.enc, p.enc, di b, .sl (cs.map Cnt.row), .sl (l.map Cnd.row)] Hp.none nn (ChR nn (chI m p b cs l)) := by
  obtain ⟨code, h1, h2⟩ := c22_ok
  refine callsA_of CrT_ok mixed (N := fun t => (nn.1 + 1, t)) Tryd.func22 h1 h2 r22_ok [nn] true (js_new nn) (js_new' nn) (by simp [Tryd.f22]) ?_
  have hn4 : ∀ t : Nat, ¬ nn = (nn.1 + 1, t) := fun t e => by have := congrArg Prod.fst e; dsimp only at this; omega
  have hn5 : ∀ t : Nat, ¬ (nn.1 + 1, t) = nn := fun t e => hn4 t e.symm
  have wl : IntKind.i64.wrap ((l.length : Int) + 1) = (l.length : Int) + 1 := wrap_i (by omega)
  cases m1 : mV m with
  | false =>
    have e : chI m p b cs l = ([], Run.zero, 9) := by unfold chI begI; rw [m1]; simp
    simp (maxSteps:=500000) only [↓vp, vv, ↓reduceIte, simprocAttr, c22, c22_9, c22_8, r22, CrT, hn4, hn5, Mtr.enc, Mtr.row, Prd.enc, Prd.row, Cnt.enc, Cnd.enc, Run.enc, Run.row, Run.zero, selBg, selMV, selPV, decM, decP, selBet, selFa, selAd, selX, decMPI, decMCC, decPC, decRII, mtrOf_x, prdOf_x, cntOf_x, cndOf_x, runOf_x, tt, ie, re2, m1, e, Pu]
    exact chR_bad nn 9 (by decide) (.inl rfl)
  | true =>
  cases m2 : pV p with
  | false =>
    have e : chI m p b cs l = ([], Run.zero, 9) := by unfold chI begI; rw [m1, m2]; simp
    simp (maxSteps:=500000) only [↓vp, vv, ↓reduceIte, simprocAttr, c22, c22_9, c22_8, r22, CrT, hn4, hn5, Mtr.enc, Mtr.row, Prd.enc, Prd.row, Cnt.enc, Cnd.enc, Run.enc, Run.row, Run.zero, selBg, selMV, selPV, decM, decP, selBet, selFa, selAd, selX, decMPI, decMCC, decPC, decRII, mtrOf_x, prdOf_x, cntOf_x, cndOf_x, runOf_x, tt, ie, re2, m1, m2, e, Pu]
    exact chR_bad nn 9 (by decide) (.inl rfl)
  | true =>
  have k1 : begI m p 0 = 0 := by unfold begI; rw [m1, m2]; rfl
  cases c2 : ((cs.length : Int) != (l.length : Int) + 1) with
  | true =>
    have e : chI m p b cs l = ([], Run.zero, 9) := by unfold chI; rw [if_neg fun h => neq_b c2 (by have := h.2.1; omega)]
    simp (maxSteps:=500000) only [↓vp, vv, ↓reduceIte, simprocAttr, c22, c22_9, c22_8, r22, CrT, hn4, hn5, Mtr.enc, Mtr.row, Prd.enc, Prd.row, Cnt.enc, Cnd.enc, Run.enc, Run.row, Run.zero, selBg, selMV, selPV, decM, decP, selBet, selFa, selAd, selX, decMPI, decMCC, decPC, decRII, mtrOf_x, prdOf_x, cntOf_x, cndOf_x, runOf_x, tt, ie, re2, m1, m2, wl, c2, e, Pu]
    exact chR_bad nn 9 (by decide) (.inl rfl)
  | false =>
  have k2 := eq_b c2
  cases c3 : decide ((1000 : Int) < (l.length : Int)) with
  | true =>
    have e : chI m p b cs l = ([], Run.zero, 9) := by unfold chI; rw [if_neg fun h => by have := h.2.2; have := of_decide_eq_true c3; omega]
    simp (maxSteps:=500000) only [↓vp, vv, ↓reduceIte, simprocAttr, c22, c22_9, c22_8, r22, CrT, hn4, hn5, Mtr.enc, Mtr.row, Prd.enc, Prd.row, Cnt.enc, Cnd.enc, Run.enc, Run.row, Run.zero, selBg, selMV, selPV, decM, decP, selBet, selFa, selAd, selX, decMPI, decMCC, decPC, decRII, mtrOf_x, prdOf_x, cntOf_x, cndOf_x, runOf_x, tt, ie, re2, m1, m2, wl, c2, c3, e, Pu]
    exact chR_bad nn 9 (by decide) (.inl rfl)
  | false =>
  have hl : l.length ≤ 1000 := by have := of_decide_eq_false c3; omega
  have e0 : chI m p b cs l = if begI m p b = 0 then chGo m p b cs l 0 Run.zero [] else ([], Run.zero, begI m p b) := by unfold chI; rw [if_pos ⟨k1, by omega, hl⟩]
  cases c4 : (begI m p b != 0) with
  | true =>
    have e : chI m p b cs l = ([], Run.zero, begI m p b) := by rw [e0, if_neg (neq_b c4)]
    simp (maxSteps:=500000) only [↓vp, vv, ↓reduceIte, simprocAttr, c22, c22_9, c22_8, r22, CrT, hn4, hn5, Mtr.enc, Mtr.row, Prd.enc, Prd.row, Cnt.enc, Cnd.enc, Run.enc, Run.row, Run.zero, selBg, selMV, selPV, decM, decP, selBet, selFa, selAd, selX, decMPI, decMCC, decPC, decRII, mtrOf_x, prdOf_x, cntOf_x, cndOf_x, runOf_x, tt, ie, re2, m1, m2, wl, c2, c3, c4, e, Pu]
    exact chR_bad nn _ (neq_b c4) (.inl rfl)
  | false =>
  have k4 := eq_b c4
  rw [e0, if_pos k4]
  generalize hX : chGo m p b cs l 0 Run.zero [] = X
  simp (maxSteps:=500000) only [↓vp, vv, ↓reduceIte, simprocAttr, c22, c22_9, c22_8, r22, CrT, hn4, hn5, Mtr.enc, Mtr.row, Prd.enc, Prd.row, Cnt.enc, Cnd.enc, Run.enc, Run.row, Run.zero, selBg, selMV, selPV, decM, decP, selBet, selFa, selAd, selX, decMPI, decMCC, decPC, decRII, mtrOf_x, prdOf_x, cntOf_x, cndOf_x, runOf_x, tt, ie, re2, m1, m2, wl, c2, c3, k4]
  refine rng_loopP l.length (fun j (u : Run × List Tic × Nat) => ⟨fr (CrF' nn b cs l u.2.1 u.2.2 (j : Nat)), CrH' nn m p u.1 u.2.1 u.2.2⟩) (ChP m p b cs l X) (u0 := (Run.zero, [], 0)) ((weak_own 14 nn 8 (by simp (maxSteps:=500000) only [↓vp, vv, ↓reduceIte, simprocAttr, ]) (by simp (maxSteps:=500000) only [↓vp, vv, ↓reduceIte, simprocAttr, ])).trans (weak_eq [] [nn, (nn.1 + 1, 15), (nn.1 + 1, 11), (nn.1 + 1, 6), (nn.1 + 1, 5)] (CrF' nn b cs l [] 0 0) (by simp (maxSteps:=500000) only [↓vp, vv, ↓reduceIte, simprocAttr, coverS, CrF', CrH', Mtr.row, Prd.row, Run.row, Run.zero]) (by simp (maxSteps:=500000) only [↓vp, vv, ↓reduceIte, simprocAttr, refsF, CrF', CrH', Mtr.row, Prd.row, Run.row, Run.zero]) (by simp (maxSteps:=500000) only [↓vp, vv, ↓reduceIte, simprocAttr, CrF', CrH', Mtr.row, Prd.row, Run.row, Run.zero]) (by simp) (by simp (maxSteps:=500000) only [↓vp, vv, ↓reduceIte, simprocAttr, CrF', CrH', Mtr.row, Prd.row, Run.row, Run.zero]; try rfl))) ⟨⟨⟨by decide, by decide⟩, by decide, by decide⟩, rfl, hX⟩ (fun j hj u hP => ?_) (fun u hP => ?_)
  · obtain ⟨r, out, g⟩ := u
    have ho := hP.2.1
    have hr := hP.1.vol
    dsimp only at ho hr
    have hj' : (j : Int) < l.length := by omega
    have jc : j < cs.length := by omega
    have jc' : (j : Int) < cs.length := by omega
    have jd : j + 1 < cs.length := by omega
    have jd' : ((j + 1 : Nat) : Int) < cs.length := by omega
    have w1 := idx_next (j := j) (by omega)
    have g1 := cn_get jc
    have g2 := cn_get jd
    have g3 := cd_get hj
    have y1 : (out.length + 1) * 64 ≤ 140737488355328 := by omega
    have y2 : out.length + 1 ≤ 4611686018427387904 := by omega
    generalize hx : cnA cs j = x at g1
    generalize hy : cnA cs (j + 1) = y at g2
    generalize hc : cdA l j = c at g3
    cases d2 : ((betI m x y).2 != 0) with
    | true =>
      have e := chP_bad hP hj (neq_b d2) (by rw [hx, hy, hc]; exact step_b (neq_b d2))
      simp (maxSteps:=500000) only [↓vp, vv, ↓reduceIte, simprocAttr, c22_6, c22_5, c22_4, c22_3, c22_2, c22_1, r22, CrT, CrF', CrH', hn4, hn5, Int.toNat_natCast, idx_nn, Mtr.enc, Mtr.row, Prd.enc, Prd.row, Cnt.enc, Cnd.enc, Run.enc, Run.row, Run.zero, selBg, selMV, selPV, decM, decP, selBet, selFa, selAd, selX, decMPI, decMCC, decPC, decRII, mtrOf_x, prdOf_x, cntOf_x, cndOf_x, runOf_x, tt, ie, re2, hj', jc, jc', jd, jd', w1, g1, g2, g3, d2, e, List.map_nil, Pu]
      exact ⟨fun j _ => rfl, chR_bad nn _ (neq_b d2) (.inr ⟨g, out, rfl⟩)⟩
    | false =>
    have k2 := eq_b d2
    cases d3 : ((facI p c).2 != 0) with
    | true =>
      have e := chP_bad hP hj (neq_b d3) (by rw [hx, hy, hc]; exact step_f k2 (neq_b d3))
      simp (maxSteps:=500000) only [↓vp, vv, ↓reduceIte, simprocAttr, c22_6, c22_5, c22_4, c22_3, c22_2, c22_1, r22, CrT, CrF', CrH', hn4, hn5, Int.toNat_natCast, idx_nn, Mtr.enc, Mtr.row, Prd.enc, Prd.row, Cnt.enc, Cnd.enc, Run.enc, Run.row, Run.zero, selBg, selMV, selPV, decM, decP, selBet, selFa, selAd, selX, decMPI, decMCC, decPC, decRII, mtrOf_x, prdOf_x, cntOf_x, cndOf_x, runOf_x, tt, ie, re2, hj', jc, jc', jd, jd', w1, g1, g2, g3, k2, d3, e, List.map_nil, Pu]
      exact ⟨fun j _ => rfl, chR_bad nn _ (neq_b d3) (.inr ⟨g, out, rfl⟩)⟩
    | false =>
    have k3 := eq_b d3
    cases d4 : ((addI r (betI m x y).1 (facI p c).1).2 != 0) with
    | true =>
      have e := chP_bad hP hj (neq_b d4) (by rw [hx, hy, hc]; exact step_a k2 k3 (neq_b d4))
      simp (maxSteps:=500000) only [↓vp, vv, ↓reduceIte, simprocAttr, c22_6, c22_5, c22_4, c22_3, c22_2, c22_1, r22, CrT, CrF', CrH', hn4, hn5, Int.toNat_natCast, idx_nn, Mtr.enc, Mtr.row, Prd.enc, Prd.row, Cnt.enc, Cnd.enc, Run.enc, Run.row, Run.zero, selBg, selMV, selPV, decM, decP, selBet, selFa, selAd, selX, decMPI, decMCC, decPC, decRII, mtrOf_x, prdOf_x, cntOf_x, cndOf_x, runOf_x, tt, ie, re2, hj', jc, jc', jd, jd', w1, g1, g2, g3, k2, k3, d4, e, List.map_nil, Pu]
      exact ⟨fun j _ => rfl, chR_bad nn _ (neq_b d4) (.inr ⟨g, out, rfl⟩)⟩
    | false =>
      have k4 := eq_b d4
      obtain ⟨a1, a2⟩ := add_o k4
      have a3 := a1.vol
      have w2 : IntKind.i64.wrap ((addI r (betI m x y).1 (facI p c).1).1.vol - r.vol) = (addI r (betI m x y).1 (facI p c).1).1.vol - r.vol := wrap_i (by omega)
      have nx := fun g' => chP_next hP hj a1 (by rw [hx, hy, hc]; exact step_o k2 k3 k4) g'
      generalize hq : (addI r (betI m x y).1 (facI p c).1).1 = q at nx w2
      simp (maxSteps:=500000) only [↓vp, vv, ↓reduceIte, simprocAttr, c22_6, c22_5, c22_4, c22_3, c22_2, c22_1, r22, CrT, CrF', CrH', hn4, hn5, Int.toNat_natCast, idx_nn, Mtr.enc, Mtr.row, Prd.enc, Prd.row, Cnt.enc, Cnd.enc, Run.enc, Run.row, Run.zero, selBg, selMV, selPV, decM, decP, selBet, selFa, selAd, selX, decMPI, decMCC, decPC, decRII, mtrOf_x, prdOf_x, cntOf_x, cndOf_x, runOf_x, tt, ie, re2, hj', jc, jc', jd, jd', w1, w2, g1, g2, g3, k2, k3, k4, hq, y1, y2]
      refine rng_nextP hj (q, out ++ [ticOf b x y c (q.vol - r.vol)], g + 1) ?_ (nx (g + 1))
      exact (weak_eq [] [nn, (nn.1 + 1, 15), (nn.1 + 1, 11), (nn.1 + 1, 6), (nn.1 + 1, 5)] (CrF' nn b cs l (out ++ [ticOf b x y c (q.vol - r.vol)]) (g + 1) ((j + 1 : Nat) : Int)) (by simp (maxSteps:=500000) only [↓vp, vv, ↓reduceIte, simprocAttr, coverS, CrF', CrH', Mtr.row, Prd.row, Run.row, w1, List.map_append, List.length_append, List.length_cons, List.length_nil, List.map_cons, List.map_nil, Tic.row, ticOf]) (by simp (maxSteps:=500000) only [↓vp, vv, ↓reduceIte, simprocAttr, refsF, CrF', CrH', Mtr.row, Prd.row, Run.row, w1, List.map_append, List.length_append, List.length_cons, List.length_nil, List.map_cons, List.map_nil, Tic.row, ticOf]) (by simp (maxSteps:=500000) only [↓vp, vv, ↓reduceIte, simprocAttr, CrF', CrH', Mtr.row, Prd.row, Run.row, w1, List.map_append, List.length_append, List.length_cons, List.length_nil, List.map_cons, List.map_nil, Tic.row, ticOf]) (by simp) (by simp (maxSteps:=500000) only [↓vp, vv, ↓reduceIte, simprocAttr, CrF', CrH', Mtr.row, Prd.row, Run.row, w1, List.map_append, List.length_append, List.length_cons, List.length_nil, List.map_cons, List.map_nil, Tic.row, ticOf]; try rfl))
  · obtain ⟨r, out, g⟩ := u
    have h3 := hP.2.2
    dsimp only at h3
    rw [List.drop_of_length_le (Nat.le_refl _), chGo] at h3
    have tk : (out.map Tic.row).take out.length = out.map Tic.row := List.take_of_length_le (by simp)
    simp (maxSteps:=500000) only [↓vp, vv, ↓reduceIte, simprocAttr, c22_6, c22_7, r22, Int.lt_irrefl, CrF', CrH', tk, ← h3, hn4, hn5, Run.enc, Run.row, Pu]
    exact ⟨fun j _ => rfl, chR_ok nn out r g⟩
end Go.Proofs.YtehmmnnmkapfeaaDoor
