
/- ToolOrder: the law, the walk. -/
import Derived.Test.YtkjibmfggeibjaaTd5
namespace Go.Proofs.Ytkjibmfggeibjaa
open Go
set_option linter.unusedVariables false
set_option linter.unusedSimpArgs false
set_option maxRecDepth 100000

/-- The one is not behind the other. -/
def geT (a b : Tol) : Prop := b.hop < a.hop ∨ (a.hop = b.hop ∧ b.pos ≤ a.pos)
theorem lt_f {a b : Tol} (h : geT a b) : ltT a b = false := by
  unfold ltT
  rcases h with h | ⟨h1, h2⟩
  · rw [decide_eq_false (by omega), if_neg Bool.false_ne_true]
    have : (a.hop == b.hop) = false := by rw [beq_eq_false_iff_ne]; omega
    rw [this, if_neg Bool.false_ne_true]
  · rw [decide_eq_false (by omega), if_neg Bool.false_ne_true]
    split
    · exact decide_eq_false (by omega)
    · rfl
theorem mov_cases (n : Net) (p : Pln) (t : Tol) : mov1 n p t = t ∧ t.hop = (t.way.length : Int) ∨ (¬ t.hop = (t.way.length : Int) ∧ ((mov1 n p t).hop = t.hop + 1 ∧ (mov1 n p t).pos = 0 ∧ tCap n (t.way.getD t.hop.toNat (0, false)) < pos0 (t.pos + tRate p (t.way.getD t.hop.toNat (0, false))) ∨ (mov1 n p t).hop = t.hop ∧ (mov1 n p t).pos = pos0 (t.pos + tRate p (t.way.getD t.hop.toNat (0, false))) ∧ ¬ tCap n (t.way.getD t.hop.toNat (0, false)) < pos0 (t.pos + tRate p (t.way.getD t.hop.toNat (0, false))))) := by
  unfold mov1
  cases c1 : (t.hop == (t.way.length : Int)) with
  | true => rw [if_pos rfl]; exact .inl ⟨rfl, by simpa using c1⟩
  | false =>
    rw [if_neg Bool.false_ne_true]
    refine .inr ⟨by simpa using c1, ?_⟩
    by_cases c2 : tCap n (t.way.getD t.hop.toNat (0, false)) < pos0 (t.pos + tRate p (t.way.getD t.hop.toNat (0, false)))
    · rw [decide_eq_true c2, if_pos rfl]
      exact .inl ⟨rfl, rfl, c2⟩
    · rw [decide_eq_false c2, if_neg Bool.false_ne_true]
      exact .inr ⟨rfl, rfl, c2⟩
theorem pos0_mono {x y : Int} (h : x ≤ y) : pos0 x ≤ pos0 y := by unfold pos0; split <;> split <;> omega
theorem ge_mov {n : Net} {p : Pln} {a b : Tol} (ha : TolOk n a) (hb : TolOk n b) (hv : NetV n) (hw : a.way = b.way) (h : geT a b) : geT (mov1 n p a) (mov1 n p b) := by
  have pa := (ha.mov hv p).p
  have pb := (hb.mov hv p).p
  rw [mov1_way] at pa pb
  have pa0 := ha.p
  have pb0 := hb.p
  have ma := mov_cases n p a
  have mb := mov_cases n p b
  rw [hw] at ma pa pa0
  unfold geT at *
  rcases h with h | ⟨h1, h2⟩
  · rcases ma with ⟨ea, la⟩ | ⟨la, ⟨a1, a2, a3⟩ | ⟨a1, a2, a3⟩⟩ <;> rcases mb with ⟨eb, lb⟩ | ⟨lb, ⟨b1, b2, b3⟩ | ⟨b1, b2, b3⟩⟩
    all_goals (try rw [ea]); (try rw [eb])
    all_goals (try rw [ea] at pa); (try rw [eb] at pb)
    all_goals omega
  · rw [h1] at ma
    have hm := pos0_mono (show b.pos + tRate p (b.way.getD b.hop.toNat (0, false)) ≤ a.pos + tRate p (b.way.getD b.hop.toNat (0, false)) by omega)
    rcases ma with ⟨ea, la⟩ | ⟨la, ⟨a1, a2, a3⟩ | ⟨a1, a2, a3⟩⟩ <;> rcases mb with ⟨eb, lb⟩ | ⟨lb, ⟨b1, b2, b3⟩ | ⟨b1, b2, b3⟩⟩
    all_goals (try rw [ea]); (try rw [eb])
    all_goals (try rw [ea] at pa); (try rw [eb] at pb)
    all_goals omega
theorem movK_way (n : Net) (p : Pln) : ∀ (k : Nat) (t : Tol), (movK n p k t).way = t.way
  | 0, t => rfl
  | k + 1, t => by
    show (movK n p k (mov1 n p t)).way = t.way
    rw [movK_way n p k, mov1_way]
theorem ge_movK {n : Net} {p : Pln} (hv : NetV n) : ∀ (k : Nat) {a b : Tol}, TolOk n a → TolOk n b → a.way = b.way → geT a b → geT (movK n p k a) (movK n p k b)
  | 0, a, b, _, _, _, h => h
  | k + 1, a, b, ha, hb, hw, h => ge_movK hv k (ha.mov hv p) (hb.mov hv p) (by rw [mov1_way, mov1_way, hw]) (ge_mov ha hb hv hw h)
def OrF (q : Nat) (l : List (Nat × D)) : List (Nat × D) := (1, .v (.int .u8 q)) :: (5, .ptr (0, 21) 0 0 0) :: (6, .ptr (0, 6) 0 0 0) :: (8, .ptr (0, 8) 0 0 0) :: (10, .ptr (0, 10) 0 0 0) :: l
def OrH (L : List (List D)) (at' : Int) (n : Net) (a b : Tol) : Hp := (((Hp.none.put (0, 21) (sE L at')).put (0, 10) ⟨0, 3, [b.row]⟩).put (0, 8) ⟨0, 3, [a.row]⟩).put (0, 6) ⟨0, 6, [netD n]⟩
structure OrInv (n : Net) (w : List (Int × Bool)) (a b : Tol) : Prop where
  oa : TolOk n a
  ob : TolOk n b
  wa : a.way = w
  wb : b.way = w
  g : geT b a
theorem mod9 {i : Nat} : (i : Int).tmod 9 = ((i % 9 : Nat) : Int) := (Int.ofNat_tmod i 9).symm
set_option maxHeartbeats 16000000 in
theorem TOr_c (ns : List Int) (hns : ∀ n ∈ ns, InI n) (q : Nat) (hq : q < 256) (nn : Nm) : CallsA Try.prog 5 [.sl (ns.map fun n => [di n]), .v (.int .u8 q)] Hp.none nn (Pu (db true) Hp.none) := by
  obtain ⟨code, h1, h2⟩ := c5_ok
  refine callsA_of TTd_ok mixed (N := fun t => (0, t)) Try.func5 h1 h2 r5_ok [] false js_nil js_nil' (by simp [Try.f5]) ?_
  have ho : SrcOk ((ns.map fun n => [di n]).take 2000) 0 := src_new ns hns
  cases hf : decide ((ns.length : Int) ≤ 400) with
  | false => simp (config := { maxSteps := 500000 }) only [↓vp, vv, implies_true, forall_const, undef, InI, ↓reduceIte, simprocAttr, c5, r5, TTd, selFw32, selAw, hf, Pu]
  | true =>
    simp (config := { maxSteps := 500000 }) only [↓vp, vv, implies_true, forall_const, undef, InI, ↓reduceIte, simprocAttr, c5, c5_7, TTd, selFw32, rowNew, sel0, hf, ho, Net.enc]
    intro a1 n hn
    have hck := check_ok hn
    have hv := check0 hck
    have hpp := ports1 hn
    have hnz := net_sz hn
    have hn1 : netOf1 [D.sl (n.nodes.map nmRow), .sl (n.segs.map Seg.row), .sl (n.ports.map Port.row), .sl (n.sts.map Stn.row), di n.vap, di n.set] = some n := netOf1_row n
    simp (config := { maxSteps := 500000 }) only [↓vp, vv, implies_true, forall_const, undef, InI, ↓reduceIte, simprocAttr, TTd, selWay, hn1, hn, a1.2, netD]
    intro a3 w hw
    have hwl : w.length ≤ 1000000 := by
      rcases hw with h | h
      · rw [h]; simp
      · have := h.1; omega
    have hw1 : lsOf tHopOf1 (w.map tHop) = some w := lsOf_map tHopOf1_row w
    rcases hw with rfl | ⟨hwl2, hwc⟩
    · have hla : launD n [] = .tup [.agg [.sl [], di 0, di 0], di 24] := rfl
      have hw1' : lsOf tHopOf1 [] = some [] := rfl
      have s0 : (0 : Nat) ≤ 1000000 := by omega
      simp (config := { maxSteps := 500000 }) only [↓vp, vv, implies_true, forall_const, undef, InI, ↓reduceIte, simprocAttr, TTd, TTo, selLaun, selAw, r5, hn1, hw1', hnz, hck, s0, hla, netD, List.map_nil, List.length_nil, Pu]
    · have hT : TolOk n ⟨w, 0, 0⟩ := by
        refine ⟨hwl2, hwc, .inr ⟨Int.le_refl _, by dsimp only; omega, Int.le_refl _, ?_⟩⟩
        exact cap_nn hv _
      have hV := (tolV_iff n ⟨w, 0, 0⟩).2 hT
      have hla : launD n w = .tup [.agg [.sl (w.map tHop), di 0, di 0], di 0] := by unfold launD; rw [hV, if_pos rfl]; rfl
      have ht1 : tolOf1 [.sl (w.map tHop), di 0, di 0] = some ⟨w, 0, 0⟩ := tolOf1_row ⟨w, 0, 0⟩
      have hi1 : InI w.length := by unfold InI; omega
      have o3 := a3.2
      simp (config := { maxSteps := 500000 }) only [↓vp, vv, implies_true, forall_const, undef, InI, ↓reduceIte, simprocAttr, TTd, TTo, selLaun, selTol, selI, c5_6, hn1, hw1, hnz, hck, hwl, hla, ht1, hi1, o3, netD, Tol.enc, Tol.row, bne_self_eq_false]
      intro a4 x hx
      have hx0 := hx.1
      have hx1 := hx.2.1 (by omega)
      have hx2 : x.toNat < w.length := by omega
      have gw := tHop_g w x.toNat hx2
      have hin := chn_in hwc _ (List.getElem_mem hx2)
      obtain ⟨sg, gs, _, hcap, _, _, hc1, hc2⟩ := seg_at hv hin
      have hg : w.getD x.toNat (0, false) = w[x.toNat] := way_get (t := ⟨w, 0, 0⟩) hx2
      generalize w[x.toNat] = y at gw hin gs hcap hg
      obtain ⟨k, bb⟩ := y
      obtain ⟨u1, u2⟩ := hin
      dsimp only at u1 u2 gs
      have wc : IntKind.i64.wrap (sg.cap + 1) = sg.cap + 1 := wrap_i (by omega)
      have hi2 : InI (sg.cap + 1) := by unfold InI; omega
      have o4 := a4.2
      simp (config := { maxSteps := 500000 }) only [↓vp, vv, implies_true, forall_const, undef, InI, ↓reduceIte, simprocAttr, TTd, TTo, selI, hx0, hx1, gw, tHop, u1, u2, gs, Seg.row, wc, hi2, o4, netD]
      intro a5 z hz
      have hz0 := hz.1
      have hz1 := hz.2.1 (by omega)
      have hb0 : TolOk n ⟨w, x, z⟩ := by
        refine ⟨hwl2, hwc, .inr ⟨hx0, hx1, hz0, ?_⟩⟩
        dsimp only
        rw [hg, hcap]
        omega
      have hge : geT ⟨w, x, z⟩ ⟨w, 0, 0⟩ := by
        unfold geT
        dsimp only
        omega
      have wq : IntKind.i64.wrap (q : Int) = q := wrap_i (by omega)
      have mq := mod9 (i := q)
      have lq : q % 9 < 9 := Nat.mod_lt _ (by omega)
      rw [vc_loop]
      refine ⟨fun m st => ∃ (j : Nat) (u : SA (List.take 2000 (List.map (fun n => [di n]) ns))) (A B : Tol), j + m = 6 ∧ OrInv n w A B ∧ st = ⟨fr (OrF q [(11, di j)]), OrH (List.take 2000 (List.map (fun n => [di n]) ns)) u.1 n A B⟩,
        ⟨6, _, (weak_eq [] [(0, 6), (0, 8), (0, 10), (0, 21)] (OrF q [(11, di 0)]) (by simp (config := { maxSteps := 500000 }) only [↓vp, vv, implies_true, forall_const, undef, InI, ↓reduceIte, simprocAttr, coverS, OrF, OrH, sE, netD, Tol.row]) (by simp (config := { maxSteps := 500000 }) only [↓vp, vv, implies_true, forall_const, undef, InI, ↓reduceIte, simprocAttr, refsF, OrF, OrH, sE, netD, Tol.row]) (by simp (config := { maxSteps := 500000 }) only [↓vp, vv, implies_true, forall_const, undef, InI, ↓reduceIte, simprocAttr, OrF, OrH, sE, netD, Tol.row]) (by simp) (by simp (config := { maxSteps := 500000 }) only [↓vp, vv, implies_true, forall_const, undef, InI, ↓reduceIte, simprocAttr, OrF, OrH, sE, netD, Tol.row]; try rfl)), 0, a5, ⟨w, 0, 0⟩, ⟨w, x, z⟩, rfl, ⟨hT, hb0, rfl, rfl, hge⟩, rfl⟩, ?_⟩
      rintro m st ⟨j, u, A, B, hjm, hI, rfl⟩
      have uo := u.2
      have hjn := idx_nn j
      have wj := idx_next (j := j) (by omega)
      by_cases hj : j < 6
      · have hj' : (j : Int) < 6 := by omega
        simp (config := { maxSteps := 500000 }) only [↓vp, vv, implies_true, forall_const, undef, InI, ↓reduceIte, simprocAttr, c5_4, c5_3, TTd, selPlan, OrF, OrH, netD, hj', hn1, hv, hpp, uo, Pln.enc, plnD]
        intro a6 p hp
        have hfz := plan_sz hn hp
        have f0 := plan0 hck hp
        have hp1 : plnOf1 [D.sl (p.rates.map iRow), .sl (p.ports.map iRow), .sl (p.pumps.map bRow)] = some p := plnOf1_row p
        generalize q % 9 = k at *
        have hl1 : lsOf tolOf1 [[.sl (A.way.map tHop), di A.hop, di A.pos], [.sl (B.way.map tHop), di B.hop, di B.pos]] = some [A, B] := lsOf_map tolOf1_row [A, B]
        have rp : RunPre n p [A, B] (k : Int) := ⟨hfz, f0, by simp, fun t ht => by
          rcases List.mem_cons.1 ht with rfl | ht
          · exact hI.oa
          · rw [List.mem_singleton.1 ht]; exact hI.ob, by omega⟩
        have hX := hI.oa.movK hv (p := p) k
        have hY := hI.ob.movK hv (p := p) k
        have hgm := ge_movK hv k (p := p) hI.ob hI.oa (by rw [hI.wa, hI.wb]) hI.g
        have wX := (movK_way n p k A).trans hI.wa
        have wY := (movK_way n p k B).trans hI.wb
        generalize hXe : movK n p k A = X at *
        generalize hYe : movK n p k B = Y at *
        have hx3 : tolOf1 [.sl (X.way.map tHop), di X.hop, di X.pos] = some X := tolOf1_row X
        have hy3 : tolOf1 [.sl (Y.way.map tHop), di Y.hop, di Y.pos] = some Y := tolOf1_row Y
        have vX := (tolV_iff n X).2 hX
        have vY := (tolV_iff n Y).2 hY
        have lX : X.way.length ≤ 1000000 := by have := hX.l; omega
        have lY : Y.way.length ≤ 1000000 := by have := hY.l; omega
        have bh : BhPre n Y X := ⟨hnz, hck, hY, hX, wY.trans wX.symm⟩
        have hlt := lt_f hgm
        simp (config := { maxSteps := 500000 }) only [↓vp, vv, implies_true, forall_const, undef, InI, ↓reduceIte, simprocAttr, c5_2, c5_1, TTd, TTo, selRun, selTVal, selBh, OrF, OrH, netD, plnD, wq, mq, hn1, hp1, hl1, rp, hXe, hYe, hx3, hy3, hnz, hck, lX, lY, vX, vY, bh, hlt, Tol.enc, Tol.row, List.map_cons, List.map_nil, bne_self_eq_false, Int.toNat_natCast, wj]
        exact ⟨m - 1, _, by omega, (weak_eq [] [(0, 6), (0, 8), (0, 10), (0, 21)] (OrF q [(11, di (j + 1 : Nat))]) (by simp (config := { maxSteps := 500000 }) only [↓vp, vv, implies_true, forall_const, undef, InI, ↓reduceIte, simprocAttr, coverS, OrF, OrH, sE, netD, Tol.row, wj]) (by simp (config := { maxSteps := 500000 }) only [↓vp, vv, implies_true, forall_const, undef, InI, ↓reduceIte, simprocAttr, refsF, OrF, OrH, sE, netD, Tol.row, wj]) (by simp (config := { maxSteps := 500000 }) only [↓vp, vv, implies_true, forall_const, undef, InI, ↓reduceIte, simprocAttr, OrF, OrH, sE, netD, Tol.row, wj]) (by simp) (by simp (config := { maxSteps := 500000 }) only [↓vp, vv, implies_true, forall_const, undef, InI, ↓reduceIte, simprocAttr, OrF, OrH, sE, netD, Tol.row, wj]; try rfl)), j + 1, a6, X, Y, by omega, ⟨hX, hY, wX, wY, hgm⟩, rfl⟩
      · have hj' : ¬ (j : Int) < 6 := by omega
        simp (config := { maxSteps := 500000 }) only [↓vp, vv, implies_true, forall_const, undef, InI, ↓reduceIte, simprocAttr, c5_4, c5_5, r5, TTd, selAw, OrF, OrH, netD, hj', Pu]
theorem ToolOrder_law (a : Option Addr) (len cap : Nat) (i : Int) (w : World) (h : ArgInts w a len cap) (h0 : 0 ≤ i) (h1 : i ≤ 255) :
    Calls Try.prog 5 #[.slice a len cap, .int .u8 i] w (Ret (.bool true) w) := by
  refine law_ints (us := [.int .u8 i]) h fun ns hns => ?_
  have := TOr_c ns hns i.toNat (by omega) (0, 0)
  rw [show ((i.toNat : Nat) : Int) = i by omega] at this
  exact this
end Go.Proofs.Ytkjibmfggeibjaa
