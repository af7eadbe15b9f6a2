
/- LineupMade: the walk. -/
import Derived.Test.YtkjibmfggeibjaaLmA
import Derived.Test.YtkjibmfggeibjaaLu5
namespace Go.Proofs.Ytkjibmfggeibjaa
open Go
set_option linter.unusedVariables false
set_option linter.unusedSimpArgs false
set_option maxRecDepth 100000

def selAgr : List D → Option (Prop × D)
  | [.agg a, .agg b, .agg c, .agg d, .sl rows] => match netOf1 a, lnpOf1 b, lnpOf1 c, plnOf1 d, lsOf vlvOf1 rows with
    | some n, some x, some y, some p, some v => some (AgPre n x y p v, db true)
    | _, _, _, _, _ => Option.none
  | _ => Option.none
def selWrn : List D → Option (Prop × (Net → Prop))
  | [.agg a] => match netOf1 a with
    | some n => some (NetOk n, WrOk n)
    | Option.none => Option.none
  | _ => Option.none
def selOff : List D → Option (Prop × (Pln → Prop))
  | [.agg a] => match plnOf1 a with
    | some p => some (OffPre p, PlnSz)
    | Option.none => Option.none
  | _ => Option.none
def TLm (P : Program) : Tbl := tc 47 (rowPu selAgr) (tc 34 (rowSrc selWrn Net.enc) (tc 35 (rowSrc selOff Pln.enc) (tc 45 (rowSrc (sel0 fun _ : Vlv => True) fun v => .agg v.row) (tc 44 (rowPu (selNet fun n => di (cntI n))) (tc 46 (rowPu (selNP FckPre fun n p => .tup [(needR n p).enc, di (fckI n p)])) (tc 24 (rowSrc (selI InI NPost) di) TL24))))))
theorem wr_ex (n : Net) : WrOk n ⟨[], n.segs.map fun s => ⟨s.name, s.fr, s.to, s.cap, s.resist, s.wave, []⟩, n.ports, [], 0, 0⟩ := ⟨by simp, by simp, rfl, by simp, fun s hs => by
  obtain ⟨x, _, rfl⟩ := List.mem_map.1 hs
  simp⟩
theorem TLm_ok : TblOk Try.prog (TLm Try.prog) := tc_pu f47_ok (fun args pre d hs hp nn => by
  unfold selAgr at hs
  split at hs
  · split at hs
    · rename_i e1 e2 e3 e4 e5
      cases hs
      rw [netOf1_eq e1, lnpOf1_eq e2, lnpOf1_eq e3, plnOf1_eq e4, lsOf_eq (fun r x => vlvOf1_eq) e5]
      exact agree_c _ _ _ _ _ hp nn
    · cases hs
  · cases hs) (tc_src f34_ok (fun args pre post h hp => by
  unfold selWrn at h
  split at h
  · split at h
    · rename_i e1
      cases h
      rw [netOf1_eq e1]
      exact ⟨⟨_, wr_ex _⟩, Wrong_c _ hp⟩
    · cases h
  · cases h) (tc_src f35_ok (fun args pre post h hp => by
  unfold selOff at h
  split at h
  · split at h
    · rename_i e1
      cases h
      rw [plnOf1_eq e1]
      exact ⟨⟨⟨[], [], []⟩, by simp, by simp, by simp⟩, off_c _ hp⟩
    · cases h
  · cases h) (tc_src f45_ok (fun args pre post h hp => by
  unfold sel0 at h
  split at h <;> cases h
  exact ⟨⟨⟨0, 0, false, false⟩, trivial⟩, valve_c⟩) (tc_netf f44_ok (fun n hz nn => numb24_c n hz nn) (tc_np f46_ok (fun n p h nn => need24_c n p h nn) (tc_src f24_ok (fun args pre post h hp => by
  unfold selI at h
  split at h
  · cases h; exact ⟨⟨0, Int.le_refl _, fun h => by omega, fun _ => rfl⟩, N_c _ hp⟩
  · cases h) TL24_ok))))))
def LmF (odd : Int) (l : List (Nat × D)) : List (Nat × D) := (1, di odd) :: (5, .ptr (0, 17) 0 0 0) :: (6, .ptr (0, 6) 0 0 0) :: (7, .ptr (0, 7) 0 0 0) :: (8, .ptr (0, 8) 0 0 0) :: (9, .ptr (0, 9) 0 0 0) :: l
def LmH (L : List (List D)) (at' : Int) (n : Net) (p : Pln) (A1 A2 B1 B2 : List Bool) (V : List Vlv) : Hp := (((((((((Hp.none.put (0, 5028) ⟨B2.length, 1, B2.map bRow⟩).put (0, 5025) ⟨A2.length, 1, A2.map bRow⟩).put (0, 1000) ⟨V.length, 4, V.map Vlv.row⟩).put (0, 28) ⟨B1.length, 1, B1.map bRow⟩).put (0, 25) ⟨A1.length, 1, A1.map bRow⟩).put (0, 17) (sE L at')).put (0, 9) ⟨0, 2, [[.own (0, 28) B1.length 0 B1.length, .own (0, 5028) B2.length 0 B2.length]]⟩).put (0, 8) ⟨0, 2, [[.own (0, 25) A1.length 0 A1.length, .own (0, 5025) A2.length 0 A2.length]]⟩).put (0, 7) ⟨0, 3, [plnD p]⟩).put (0, 6) ⟨0, 6, [netD n]⟩
set_option maxHeartbeats 16000000 in
theorem lm_4 (odd : Int) (L : List (List D)) (n : Net) (hn : NetOk n) (p : Pln) (hp : PlanOk n p) (A1 A2 B1 B2 : List Bool) (hA1 : A1.length = n.segs.length) (hA2 : A2.length = n.ports.length) (hB1 : B1.length = n.segs.length) (hB2 : B2.length = n.ports.length) (V : List Vlv) (hV : V.length = n.segs.length + n.ports.length) (u : SA L) (F : Fr) (H : Hp)
    (hwk : Weak [] ⟨F, H⟩ ⟨fr (LmF odd [(10, .own (0, 1000) (n.segs.length + n.ports.length) 0 (n.segs.length + n.ports.length))]), LmH L u.1 n p A1 A2 B1 B2 V⟩) : vc (TLm Try.prog) (fun t => (0, t)) [] (.weak c8_4) (finQ r8 [] false (Pu (db true) Hp.none)) ⟨F, H⟩ := by
  refine vc_wk hwk ?_
  have hck := check_ok hn
  have hv := check0 hck
  have hpp := ports1 hn
  have hnz := net_sz hn
  have hsl := hn.slen
  have hnl := hn.nlen
  have hql := hn.ports.len
  have hz := plan_sz hn hp
  have hn1 : ∀ n : Net, netOf1 [D.sl (n.nodes.map nmRow), .sl (n.segs.map Seg.row), .sl (n.ports.map Port.row), .sl (n.sts.map Stn.row), di n.vap, di n.set] = some n := netOf1_row
  have hp1 : ∀ p : Pln, plnOf1 [D.sl (p.rates.map iRow), .sl (p.ports.map iRow), .sl (p.pumps.map bRow)] = some p := plnOf1_row
  have hl1 : ∀ x y : List Bool, lnpOf1 [D.sl (x.map bRow), .sl (y.map bRow)] = some ⟨x, y⟩ := fun x y => lnpOf1_row ⟨x, y⟩
  have hv1 : ∀ v : List Vlv, lsOf vlvOf1 (v.map Vlv.row) = some v := lsOf_map vlvOf1_row
  have tB : ∀ A : List Bool, (A.map bRow).take A.length = A.map bRow := fun A => List.take_of_length_le (by simp)
  have tA1 : (A1.map bRow).take n.segs.length = A1.map bRow := List.take_of_length_le (by simp; omega)
  have tA2 : (A2.map bRow).take n.ports.length = A2.map bRow := List.take_of_length_le (by simp; omega)
  have tB1 : (B1.map bRow).take n.segs.length = B1.map bRow := List.take_of_length_le (by simp; omega)
  have tB2 : (B2.map bRow).take n.ports.length = B2.map bRow := List.take_of_length_le (by simp; omega)
  have tV : (V.map Vlv.row).take (n.segs.length + n.ports.length) = V.map Vlv.row := List.take_of_length_le (by simp; omega)
  have pB := bRow_plT
  have pV : ∀ A : List Vlv, (∀ j ∈ A, ∀ d ∈ j.row, d.plain = true) = True := fun A => eq_true fun v _ d hd => by
    unfold Vlv.row at hd
    simp at hd
    rcases hd with rfl | rfl | rfl | rfl <;> rfl
  have hA : LnpSz ⟨A1, A2⟩ := ⟨by dsimp only; omega, by dsimp only; omega⟩
  have hB : LnpSz ⟨B1, B2⟩ := ⟨by dsimp only; omega, by dsimp only; omega⟩
  have uo := u.2
  have hm := modI_in odd 10
  have hi10 : InI 10 := by unfold InI; omega
  generalize hk : modI odd 10 = k at hm
  have q1 : n.segs.length ≤ n.segs.length + n.ports.length := by omega
  cases c0 : (k == 0) with
  | true =>
    simp (config := { maxSteps := 500000 }) only [↓vp, vv, implies_true, forall_const, undef, InI, ↓reduceIte, simprocAttr, c8_4, c8_3, r8, TLm, TL24, selMod, selAgr, selWrn, selAw, LmF, LmH, netD, plnD, hi10, hk, c0, uo, hn1, hn, Net.enc]
    intro b1 n' hw'
    have z' : NetSz n' := ⟨by have := hw'.nodes; omega, by have := hw'.segs; omega, by have := hw'.ports; omega, by have := hw'.sts; have := hn.sts.len; omega, fun s hs => by have := hw'.pts s hs; omega⟩
    have ag : AgPre n' ⟨A1, A2⟩ ⟨B1, B2⟩ p V := ⟨⟨z', hz.2⟩, hA, hB, by omega⟩
    simp (config := { maxSteps := 500000 }) only [↓vp, vv, implies_true, forall_const, undef, InI, ↓reduceIte, simprocAttr, TLm, TL24, selAgr, selAw, r8, netD, plnD, hn1, hp1, hl1, hv1, tA1, tA2, tB1, tB2, tV, pB, pV, hA1, hA2, hB1, hB2, hV, ag, Pu]
  | false =>
    cases c1 : (k == 1) with
    | true =>
      have op : OffPre p := by
        have h1 := hp.rl
        have h2 := hp.ql
        have h3 := hp.ul
        have h4 := hn.sts.len
        exact ⟨by omega, by omega, by omega⟩
      simp (config := { maxSteps := 500000 }) only [↓vp, vv, implies_true, forall_const, undef, InI, ↓reduceIte, simprocAttr, c8_4, c8_3, r8, TLm, TL24, selMod, selAgr, selOff, selAw, LmF, LmH, netD, plnD, hi10, hk, c0, c1, uo, hn1, hp1, op, Pln.enc]
      intro b1 p' hp'
      have ag : AgPre n ⟨A1, A2⟩ ⟨B1, B2⟩ p' V := ⟨⟨hnz, hp'⟩, hA, hB, by omega⟩
      simp (config := { maxSteps := 500000 }) only [↓vp, vv, implies_true, forall_const, undef, InI, ↓reduceIte, simprocAttr, TLm, TL24, selAgr, selAw, r8, netD, plnD, hn1, hp1, hl1, hv1, tA1, tA2, tB1, tB2, tV, pB, pV, hA1, hA2, hB1, hB2, hV, ag, Pu]
    | false =>
      cases c2 : (k == 2) with
      | true =>
        have d1 : (A2.map bRow).drop 1 = (A2.drop 1).map bRow := by rw [List.map_drop]
        have d2 : ((A2.drop 1).map bRow).take (n.ports.length - 1) = (A2.drop 1).map bRow := List.take_of_length_le (by simp; omega)
        have d3 : (1 : Int) ≤ n.ports.length := by omega
        have d4 : 1 + (n.ports.length - 1) ≤ n.ports.length := by omega
        have ag : AgPre n ⟨A1, A2.drop 1⟩ ⟨B1, B2⟩ p V := ⟨hz, ⟨by dsimp only; omega, by dsimp only; rw [List.length_drop]; omega⟩, hB, by omega⟩
        simp (config := { maxSteps := 500000 }) only [↓vp, vv, implies_true, forall_const, undef, InI, ↓reduceIte, simprocAttr, c8_4, c8_3, r8, TLm, TL24, selMod, selAgr, selAw, LmF, LmH, netD, plnD, hi10, hk, uo, hn1, hp1, hl1, hv1, tA1, tA2, tB1, tB2, tV, pB, pV, hA1, hA2, hB1, hB2, hV, c0, c1, c2, d1, d2, d3, d4, hpp, ag, Int.toNat_natCast, Pu]
      | false =>
        cases c3 : (k == 3) with
        | true =>
          have y1 : (n.segs.length + 1) * 1 ≤ 140737488355328 := by omega
          have y2 : n.segs.length + 1 ≤ 4611686018427387904 := by omega
          have e3 : B1.map bRow ++ [[D.v (.bool true)]] = (B1 ++ [true]).map bRow := by rw [List.map_append]; rfl
          have d2 : ((B1 ++ [true]).map bRow).take (n.segs.length + 1) = (B1 ++ [true]).map bRow := List.take_of_length_le (by simp; omega)
          have ag : AgPre n ⟨A1, A2⟩ ⟨B1 ++ [true], B2⟩ p V := ⟨hz, hA, ⟨by dsimp only; rw [List.length_append]; simp; omega, by dsimp only; omega⟩, by omega⟩
          simp (config := { maxSteps := 500000 }) only [↓vp, vv, implies_true, forall_const, undef, InI, ↓reduceIte, simprocAttr, c8_4, c8_3, r8, TLm, TL24, selMod, selAgr, selAw, LmF, LmH, netD, plnD, hi10, hk, uo, hn1, hp1, hl1, hv1, tA1, tA2, tB1, tB2, tV, pB, pV, hA1, hA2, hB1, hB2, hV, c0, c1, c2, c3, y1, y2, e3, d2, ag, Pu]
          exact fun d hd => by rw [List.mem_singleton.1 hd]; rfl
        | false =>
          cases c4 : (k == 4) with
          | true =>
            have hiv : InI ((n.segs.length + n.ports.length : Nat) : Int) := by unfold InI; omega
            simp (config := { maxSteps := 500000 }) only [↓vp, vv, implies_true, forall_const, undef, InI, ↓reduceIte, simprocAttr, c8_4, TLm, TL24, selMod, selI, LmF, LmH, netD, plnD, hi10, hk, uo, hiv, c0, c1, c2, c3, c4]
            intro b1 x hx
            have hx0 := hx.1
            have hx1 := hx.2.1 (by omega)
            have hx2 : x.toNat < n.segs.length + n.ports.length := by omega
            have hx3 : x.toNat < V.length := by omega
            have g := vlv_g V x.toNat hx3
            have eS : ∀ v : Vlv, (V.map Vlv.row).set x.toNat [di v.tr, di (-1), db v.wa, db v.st] = (V.set x.toNat ⟨v.tr, -1, v.wa, v.st⟩).map Vlv.row := fun v => by rw [List.map_set]; rfl
            have tV2 : ∀ v : Vlv, ((V.set x.toNat v).map Vlv.row).take (n.segs.length + n.ports.length) = (V.set x.toNat v).map Vlv.row := fun v => List.take_of_length_le (by simp; omega)
            have ls : ∀ v : Vlv, (V.set x.toNat v).length = n.segs.length + n.ports.length := fun v => by rw [List.length_set]; exact hV
            generalize V[x.toNat] = v at g
            have ag : AgPre n ⟨A1, A2⟩ ⟨B1, B2⟩ p (V.set x.toNat ⟨v.tr, -1, v.wa, v.st⟩) := ⟨hz, hA, hB, by rw [ls]; omega⟩
            simp (config := { maxSteps := 500000 }) only [↓vp, vv, implies_true, forall_const, undef, InI, ↓reduceIte, simprocAttr, c8_3, r8, TLm, TL24, selMod, selAgr, selAw, LmF, LmH, netD, plnD, hi10, hk, uo, hn1, hp1, hl1, hv1, tA1, tA2, tB1, tB2, tV, pB, pV, hA1, hA2, hB1, hB2, hV, hx0, hx1, hx2, g, Vlv.row, eS, tV2, ls, ag, Pu]
          | false =>
            cases c5 : (k == 5) with
            | true =>
              have d1 : (V.map Vlv.row).drop 1 = (V.drop 1).map Vlv.row := by rw [List.map_drop]
              have d2 : ((V.drop 1).map Vlv.row).take (n.segs.length + n.ports.length - 1) = (V.drop 1).map Vlv.row := List.take_of_length_le (by simp; omega)
              have d3 : (1 : Int) ≤ ((n.segs.length + n.ports.length : Nat) : Int) := by omega
              have d4 : 1 + (n.segs.length + n.ports.length - 1) ≤ n.segs.length + n.ports.length := by omega
              have ag : AgPre n ⟨A1, A2⟩ ⟨B1, B2⟩ p (V.drop 1) := ⟨hz, hA, hB, by rw [List.length_drop]; omega⟩
              simp (config := { maxSteps := 500000 }) only [↓vp, vv, implies_true, forall_const, undef, InI, ↓reduceIte, simprocAttr, c8_4, c8_3, r8, TLm, TL24, selMod, selAgr, selAw, LmF, LmH, netD, plnD, hi10, hk, uo, hn1, hp1, hl1, hv1, tA1, tA2, tB1, tB2, tV, pB, pV, hA1, hA2, hB1, hB2, hV, c0, c1, c2, c3, c4, c5, d1, d2, d3, d4, ag, Int.toNat_natCast, Pu]
            | false =>
              cases c6 : (k == 6) with
              | true =>
                have hnl2 := need_form hz
                have e1 : (needR n p).enc = .agg [.sl ((needR n p).segs.map bRow), .sl ((needR n p).ports.map bRow)] := rfl
                have hl3 : lnpOf1 [D.sl ((needR n p).segs.map bRow), .sl ((needR n p).ports.map bRow)] = some (needR n p) := lnpOf1_row _
                have hnz2 : LnpSz (needR n p) := by
                  have h1 := hz.2.rates
                  have h2 := hz.2.ports
                  unfold needR
                  split
                  · unfold needL; exact ⟨by simp; omega, by simp; omega⟩
                  · exact ⟨by simp, by simp⟩
                have ag : AgPre n (needR n p) ⟨B1, B2⟩ p V := ⟨hz, hnz2, hB, by omega⟩
                simp (config := { maxSteps := 500000 }) only [↓vp, vv, implies_true, forall_const, undef, InI, ↓reduceIte, simprocAttr, c8_4, c8_3, r8, TLm, TL24, selMod, selAgr, selAw, LmF, LmH, netD, plnD, hi10, hk, uo, hn1, hp1, hl1, hv1, tA1, tA2, tB1, tB2, tV, pB, pV, hA1, hA2, hB1, hB2, hV, selNP, hz, e1, hl3, c0, c1, c2, c3, c4, c5, c6, ag, Pu]
              | false =>
                have ag : AgPre n ⟨A1, A2⟩ ⟨B1, B2⟩ p V := ⟨hz, hA, hB, by omega⟩
                simp (config := { maxSteps := 500000 }) only [↓vp, vv, implies_true, forall_const, undef, InI, ↓reduceIte, simprocAttr, c8_4, c8_3, r8, TLm, TL24, selMod, selAgr, selAw, LmF, LmH, netD, plnD, hi10, hk, uo, hn1, hp1, hl1, hv1, tA1, tA2, tB1, tB2, tV, pB, pV, hA1, hA2, hB1, hB2, hV, c0, c1, c2, c3, c4, c5, c6, ag, Pu]
set_option maxHeartbeats 16000000 in
theorem LM_c (ns : List Int) (hns : ∀ n ∈ ns, InI n) (odd : Int) (nn : Nm) : CallsA Try.prog 8 [.sl (ns.map fun n => [di n]), di odd] Hp.none nn (Pu (db true) Hp.none) := by
  obtain ⟨code, h1, h2⟩ := c8_ok
  refine callsA_of TLm_ok mixed (N := fun t => (0, t)) Try.func8 h1 h2 r8_ok [] false js_nil js_nil' (by simp [Try.f8]) ?_
  have ho : SrcOk ((ns.map fun n => [di n]).take 2000) 0 := src_new ns hns
  cases hf : decide ((ns.length : Int) ≤ 400) with
  | false => simp (config := { maxSteps := 500000 }) only [↓vp, vv, implies_true, forall_const, undef, InI, ↓reduceIte, simprocAttr, c8, r8, TLm, TL24, selFewL, selAw, hf, Pu]
  | true =>
    simp (config := { maxSteps := 500000 }) only [↓vp, vv, implies_true, forall_const, undef, InI, ↓reduceIte, simprocAttr, c8, c8_5, TLm, TL24, selFewL, rowNew, sel0, hf, ho, Net.enc]
    intro a1 n hn
    have hck := check_ok hn
    have hv := check0 hck
    have hpp := ports1 hn
    have hnz := net_sz hn
    have hsl := hn.slen
    have hnl := hn.nlen
    have hql := hn.ports.len
    have hn1 : netOf1 [D.sl (n.nodes.map nmRow), .sl (n.segs.map Seg.row), .sl (n.ports.map Port.row), .sl (n.sts.map Stn.row), di n.vap, di n.set] = some n := netOf1_row n
    simp (config := { maxSteps := 500000 }) only [↓vp, vv, implies_true, forall_const, undef, InI, ↓reduceIte, simprocAttr, TLm, TL24, selPlan, hn1, hv, hpp, a1.2, Pln.enc, plnD, netD]
    intro a2 p hp
    have hz := plan_sz hn hp
    have hp1 : plnOf1 [D.sl (p.rates.map iRow), .sl (p.ports.map iRow), .sl (p.pumps.map bRow)] = some p := plnOf1_row p
    simp (config := { maxSteps := 500000 }) only [↓vp, vv, implies_true, forall_const, undef, InI, ↓reduceIte, simprocAttr, TLm, TL24, rowRaw, RawR_all, hn1, hnz, a2.2, netD]
    intro a3 A1 A2 hA
    obtain ⟨hA1, hA2⟩ := hA
    intro a4 B1 B2 hB
    obtain ⟨hB1, hB2⟩ := hB
    have hpn : PlanOk n p := hp
    have nx := lm_4 odd (List.take 2000 (List.map (fun n => [di n]) ns)) n hn p hp A1 A2 B1 B2 hA1 hA2 hB1 hB2
    rw [vc_loop]
    refine ⟨fun m st => ∃ (j : Nat) (V : List Vlv) (u : SA (List.take 2000 (List.map (fun n => [di n]) ns))), j + m = n.segs.length + n.ports.length ∧ V.length = j ∧ st = ⟨fr (LmF odd [(10, .own (0, 1000) j 0 j), (11, di j)]), LmH (List.take 2000 (List.map (fun n => [di n]) ns)) u.1 n p A1 A2 B1 B2 V⟩,
      ⟨n.segs.length + n.ports.length, _, (weak_own 10 (0, 1000) 4 (by simp (config := { maxSteps := 500000 }) only [↓vp, vv, implies_true, forall_const, undef, InI, ↓reduceIte, simprocAttr, ]) (by simp (config := { maxSteps := 500000 }) only [↓vp, vv, implies_true, forall_const, undef, InI, ↓reduceIte, simprocAttr, ])).trans (weak_eq [] [(0, 6), (0, 7), (0, 8), (0, 9), (0, 17), (0, 25), (0, 28), (0, 1000), (0, 5025), (0, 5028)] (LmF odd [(10, .own (0, 1000) 0 0 0), (11, di 0)]) (by simp (config := { maxSteps := 500000 }) only [↓vp, vv, implies_true, forall_const, undef, InI, ↓reduceIte, simprocAttr, coverS, LmF, LmH, sE, netD, plnD, bRow, Vlv.row, hA1, hA2, hB1, hB2, List.map_nil, List.length_nil]) (by simp (config := { maxSteps := 500000 }) only [↓vp, vv, implies_true, forall_const, undef, InI, ↓reduceIte, simprocAttr, refsF, LmF, LmH, sE, netD, plnD, bRow, Vlv.row, hA1, hA2, hB1, hB2, List.map_nil, List.length_nil]) (by simp (config := { maxSteps := 500000 }) only [↓vp, vv, implies_true, forall_const, undef, InI, ↓reduceIte, simprocAttr, LmF, LmH, sE, netD, plnD, bRow, Vlv.row, hA1, hA2, hB1, hB2, List.map_nil, List.length_nil]) (by simp) (by simp (config := { maxSteps := 500000 }) only [↓vp, vv, implies_true, forall_const, undef, InI, ↓reduceIte, simprocAttr, LmF, LmH, sE, netD, plnD, bRow, Vlv.row, hA1, hA2, hB1, hB2, List.map_nil, List.length_nil]; try rfl)), 0, [], a4, by omega, rfl, rfl⟩, ?_⟩
    rintro m st ⟨j, V, u, hjm, hVj, rfl⟩
    have uo := u.2
    have hjn := idx_nn j
    have wj := idx_next (j := j) (by omega)
    have hcnt : cntI n = (n.segs.length : Int) + n.ports.length := rfl
    by_cases hj : j < n.segs.length + n.ports.length
    · have hj' : (j : Int) < (n.segs.length : Int) + n.ports.length := by omega
      have y1 : (j + 1) * 24 ≤ 140737488355328 := by omega
      have y2 : j + 1 ≤ 4611686018427387904 := by omega
      simp (config := { maxSteps := 500000 }) only [↓vp, vv, implies_true, forall_const, undef, InI, ↓reduceIte, simprocAttr, c8_2, c8_1, TLm, sel0, selNet, Vlv.row, LmF, LmH, netD, plnD, hn1, hnz, hcnt, hj', uo, hVj, y1, y2, wj, hA1, hA2, hB1, hB2]
      intro a5 v
      exact ⟨m - 1, _, by omega, (weak_eq [] [(0, 6), (0, 7), (0, 8), (0, 9), (0, 17), (0, 25), (0, 28), (0, 1000), (0, 5025), (0, 5028)] (LmF odd [(10, .own (0, 1000) (j + 1) 0 (j + 1)), (11, di (j + 1 : Nat))]) (by simp (config := { maxSteps := 500000 }) only [↓vp, vv, implies_true, forall_const, undef, InI, ↓reduceIte, simprocAttr, coverS, LmF, LmH, sE, netD, plnD, bRow, Vlv.row, hA1, hA2, hB1, hB2, hVj, wj, List.map_append, List.map_cons, List.map_nil, List.length_append, List.length_cons, List.length_nil]) (by simp (config := { maxSteps := 500000 }) only [↓vp, vv, implies_true, forall_const, undef, InI, ↓reduceIte, simprocAttr, refsF, LmF, LmH, sE, netD, plnD, bRow, Vlv.row, hA1, hA2, hB1, hB2, hVj, wj, List.map_append, List.map_cons, List.map_nil, List.length_append, List.length_cons, List.length_nil]) (by simp (config := { maxSteps := 500000 }) only [↓vp, vv, implies_true, forall_const, undef, InI, ↓reduceIte, simprocAttr, LmF, LmH, sE, netD, plnD, bRow, Vlv.row, hA1, hA2, hB1, hB2, hVj, wj, List.map_append, List.map_cons, List.map_nil, List.length_append, List.length_cons, List.length_nil]) (by simp) (by simp (config := { maxSteps := 500000 }) only [↓vp, vv, implies_true, forall_const, undef, InI, ↓reduceIte, simprocAttr, LmF, LmH, sE, netD, plnD, bRow, Vlv.row, hA1, hA2, hB1, hB2, hVj, wj, List.map_append, List.map_cons, List.map_nil, List.length_append, List.length_cons, List.length_nil]; try rfl)), j + 1, V ++ [v], a5, by omega, by rw [List.length_append, hVj]; rfl, rfl⟩
    · have hj' : ¬ (j : Int) < (n.segs.length : Int) + n.ports.length := by omega
      have hje : j = n.segs.length + n.ports.length := by omega
      subst hje
      simp (config := { maxSteps := 500000 }) only [↓vp, vv, implies_true, forall_const, undef, InI, ↓reduceIte, simprocAttr, c8_2, TLm, selNet, LmF, LmH, netD, plnD, hn1, hnz, hcnt, hj', hA1, hA2, hB1, hB2]
      exact nx V hVj u _ _ (weak_eq [] [(0, 6), (0, 7), (0, 8), (0, 9), (0, 17), (0, 25), (0, 28), (0, 1000), (0, 5025), (0, 5028)] (LmF odd [(10, .own (0, 1000) (n.segs.length + n.ports.length) 0 (n.segs.length + n.ports.length))]) (by simp (config := { maxSteps := 500000 }) only [↓vp, vv, implies_true, forall_const, undef, InI, ↓reduceIte, simprocAttr, coverS, LmF, LmH, sE, netD, plnD, bRow, Vlv.row, hA1, hA2, hB1, hB2, hVj]) (by simp (config := { maxSteps := 500000 }) only [↓vp, vv, implies_true, forall_const, undef, InI, ↓reduceIte, simprocAttr, refsF, LmF, LmH, sE, netD, plnD, bRow, Vlv.row, hA1, hA2, hB1, hB2, hVj]) (by simp (config := { maxSteps := 500000 }) only [↓vp, vv, implies_true, forall_const, undef, InI, ↓reduceIte, simprocAttr, LmF, LmH, sE, netD, plnD, bRow, Vlv.row, hA1, hA2, hB1, hB2, hVj]) (by simp) (by simp (config := { maxSteps := 500000 }) only [↓vp, vv, implies_true, forall_const, undef, InI, ↓reduceIte, simprocAttr, LmF, LmH, sE, netD, plnD, bRow, Vlv.row, hA1, hA2, hB1, hB2, hVj]; try rfl))
theorem LineupMade_law (a : Option Addr) (len cap : Nat) (odd : Int) (w : World) (h : ArgInts w a len cap) :
    Calls Try.prog 8 #[.slice a len cap, .int .i64 odd] w (Ret (.bool true) w) :=
  law_ints (us := [.int .i64 odd]) h fun ns hns => LM_c ns hns odd (0, 0)
end Go.Proofs.Ytkjibmfggeibjaa
