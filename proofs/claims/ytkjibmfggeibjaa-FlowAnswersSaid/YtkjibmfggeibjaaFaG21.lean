/- FlowAnswers: FaL Raw FaM. -/
import Derived.Test.YtkjibmfggeibjaaFaG18
import Derived.Test.YtkjibmfggeibjaaFaG19
import Derived.Test.YtkjibmfggeibjaaFaG20
import Derived.Test.YtkjibmfggeibjaaFaG9
import Derived.Test.YtkjibmfggeibjaaFaG8
import Derived.Deep.Fields

/- FlowAnswers: the walk. -/
namespace Go.Proofs.Ytkjibmfggeibjaa
open Go
set_option linter.unusedVariables false
set_option linter.unusedSimpArgs false
set_option maxRecDepth 100000

/-- keep.Ints of a list and itself. -/
def selInts : List D → Option (Prop × D)
  | [.sl a, .sl b] => match intsOf a with
    | some ns => some (b = a ∧ ns.length ≤ 1000000, db true)
    | Option.none => Option.none
  | _ => Option.none
set_option maxHeartbeats 4000000 in
theorem Ints_same (x : List Int) (hx : x.length ≤ 1000000) (nn : Nm) : CallsA Try.prog 57 [.sl (x.map iRow), .sl (x.map iRow)] Hp.none nn (Pu (db true) Hp.none) := by
  obtain ⟨code, h1, h2⟩ := c57_ok
  refine callsA_of (T0_ok _) mixed (N := fun t => (0, t)) Try.func57 h1 h2 r57_ok [] false js_nil js_nil' (by simp [Try.f57]) ?_
  simp (config := { maxSteps := 500000 }) only [↓vp, vv, implies_true, forall_const, undef, InI, ↓reduceIte, simprocAttr, c57, r57, c57_1, c57_2, c57_3, c57_4, c57_5, bne_self_eq_false]
  refine rng_loop x.length (fun j => ⟨fr [(0, .sl (x.map iRow)), (1, .sl (x.map iRow)), (12, di x.length), (13, di j)], Hp.none⟩) (fun _ => True) (weak0 (by simp (config := { maxSteps := 500000 }) only [↓vp, vv, implies_true, forall_const, undef, InI, ↓reduceIte, simprocAttr, coverS]) (by simp (config := { maxSteps := 500000 }) only [↓vp, vv, implies_true, forall_const, undef, InI, ↓reduceIte, simprocAttr, refsF])) trivial (fun j hj _ => ?_) (fun _ => ?_)
  · have hj' : (j : Int) < x.length := by omega
    have hn := idx_nn j
    have w1 := idx_next (j := j) (by omega)
    have hg := iRow_at x j hj
    simp (config := { maxSteps := 500000 }) only [↓vp, vv, implies_true, forall_const, undef, InI, ↓reduceIte, simprocAttr, c57, r57, c57_1, c57_2, c57_3, c57_4, c57_5, hj', hn, Int.toNat_natCast, hg, w1, bne_self_eq_false]
    exact rng_next hj (weak0 (by simp (config := { maxSteps := 500000 }) only [↓vp, vv, implies_true, forall_const, undef, InI, ↓reduceIte, simprocAttr, coverS, w1]) (by simp (config := { maxSteps := 500000 }) only [↓vp, vv, implies_true, forall_const, undef, InI, ↓reduceIte, simprocAttr, refsF])) trivial
  · simp (config := { maxSteps := 500000 }) only [↓vp, vv, implies_true, forall_const, undef, InI, ↓reduceIte, simprocAttr, c57, r57, c57_1, c57_2, c57_3, c57_4, c57_5, Int.lt_irrefl, Pu]
theorem tc_ints {T : Tbl} (hT : TblOk Try.prog T) : TblOk Try.prog (tc 57 (rowPu selInts) T) :=
  tc_pu f57_ok (fun args pre d h hp nn => by
    unfold selInts at h
    split at h
    · split at h
      · rename_i ns e
        cases h
        rw [hp.1, intsOf_eq e]
        exact Ints_same ns hp.2 nn
      · cases h
    · cases h) hT
theorem intsOf_nats : ∀ l : List Nat, intsOf (l.map nRow) = some (l.map Int.ofNat)
  | [] => rfl
  | a :: l => by
    have := intsOf_nats l
    simp only [List.map_cons, intsOf, this, nRow, intOf]
    rfl
def selThw : List D → Option (Prop × D)
  | [.agg a, .agg b, .v (.int .i64 k)] => match netOf1 a, plnOf1 b with
    | some n, some p => some (PreP n p, .tup [di (thrI n p k).1, di (thrI n p k).2])
    | _, _ => Option.none
  | _ => Option.none
theorem tc_thw {T : Tbl} (hT : TblOk Try.prog T) : TblOk Try.prog (tc 58 (rowPu selThw) T) :=
  tc_pu f58_ok (fun args pre d h hp nn => by
    unfold selThw at h
    split at h
    · split at h
      · rename_i e1 e2
        cases h
        rw [netOf1_eq e1, plnOf1_eq e2]
        exact fThrough_w _ _ _ hp nn
      · cases h
    · cases h) hT
theorem tc_rthw {T : Tbl} (hT : TblOk Try.prog T) : TblOk Try.prog (tc 59 (rowPu selThw) T) :=
  tc_pu f59_ok (fun args pre d h hp nn => by
    unfold selThw at h
    split at h
    · split at h
      · rename_i e1 e2
        cases h
        rw [netOf1_eq e1, plnOf1_eq e2]
        exact rThrough_w _ _ _ hp nn
      · cases h
    · cases h) hT
def selWrn : List D → Option (Prop × (Net → Prop))
  | [.agg a] => match netOf1 a with
    | some n => some (NetOk n, WrOk n)
    | Option.none => Option.none
  | _ => Option.none
def selOff : List D → Option (Prop × (Pln → Prop))
  | [.agg a] => match plnOf1 a with
    | some p => some (OffPre p, PlnSz)
    | Option.none => Option.none
  | _ => Option.none
theorem wr_ex (n : Net) : WrOk n ⟨[], n.segs.map fun s => ⟨s.name, s.fr, s.to, s.cap, s.resist, s.wave, []⟩, n.ports, [], 0, 0⟩ := ⟨by simp, by simp, rfl, by simp, fun s hs => by
  obtain ⟨t, _, rfl⟩ := List.mem_map.1 hs
  simp⟩
def ordD (n : Net) (p : Pln) : D := .tup [.sl ((ordR n p).map nRow), di (fckI n p)]
def fedD (n : Net) (p : Pln) : D := .tup [di (feedI n p).1, di (feedI n p).2, di (fckI n p)]
def TFa1 : Tbl := tc 51 (rowPu (selNP PreP ordD)) (tc 52 (rowPu (selNP PreP ordD)) (tc 55 (rowPu (selNP PreP fun n p => di (fckI n p))) (tc 56 (rowPu (selNP PreP fun n p => di (fckI n p))) (tc 53 (rowPu (selNP PreP fedD)) (tc 54 (rowPu (selNP PreP fedD)) (tc 58 (rowPu selThw) (tc 59 (rowPu selThw) (tc 57 (rowPu selInts) T2))))))))
theorem TFa1_ok : TblOk Try.prog TFa1 := tc_np f51_ok (fun n p h nn => fOrder_w n p h nn) (tc_np f52_ok (fun n p h nn => rOrder_w n p h nn) (tc_np f55_ok (fun n p h nn => fcheck_w n p h nn) (tc_np f56_ok (fun n p h nn => rchk16_w n p h nn) (tc_np f53_ok (fun n p h nn => fFeeds_w n p h nn) (tc_np f54_ok (fun n p h nn => rFeeds_w n p h nn) (tc_thw (tc_rthw (tc_ints T2_ok))))))))
def TFa : Tbl := tc 48 (rowPu selAw) (tc 18 rowNew (tc 19 (rowSrc (sel0 NetOk) Net.enc) (tc 20 (rowSrc selPlan Pln.enc) (tc 34 (rowSrc selWrn Net.enc) (tc 35 (rowSrc selOff Pln.enc) (tc 49 (rowPu selNeg) (tc 50 (rowPu selPAdd) TFa1)))))))
theorem TFa_ok : TblOk Try.prog TFa := by
  refine tc_pu f48_ok (fun args pre d h hp nn => ?_) (tc_new (tc_net (tc_plan (tc_src f34_ok (fun args pre post h hp => ?_) (tc_src f35_ok (fun args pre post h hp => ?_) (tc_neg (tc_padd TFa1_ok)))))))
  · unfold selAw at h
    split at h <;> cases h
    exact awake16_c nn
  · unfold selWrn at h
    split at h
    · split at h
      · rename_i e1
        cases h
        rw [netOf1_eq e1]
        exact ⟨⟨_, wr_ex _⟩, Wrong_c _ hp⟩
      · cases h
    · cases h
  · unfold selOff at h
    split at h
    · split at h
      · rename_i e1
        cases h
        rw [plnOf1_eq e1]
        exact ⟨⟨⟨[], [], []⟩, by simp, by simp, by simp⟩, off_c _ hp⟩
      · cases h
    · cases h
def FaF (node : Int) (l : List (Nat × D)) : List (Nat × D) := (2, di node) :: (5, .ptr (0, 5) 0 0 0) :: (9, .ptr (0, 68) 0 0 0) :: (10, .ptr (0, 10) 0 0 0) :: (11, .ptr (0, 11) 0 0 0) :: l
def FaH (L : List (List D)) (at' : Int) (n : Net) (s p : Pln) : Hp := (((Hp.none.put (0, 68) (sE L at')).put (0, 11) ⟨0, 3, [plnD p]⟩).put (0, 10) ⟨0, 6, [netD n]⟩).put (0, 5) ⟨0, 3, [plnD s]⟩
def FaG (L : List (List D)) (at' : Int) (n : Net) (s p : Pln) (x : Net) : Hp := ((((Hp.none.put (0, 68) (sE L at')).put (0, 13) ⟨0, 6, [netD x]⟩).put (0, 11) ⟨0, 3, [plnD p]⟩).put (0, 10) ⟨0, 6, [netD n]⟩).put (0, 5) ⟨0, 3, [plnD s]⟩
def FaJ (L : List (List D)) (at' : Int) (n : Net) (s p : Pln) (x : Net) (y : Pln) : Hp := (((((Hp.none.put (0, 68) (sE L at')).put (0, 15) ⟨0, 3, [plnD y]⟩).put (0, 13) ⟨0, 6, [netD x]⟩).put (0, 11) ⟨0, 3, [plnD p]⟩).put (0, 10) ⟨0, 6, [netD n]⟩).put (0, 5) ⟨0, 3, [plnD s]⟩
set_option maxHeartbeats 32000000 in
theorem FA_c (raw : Net) (s : Pln) (node : Int) (ns : List Int) (hns : ∀ n ∈ ns, InI n) (nn : Nm) : CallsA Try.prog 9 [raw.enc, s.enc, di node, .sl (ns.map fun n => [di n])] Hp.none nn (Pu (db true) Hp.none) := by
  obtain ⟨code, h1, h2⟩ := c9_ok
  refine callsA_of TFa_ok mixed (N := fun t => (0, t)) Try.func9 h1 h2 r9_ok [] false js_nil js_nil' (by simp [Try.f9]) ?_
  have ho : SrcOk ((ns.map fun n => [di n]).take 2000) 0 := src_new ns hns
  generalize (ns.map fun n => [di n]) = L0 at ho
  cases c1 : decide ((40 : Int) < raw.nodes.length) with
  | true => simp (config := { maxSteps := 500000 }) only [↓vp, vv, implies_true, forall_const, undef, InI, ↓reduceIte, simprocAttr, c9, r9, TFa, selAw, Net.enc, Pln.enc, plnD, c1, Pu]
  | false =>
  cases c2 : decide ((50 : Int) < raw.segs.length) with
  | true => simp (config := { maxSteps := 500000 }) only [↓vp, vv, implies_true, forall_const, undef, InI, ↓reduceIte, simprocAttr, c9, r9, TFa, selAw, Net.enc, Pln.enc, plnD, c1, c2, Pu]
  | false =>
  cases c3 : decide ((40 : Int) < raw.ports.length) with
  | true => simp (config := { maxSteps := 500000 }) only [↓vp, vv, implies_true, forall_const, undef, InI, ↓reduceIte, simprocAttr, c9, r9, TFa, selAw, Net.enc, Pln.enc, plnD, c1, c2, c3, Pu]
  | false =>
  cases c4 : decide ((60 : Int) < s.rates.length) with
  | true => simp (config := { maxSteps := 500000 }) only [↓vp, vv, implies_true, forall_const, undef, InI, ↓reduceIte, simprocAttr, c9, r9, TFa, selAw, Net.enc, Pln.enc, plnD, c1, c2, c3, c4, Pu]
  | false =>
  cases c5 : decide ((60 : Int) < s.ports.length) with
  | true => simp (config := { maxSteps := 500000 }) only [↓vp, vv, implies_true, forall_const, undef, InI, ↓reduceIte, simprocAttr, c9, r9, TFa, selAw, Net.enc, Pln.enc, plnD, c1, c2, c3, c4, c5, Pu]
  | false =>
  cases c6 : decide ((60 : Int) < s.pumps.length) with
  | true => simp (config := { maxSteps := 500000 }) only [↓vp, vv, implies_true, forall_const, undef, InI, ↓reduceIte, simprocAttr, c9, r9, TFa, selAw, Net.enc, Pln.enc, plnD, c1, c2, c3, c4, c5, c6, Pu]
  | false =>
    have zs : PlnSz s := ⟨by have := of_decide_eq_false c4; omega, by have := of_decide_eq_false c5; omega, by have := of_decide_eq_false c6; omega⟩
    simp (config := { maxSteps := 500000 }) only [↓vp, vv, implies_true, forall_const, undef, InI, ↓reduceIte, simprocAttr, c9, c9_12, TFa, rowNew, sel0, Net.enc, Pln.enc, plnD, c1, c2, c3, c4, c5, c6, ho]
    clear c1 c2 c3 c4 c5 c6
    intro a1 n hn
    have hck := check_ok hn
    have hv := check0 hck
    have hpp := ports1 hn
    have hn1 : ∀ n : Net, netOf1 [D.sl (n.nodes.map nmRow), .sl (n.segs.map Seg.row), .sl (n.ports.map Port.row), .sl (n.sts.map Stn.row), di n.vap, di n.set] = some n := netOf1_row
    have hp1 : ∀ p : Pln, plnOf1 [D.sl (p.rates.map iRow), .sl (p.ports.map iRow), .sl (p.pumps.map bRow)] = some p := plnOf1_row
    simp (config := { maxSteps := 500000 }) only [↓vp, vv, implies_true, forall_const, undef, InI, ↓reduceIte, simprocAttr, TFa, selPlan, hn1, hv, hpp, a1.2, Pln.enc, plnD, netD]
    intro a2 p hp
    simp (config := { maxSteps := 500000 }) only [↓vp, vv, implies_true, forall_const, undef, InI, ↓reduceIte, simprocAttr, TFa, selWrn, hn1, hn, a2.2, Net.enc, plnD, netD]
    intro a3 n' hn'
    generalize List.take 2000 L0 = L at a1 a2 a3 ho ⊢
    obtain ⟨X, hX⟩ : ∃ X : List Net, X = [raw, n, n'] := ⟨_, rfl⟩
    have xl : X.length = 3 := by rw [hX]; rfl
    have xd : X.map netD = [netD raw, netD n, netD n'] := by rw [hX]; rfl
    rw [vc_loop]
    refine ⟨fun m st => ∃ (j : Nat) (u : SA L), j + m = 3 ∧ st = ⟨fr (FaF node [(79, .sl (X.map netD)), (80, di 3), (81, di j)]), FaH L u.1 n s p⟩,
      ⟨3, _, (weak_eq [(0, 79)] [(0, 5), (0, 10), (0, 11), (0, 68)] (FaF node [(79, .sl (X.map netD)), (80, di 3), (81, di 0)]) (by simp (config := { maxSteps := 500000 }) only [↓vp, vv, implies_true, forall_const, undef, InI, ↓reduceIte, simprocAttr, coverS, FaF, FaH, sE, netD, plnD, xd]) (by simp (config := { maxSteps := 500000 }) only [↓vp, vv, implies_true, forall_const, undef, InI, ↓reduceIte, simprocAttr, refsF, FaF, FaH, sE, netD, plnD, xd]) (by simp (config := { maxSteps := 500000 }) only [↓vp, vv, implies_true, forall_const, undef, InI, ↓reduceIte, simprocAttr, FaF, FaH, sE, netD, plnD, xd]) (by simp) (by simp (config := { maxSteps := 500000 }) only [↓vp, vv, implies_true, forall_const, undef, InI, ↓reduceIte, simprocAttr, FaF, FaH, sE, netD, plnD, xd]; try rfl)), 0, a3, by omega, rfl⟩, ?_⟩
    clear xd hX
    rintro m st ⟨j, u, hjm, rfl⟩
    have uo := u.2
    have hjn := idx_nn j
    have wj := idx_next (j := j) (by omega)
    by_cases hj : j < 3
    · have hj' : (j : Int) < 3 := by omega
      have hjx : j < X.length := by omega
      have g : (X.map netD).getD j [] = netD X[j] := getD_map netD X j hjx
      generalize X[j] = x at g
      have op : OffPre p := by
        have h1 := hp.rl
        have h2 := hp.ql
        have h3 := hp.ul
        have h4 := hv.sl
        have h5 := hv.ql
        have h6 := hv.tl
        exact ⟨by omega, by omega, by omega⟩
      have s1 := plan_sm hv hp
      simp (config := { maxSteps := 500000 }) only [↓vp, vv, implies_true, forall_const, undef, InI, ↓reduceIte, simprocAttr, c9_10, c9_9, TFa, selOff, FaF, FaH, netD, plnD, hj', hjn, xl, g, Int.toNat_natCast, hp1, op, uo, Pln.enc]
      intro a4 p' hp'
      simp (config := { maxSteps := 500000 }) only [↓vp, vv, implies_true, forall_const, undef, InI, ↓reduceIte, simprocAttr, TFa, selNeg, selPlan, netD, plnD, hp1, hn1, s1, hv, hpp, a4.2, Pln.enc]
      intro a5 q hq
      have s2 := plan_sm hv hq
      have hap : PAddPre p q := ⟨s1.1, s1.2.1, s1.2.2, s2.1, s2.2.1, by rw [hq.rl, hp.rl], by rw [hq.ql, hp.ql]⟩
      simp (config := { maxSteps := 500000 }) only [↓vp, vv, implies_true, forall_const, undef, InI, ↓reduceIte, simprocAttr, TFa, selPAdd, netD, plnD, hp1, hn1, hap, Pln.enc]
      obtain ⟨Y, hY⟩ : ∃ Y : List Pln, Y = [s, p, p', negP p, addP p q] := ⟨_, rfl⟩
      have yl : Y.length = 5 := by rw [hY]; rfl
      have yd : Y.map plnD = [plnD s, plnD p, plnD p', plnD (negP p), plnD (addP p q)] := by rw [hY]; rfl
      have yz : ∀ y ∈ Y, PlnSz y := by
        have t1 := (plan_sz hn hp).2
        have t2 : PlnSz (negP p) := (plan_sz hn hp.neg).2
        have t3 : PlnSz (addP p q) := ⟨by have := t1.rates; simp only [addP, List.length_zipWith]; omega, by have := t1.ports; simp only [addP, List.length_zipWith]; omega, t1.pumps⟩
        rw [hY]
        intro y hy
        simp only [List.mem_cons, List.not_mem_nil, or_false] at hy
        rcases hy with rfl | rfl | rfl | rfl | rfl
        · exact zs
        · exact t1
        · exact hp'
        · exact t2
        · exact t3
      rw [vc_loop]
      refine ⟨fun m st => ∃ (k : Nat) (u : SA L), k + m = 5 ∧ st = ⟨fr (FaF node [(13, .ptr (0, 13) 0 0 0), (79, .sl (X.map netD)), (80, di 3), (81, di j), (97, .sl (Y.map plnD)), (98, di 5), (99, di k)]), FaG L u.1 n s p x⟩,
        ⟨5, _, (weak_eq [(0, 97)] [(0, 5), (0, 10), (0, 11), (0, 13), (0, 68)] (FaF node [(13, .ptr (0, 13) 0 0 0), (79, .sl (X.map netD)), (80, di 3), (81, di j), (97, .sl (Y.map plnD)), (98, di 5), (99, di 0)]) (by simp (config := { maxSteps := 500000 }) only [↓vp, vv, implies_true, forall_const, undef, InI, ↓reduceIte, simprocAttr, coverS, FaF, FaG, sE, netD, plnD, yd]) (by simp (config := { maxSteps := 500000 }) only [↓vp, vv, implies_true, forall_const, undef, InI, ↓reduceIte, simprocAttr, refsF, FaF, FaG, sE, netD, plnD, yd]) (by simp (config := { maxSteps := 500000 }) only [↓vp, vv, implies_true, forall_const, undef, InI, ↓reduceIte, simprocAttr, FaF, FaG, sE, netD, plnD, yd]) (by simp) (by simp (config := { maxSteps := 500000 }) only [↓vp, vv, implies_true, forall_const, undef, InI, ↓reduceIte, simprocAttr, FaF, FaG, sE, netD, plnD, yd]; try rfl)), 0, a5, by omega, rfl⟩, ?_⟩
      clear yd hY
      rintro m2 st ⟨k, u2, hkm, rfl⟩
      have uo2 := u2.2
      have hkn := idx_nn k
      have wk := idx_next (j := k) (by omega)
      by_cases hk : k < 5
      · have hk' : (k : Int) < 5 := by omega
        have hky : k < Y.length := by omega
        have g2 : (Y.map plnD).getD k [] = plnD Y[k] := getD_map plnD Y k hky
        have yq : PreP x Y[k] := yz _ (List.getElem_mem hky)
        generalize Y[k] = y at g2 yq
        have hio := intsOf_nats (ordR x y)
        have hil : (ordR x y).length ≤ 1000000 := by
          unfold ordR
          split
          · rename_i h0
            have hq0 := fck0 h0
            have := ordB_le hq0.net y
            have := hq0.net.nl
            omega
          · simp
        simp (config := { maxSteps := 500000 }) only [↓vp, vv, implies_true, forall_const, undef, InI, ↓reduceIte, simprocAttr, c9_7, c9_6, c9_4, TFa, TFa1, T2, selNP, ordD, fedD, selInts, selRange, FaF, FaG, netD, plnD, hk', hkn, yl, g2, Int.toNat_natCast, hp1, hn1, yq, hio, hil, bne_self_eq_false, uo2]
        intro a6 r hr
        obtain ⟨E, hE⟩ : ∃ E : List Int, E = [node, r] := ⟨_, rfl⟩
        have el : E.length = 2 := by rw [hE]; rfl
        have ed : E.map iRow = [[di node], [di r]] := by rw [hE]; rfl
        refine rng_loop 2 (fun i => ⟨fr (FaF node [(13, .ptr (0, 13) 0 0 0), (15, .ptr (0, 15) 0 0 0), (79, .sl (X.map netD)), (80, di 3), (81, di j), (97, .sl (Y.map plnD)), (98, di 5), (99, di k), (165, .sl (E.map iRow)), (166, di 2), (167, di i)]), FaJ L a6.1 n s p x y⟩) (fun _ => True) (weak_eq [(0, 165)] [(0, 5), (0, 10), (0, 11), (0, 13), (0, 15), (0, 68)] (FaF node [(13, .ptr (0, 13) 0 0 0), (15, .ptr (0, 15) 0 0 0), (79, .sl (X.map netD)), (80, di 3), (81, di j), (97, .sl (Y.map plnD)), (98, di 5), (99, di k), (165, .sl (E.map iRow)), (166, di 2), (167, di 0)]) (by simp (config := { maxSteps := 500000 }) only [↓vp, vv, implies_true, forall_const, undef, InI, ↓reduceIte, simprocAttr, coverS, FaF, FaJ, sE, netD, plnD, ed]) (by simp (config := { maxSteps := 500000 }) only [↓vp, vv, implies_true, forall_const, undef, InI, ↓reduceIte, simprocAttr, refsF, FaF, FaJ, sE, netD, plnD, ed]) (by simp (config := { maxSteps := 500000 }) only [↓vp, vv, implies_true, forall_const, undef, InI, ↓reduceIte, simprocAttr, FaF, FaJ, sE, netD, plnD, ed]) (by simp) (by simp (config := { maxSteps := 500000 }) only [↓vp, vv, implies_true, forall_const, undef, InI, ↓reduceIte, simprocAttr, FaF, FaJ, sE, netD, plnD, ed]; try rfl)) trivial (fun i hi _ => ?_) (fun _ => ?_)
        · have hi' : (i : Int) < 2 := by omega
          have hie : i < E.length := by omega
          have hin := idx_nn i
          have wi := idx_next (j := i) (by omega)
          have g3 := iRow_at E i hie
          generalize E[i] = e at g3
          simp (config := { maxSteps := 500000 }) only [↓vp, vv, implies_true, forall_const, undef, InI, ↓reduceIte, simprocAttr, c9_3, c9_2, c9_1, TFa, TFa1, selThw, FaF, FaJ, netD, plnD, hi', hin, el, g3, Int.toNat_natCast, hp1, hn1, yq, bne_self_eq_false, wi]
          exact rng_next hi (weak_eq [] [(0, 5), (0, 10), (0, 11), (0, 13), (0, 15), (0, 68)] (FaF node [(13, .ptr (0, 13) 0 0 0), (15, .ptr (0, 15) 0 0 0), (79, .sl (X.map netD)), (80, di 3), (81, di j), (97, .sl (Y.map plnD)), (98, di 5), (99, di k), (165, .sl (E.map iRow)), (166, di 2), (167, di (i + 1 : Nat))]) (by simp (config := { maxSteps := 500000 }) only [↓vp, vv, implies_true, forall_const, undef, InI, ↓reduceIte, simprocAttr, coverS, FaF, FaJ, sE, netD, plnD, wi]) (by simp (config := { maxSteps := 500000 }) only [↓vp, vv, implies_true, forall_const, undef, InI, ↓reduceIte, simprocAttr, refsF, FaF, FaJ, sE, netD, plnD, wi]) (by simp (config := { maxSteps := 500000 }) only [↓vp, vv, implies_true, forall_const, undef, InI, ↓reduceIte, simprocAttr, FaF, FaJ, sE, netD, plnD, wi]) (by simp) (by simp (config := { maxSteps := 500000 }) only [↓vp, vv, implies_true, forall_const, undef, InI, ↓reduceIte, simprocAttr, FaF, FaJ, sE, netD, plnD, wi]; try rfl)) trivial
        · simp (config := { maxSteps := 500000 }) only [↓vp, vv, implies_true, forall_const, undef, InI, ↓reduceIte, simprocAttr, c9_3, c9_5, FaF, FaJ, Int.lt_irrefl, wk]
          exact ⟨m2 - 1, _, by omega, (weak_eq [] [(0, 5), (0, 10), (0, 11), (0, 13), (0, 68)] (FaF node [(13, .ptr (0, 13) 0 0 0), (79, .sl (X.map netD)), (80, di 3), (81, di j), (97, .sl (Y.map plnD)), (98, di 5), (99, di (k + 1 : Nat))]) (by simp (config := { maxSteps := 500000 }) only [↓vp, vv, implies_true, forall_const, undef, InI, ↓reduceIte, simprocAttr, coverS, FaF, FaG, sE, netD, plnD, wk]) (by simp (config := { maxSteps := 500000 }) only [↓vp, vv, implies_true, forall_const, undef, InI, ↓reduceIte, simprocAttr, refsF, FaF, FaG, sE, netD, plnD, wk]) (by simp (config := { maxSteps := 500000 }) only [↓vp, vv, implies_true, forall_const, undef, InI, ↓reduceIte, simprocAttr, FaF, FaG, sE, netD, plnD, wk]) (by simp) (by simp (config := { maxSteps := 500000 }) only [↓vp, vv, implies_true, forall_const, undef, InI, ↓reduceIte, simprocAttr, FaF, FaG, sE, netD, plnD, wk]; try rfl)), k + 1, a6, by omega, rfl⟩
      · have hk' : ¬ (k : Int) < 5 := by omega
        simp (config := { maxSteps := 500000 }) only [↓vp, vv, implies_true, forall_const, undef, InI, ↓reduceIte, simprocAttr, c9_7, c9_8, FaF, FaG, hk', wj]
        exact ⟨m - 1, _, by omega, (weak_eq [] [(0, 5), (0, 10), (0, 11), (0, 68)] (FaF node [(79, .sl (X.map netD)), (80, di 3), (81, di (j + 1 : Nat))]) (by simp (config := { maxSteps := 500000 }) only [↓vp, vv, implies_true, forall_const, undef, InI, ↓reduceIte, simprocAttr, coverS, FaF, FaH, sE, netD, plnD, wj]) (by simp (config := { maxSteps := 500000 }) only [↓vp, vv, implies_true, forall_const, undef, InI, ↓reduceIte, simprocAttr, refsF, FaF, FaH, sE, netD, plnD, wj]) (by simp (config := { maxSteps := 500000 }) only [↓vp, vv, implies_true, forall_const, undef, InI, ↓reduceIte, simprocAttr, FaF, FaH, sE, netD, plnD, wj]) (by simp) (by simp (config := { maxSteps := 500000 }) only [↓vp, vv, implies_true, forall_const, undef, InI, ↓reduceIte, simprocAttr, FaF, FaH, sE, netD, plnD, wj]; try rfl)), j + 1, u2, by omega, rfl⟩
    · have hj' : ¬ (j : Int) < 3 := by omega
      simp (config := { maxSteps := 500000 }) only [↓vp, vv, implies_true, forall_const, undef, InI, ↓reduceIte, simprocAttr, c9_10, c9_11, r9, TFa, selAw, FaF, FaH, hj', Pu]
end Go.Proofs.Ytkjibmfggeibjaa

/- Networks, plans and lists that came in: what a program's reader reads of them is data. -/
namespace Go.Proofs.Ytkjibmfggeibjaa
open Go Go.ChangeShapes Go.WideShapes Go.Deep
set_option linter.unusedVariables false
set_option linter.unusedSimpArgs false
set_option linter.unusedSectionVars false

def ImW (w : World) : Nat → Prop := fun b => b < w.heap.size
/-- A cell and its data. -/
def RW (w : World) (d : D) (u : Value) : Prop := one u = true ∧ RelP (ImW w) w.heap d u
def RWs (w : World) (ds : List D) (us : List Value) : Prop := ∀ (j : Nat) (d : D) (u : Value), ds[j]? = some d → us[j]? = some u → RW w d u
theorem RWs.nil {w : World} {us : List Value} : RWs w [] us := fun j d u hd => by simp at hd
theorem RWs.cons {w : World} {d : D} {u : Value} {ds : List D} {us : List Value} (h : RW w d u) (t : RWs w ds us) : RWs w (d :: ds) (u :: us) := fun j d' u' hd hu => by
  cases j with
  | zero => simp at hd hu; subst hd hu; exact h
  | succ j => exact t j d' u' (by simpa using hd) (by simpa using hu)
theorem RW.v {w : World} {u : Value} (h : one u = true) : RW w (.v u) u := ⟨h, .v u⟩
/-- An argument and its data. -/
def Arg (w : World) (d : D) (v : Value) : Prop := ∀ p : Pl, Rel (ImW w) p Hp.none w.heap d v
theorem list_of {α : Type} {Q : Nat → α → Prop} : ∀ n : Nat, (∀ i, i < n → ∃ a, Q i a) → ∃ l : List α, l.length = n ∧ ∀ i a, l[i]? = some a → Q i a
  | 0, _ => ⟨[], rfl, fun i a h => by simp at h⟩
  | n + 1, h => by
    obtain ⟨l, hl, hq⟩ := list_of n fun i hi => h i (by omega)
    obtain ⟨a, ha⟩ := h n (by omega)
    refine ⟨l ++ [a], by simp [hl], fun i b hb => ?_⟩
    rcases Nat.lt_or_ge i n with hi | hi
    · rw [List.getElem?_append_left (by omega)] at hb
      exact hq i b hb
    · rw [List.getElem?_append_right (by omega)] at hb
      have : i - l.length = 0 := by
        rcases Nat.eq_zero_or_pos (i - l.length) with h | h
        · exact h
        · rw [List.getElem?_eq_none (by simp; omega)] at hb; cases hb
      rw [this] at hb
      obtain rfl : a = b := by simpa using hb
      obtain rfl : i = n := by omega
      exact ha
theorem cell_at {w : World} {a : Addr} {v : Value} (h : w.cell? a = some v) : a.spot = none ∧ a.block < w.heap.size := by
  unfold World.cell? at h
  split at h
  · rename_i hb
    split at h
    · cases h
    · rename_i hs
      exact ⟨by simpa using hs, (Array.getElem?_eq_some_iff.1 hb).1⟩
  · cases h
section
variable {H : Type} {enc : TypeId × Value → H} {P : Program} {w : World} {base : Nat} {spare : Nat → Bool} {held : Bool}

theorem cells_get {a : Addr} {n : Nat} {us : List Value} (h : w.cells? base a n = some us) : us.length = n ∧ ∀ i, i < n → w.cell? (a.add i) = us[i]? := by
  unfold World.cells? at h
  split at h
  · exact ⟨by simpa using mapM_some_length h, fun i hi => mapM_some_get h i i (by simp [hi])⟩
  · cases h
theorem dec_fields {t : TypeId} {fs : Array Field} {fuel : Nat} {cs : List Value} {x : DataW H × List MemPlace} (hs : P.underlying t = some (.struct fs)) (hone : oneCellFields P fs = true) (h : DataW.trod enc P w base spare held fuel t cs = some x) :
    cs.length = P.cellsOf t ∧ ∃ n, ∀ (j : Nat) (f : Field) (u : Value), fs[j]? = some f → cs[j]? = some u → ∃ y, DataW.trod enc P w base spare held n f.type [u] = some y := by
  obtain ⟨xs, n, _, _, hl, hx, hg⟩ := DataW.trod_struct hs h
  refine ⟨hl, n, fun j f u hj hu => ?_⟩
  obtain ⟨o, k⟩ := hone_of hone j f hj
  have hjl : j < fs.size := (Array.getElem?_eq_some_iff.1 hj).1
  have h1 := hg j f hj
  rw [o, k] at h1
  have hcs : (cs.drop j).take 1 = [u] := by
    obtain ⟨hjv, rfl⟩ := List.getElem?_eq_some_iff.1 hu
    rw [List.drop_eq_getElem_cons hjv]
    rfl
  refine ⟨xs[j]'(by omega), ?_⟩
  rw [← hcs, ← List.getElem?_eq_getElem]
  exact h1
/-- Whatever reads as type e is data of the form 'row'. -/
def Dec (enc : TypeId × Value → H) (P : Program) (w : World) (base : Nat) (spare : Nat → Bool) (held : Bool) {α : Type} (e : TypeId) (row : α → List D) (sz : Nat) : Prop :=
  ∀ (n : Nat) (us : List Value) (y : DataW H × List MemPlace), DataW.trod enc P w base spare held n e us = some y → ∃ a : α, us.length = sz ∧ (row a).length = sz ∧ RWs w (row a) us
theorem dec_slice {α : Type} {row : α → List D} {sz : Nat} {t e : TypeId} (ht : P.underlying t = some (.slice e)) (hsz : P.cellsOf e = sz) (h0 : 0 < sz) (hel : Dec enc P w base spare held e row sz) : Dec enc P w base spare held t (fun l : List α => [D.sl (l.map row)]) 1 := by
  intro fuel cs x h
  rcases DataW.trod_slice ht h with ⟨rfl, _⟩ | ⟨a, len, cap, elems, rest, n, _, rfl, _, hb, hl, hm, hlen, hget, _, _⟩
  · exact ⟨[], rfl, rfl, .cons ⟨rfl, .sl0 none 0⟩ .nil⟩
  rcases Nat.eq_zero_or_pos len with z | hp
  · subst z
    exact ⟨[], rfl, rfl, .cons ⟨rfl, .sl0 _ _⟩ .nil⟩
  have each : ∀ i, i < len → ∃ a' : α, ∃ us : List Value, us.length = sz ∧ (∀ j, j < sz → w.cell? ((a.add (i * sz)).add j) = us[j]?) ∧ (row a').length = sz ∧ RWs w (row a') us := by
    intro i hi
    have h1 := hget i hi
    rw [List.getElem?_eq_getElem (by omega), Option.bind_eq_some_iff] at h1
    obtain ⟨us, hc, ht'⟩ := h1
    rw [hsz] at hc
    obtain ⟨c1, c2⟩ := cells_get hc
    obtain ⟨a', e1, e2, e3⟩ := hel _ _ _ ht'
    exact ⟨a', us, c1, c2, e2, e3⟩
  obtain ⟨hs, hbl⟩ : a.spot = none ∧ a.block < w.heap.size := by
    obtain ⟨_, us, u1, u2, _, _⟩ := each 0 hp
    have := u2 0 h0
    rw [List.getElem?_eq_getElem (by omega)] at this
    have k := cell_at this
    simpa [Addr.add] using k
  obtain ⟨b, o, s⟩ := a
  dsimp only at hs hbl
  subst hs
  obtain ⟨l, hll, hq⟩ := list_of len each
  have hat : ∀ i j, w.cell? (((⟨b, o, none⟩ : Addr).add (i * sz)).add j) = hc w.heap b (o + i * sz + j) := fun i j => by
    have e : (((⟨b, o, none⟩ : Addr).add (i * sz)).add j) = ⟨b, o + i * sz + j, none⟩ := by
      unfold Addr.add
      by_cases h1 : j = 0 <;> by_cases h2 : i * sz = 0 <;> simp only [h1, h2, if_true, if_false, Nat.add_zero]
    rw [← hc_cell, e]
  refine ⟨l, rfl, rfl, .cons ⟨rfl, .sl1 (l.map row) b o len cap sz (fun i j => (hc w.heap b (o + i * sz + j)).getD (.bool false)) (by simp [hll]) hl (fun r hr => ?_) hbl (fun i j hi hj => ?_) (fun i j hi hj => ?_)⟩ .nil⟩
  · obtain ⟨a', ha, rfl⟩ := List.mem_map.1 hr
    obtain ⟨i, hi⟩ := List.getElem?_of_mem ha
    obtain ⟨_, _, _, h3, _⟩ := hq i a' hi
    exact h3
  · obtain ⟨us, u1, u2, u3, u4⟩ := hq i l[i] (List.getElem?_eq_getElem (by omega))
    have h1 := u2 j hj
    rw [hat, List.getElem?_eq_getElem (by omega)] at h1
    have h2 := u4 j _ _ (List.getElem?_eq_getElem (by omega)) (List.getElem?_eq_getElem (by omega : j < us.length))
    rw [h1]
    exact ⟨rfl, h2.1⟩
  · have hi' : i < l.length := by simpa using hi
    obtain ⟨us, u1, u2, u3, u4⟩ := hq i l[i] (List.getElem?_eq_getElem (by omega))
    have e : ((l.map row)[i]'hi) = row l[i] := by simp
    have hj' : j < (row l[i]).length := by rw [← e]; exact hj
    have h1 := u2 j (by omega)
    rw [hat, List.getElem?_eq_getElem (by omega)] at h1
    have h2 := u4 j _ _ (List.getElem?_eq_getElem hj') (List.getElem?_eq_getElem (by omega : j < us.length))
    rw [h1]
    have e2 : (((l.map row)[i]'hi)[j]'hj) = (row l[i])[j] := by simp
    rw [e2]
    exact h2.2
theorem dec_arg {α : Type} {row : α → List D} {sz : Nat} {t : TypeId} {v : Value} {d : DataW H} {p : List MemPlace} (hel : Dec enc P w base spare held t row sz) {cs : Array Value} (hv : v = .agg cs) (h : DataW.Trod enc P w base spare held t v d p) : ∃ a : α, Arg w (.agg (row a)) v := by
  subst hv
  obtain ⟨fuel, hf⟩ := h
  obtain ⟨a, h1, h2, h3⟩ := hel _ _ _ hf
  have hc : (Value.agg cs).cells.toList = cs.toList := rfl
  rw [hc] at h1 h3
  refine ⟨a, fun p => .agg _ _ (by rw [h2, ← h1]; simp) (fun j u hu => ?_) (fun j d u hd hu => ?_)⟩
  · have hj : j < (row a).length := by
      have := (Array.getElem?_eq_some_iff.1 hu).1
      rw [h2, ← h1]
      simpa using this
    exact (h3 j _ u (List.getElem?_eq_getElem hj) (by simpa using hu)).1
  · exact .p (h3 j d u hd (by simpa using hu)).2
end
section
variable {H : Type} {enc : TypeId × Value → H} {w : World} {base : Nat} {spare : Nat → Bool} {held : Bool}

theorem dec_int : Dec enc Try.prog w base spare held 3 iRow 1 := fun n us y h => by
  obtain ⟨k, rfl, _, _⟩ := DataW.trod_int Try.underlying3 h
  exact ⟨k, rfl, rfl, .cons (.v rfl) .nil⟩
theorem dec_bool : Dec enc Try.prog w base spare held 4 bRow 1 := fun n us y h => by
  obtain ⟨k, rfl, _⟩ := DataW.trod_bool Try.underlying4 h
  exact ⟨k, rfl, rfl, .cons (.v rfl) .nil⟩
theorem dec_str : Dec enc Try.prog w base spare held 9 nmRow 1 := fun n us y h => by
  obtain ⟨k, rfl, _, _⟩ := DataW.trod_string Try.underlying9 h
  exact ⟨k, rfl, rfl, .cons (.v rfl) .nil⟩
theorem dec_ints : Dec enc Try.prog w base spare held 30 (fun l : List Int => [D.sl (l.map iRow)]) 1 := dec_slice Try.underlying30 (by kernel_rfl) (by omega) dec_int
theorem dec_bools : Dec enc Try.prog w base spare held 31 (fun l : List Bool => [D.sl (l.map bRow)]) 1 := dec_slice Try.underlying31 (by kernel_rfl) (by omega) dec_bool
theorem dec_strs : Dec enc Try.prog w base spare held 23 (fun l : List ByteArray => [D.sl (l.map nmRow)]) 1 := dec_slice Try.underlying23 (by kernel_rfl) (by omega) dec_str
theorem lst3 {α : Type} {l : List α} (h : l.length = 3) : ∃ a b c, l = [a, b, c] := match l, h with | [a, b, c], _ => ⟨a, b, c, rfl⟩
theorem lst5 {α : Type} {l : List α} (h : l.length = 5) : ∃ a b c d e, l = [a, b, c, d, e] := match l, h with | [a, b, c, d, e], _ => ⟨a, b, c, d, e, rfl⟩
theorem lst6 {α : Type} {l : List α} (h : l.length = 6) : ∃ a b c d e f, l = [a, b, c, d, e, f] := match l, h with | [a, b, c, d, e, f], _ => ⟨a, b, c, d, e, f, rfl⟩
theorem lst7 {α : Type} {l : List α} (h : l.length = 7) : ∃ a b c d e f g, l = [a, b, c, d, e, f, g] := match l, h with | [a, b, c, d, e, f, g], _ => ⟨a, b, c, d, e, f, g, rfl⟩
theorem rw_int {n : Nat} {u : Value} {y : DataW H × List MemPlace} (h : DataW.trod enc Try.prog w base spare held n 3 [u] = some y) : ∃ k, RW w (di k) u := by
  obtain ⟨k, _, _, r⟩ := dec_int n [u] y h
  exact ⟨k, r 0 _ _ rfl rfl⟩
theorem rw_str {n : Nat} {u : Value} {y : DataW H × List MemPlace} (h : DataW.trod enc Try.prog w base spare held n 9 [u] = some y) : ∃ k, RW w (ds k) u := by
  obtain ⟨k, _, _, r⟩ := dec_str n [u] y h
  exact ⟨k, r 0 _ _ rfl rfl⟩
theorem rw_sl {α : Type} {row : α → List D} {t : TypeId} (hd : Dec enc Try.prog w base spare held t (fun l : List α => [D.sl (l.map row)]) 1) {n : Nat} {u : Value} {y : DataW H × List MemPlace} (h : DataW.trod enc Try.prog w base spare held n t [u] = some y) : ∃ l : List α, RW w (.sl (l.map row)) u := by
  obtain ⟨k, _, _, r⟩ := hd n [u] y h
  exact ⟨k, r 0 _ _ rfl rfl⟩
theorem dec_pt : Dec enc Try.prog w base spare held 121 Pt.row 3 := fun n us y h => by
  obtain ⟨hl, m, hf⟩ := dec_fields Try.underlying121 (by kernel_rfl) h
  rw [show Try.prog.cellsOf 121 = 3 by kernel_rfl] at hl
  obtain ⟨u0, u1, u2, rfl⟩ := lst3 hl
  obtain ⟨_, q0⟩ := hf 0 _ u0 rfl rfl
  obtain ⟨_, q1⟩ := hf 1 _ u1 rfl rfl
  obtain ⟨_, q2⟩ := hf 2 _ u2 rfl rfl
  obtain ⟨k0, r0⟩ := rw_int q0
  obtain ⟨k1, r1⟩ := rw_int q1
  obtain ⟨k2, r2⟩ := rw_int q2
  exact ⟨⟨k0, k1, k2⟩, rfl, rfl, .cons r0 (.cons r1 (.cons r2 .nil))⟩
theorem dec_pts : Dec enc Try.prog w base spare held 44 (fun l : List Pt => [D.sl (l.map Pt.row)]) 1 := dec_slice Try.underlying44 (by kernel_rfl) (by omega) dec_pt
theorem dec_seg : Dec enc Try.prog w base spare held 46 Seg.row 7 := fun n us y h => by
  obtain ⟨hl, m, hf⟩ := dec_fields Try.underlying46 (by kernel_rfl) h
  rw [show Try.prog.cellsOf 46 = 7 by kernel_rfl] at hl
  obtain ⟨u0, u1, u2, u3, u4, u5, u6, rfl⟩ := lst7 hl
  obtain ⟨_, q0⟩ := hf 0 _ u0 rfl rfl
  obtain ⟨_, q1⟩ := hf 1 _ u1 rfl rfl
  obtain ⟨_, q2⟩ := hf 2 _ u2 rfl rfl
  obtain ⟨_, q3⟩ := hf 3 _ u3 rfl rfl
  obtain ⟨_, q4⟩ := hf 4 _ u4 rfl rfl
  obtain ⟨_, q5⟩ := hf 5 _ u5 rfl rfl
  obtain ⟨_, q6⟩ := hf 6 _ u6 rfl rfl
  obtain ⟨k0, r0⟩ := rw_str q0
  obtain ⟨k1, r1⟩ := rw_int q1
  obtain ⟨k2, r2⟩ := rw_int q2
  obtain ⟨k3, r3⟩ := rw_int q3
  obtain ⟨k4, r4⟩ := rw_int q4
  obtain ⟨k5, r5⟩ := rw_int q5
  obtain ⟨k6, r6⟩ := rw_sl dec_pts q6
  exact ⟨⟨k0, k1, k2, k3, k4, k5, k6⟩, rfl, rfl, .cons r0 (.cons r1 (.cons r2 (.cons r3 (.cons r4 (.cons r5 (.cons r6 .nil))))))⟩
theorem dec_port : Dec enc Try.prog w base spare held 123 Port.row 3 := fun n us y h => by
  obtain ⟨hl, m, hf⟩ := dec_fields Try.underlying123 (by kernel_rfl) h
  rw [show Try.prog.cellsOf 123 = 3 by kernel_rfl] at hl
  obtain ⟨u0, u1, u2, rfl⟩ := lst3 hl
  obtain ⟨_, q0⟩ := hf 0 _ u0 rfl rfl
  obtain ⟨_, q1⟩ := hf 1 _ u1 rfl rfl
  obtain ⟨_, q2⟩ := hf 2 _ u2 rfl rfl
  obtain ⟨k0, r0⟩ := rw_str q0
  obtain ⟨k1, r1⟩ := rw_int q1
  obtain ⟨k2, r2⟩ := rw_int q2
  exact ⟨⟨k0, k1, k2⟩, rfl, rfl, .cons r0 (.cons r1 (.cons r2 .nil))⟩
theorem dec_stn : Dec enc Try.prog w base spare held 133 Stn.row 5 := fun n us y h => by
  obtain ⟨hl, m, hf⟩ := dec_fields Try.underlying133 (by kernel_rfl) h
  rw [show Try.prog.cellsOf 133 = 5 by kernel_rfl] at hl
  obtain ⟨u0, u1, u2, u3, u4, rfl⟩ := lst5 hl
  obtain ⟨_, q0⟩ := hf 0 _ u0 rfl rfl
  obtain ⟨_, q1⟩ := hf 1 _ u1 rfl rfl
  obtain ⟨_, q2⟩ := hf 2 _ u2 rfl rfl
  obtain ⟨_, q3⟩ := hf 3 _ u3 rfl rfl
  obtain ⟨_, q4⟩ := hf 4 _ u4 rfl rfl
  obtain ⟨k0, r0⟩ := rw_str q0
  obtain ⟨k1, r1⟩ := rw_int q1
  obtain ⟨k2, r2⟩ := rw_int q2
  obtain ⟨k3, r3⟩ := rw_int q3
  obtain ⟨k4, r4⟩ := rw_int q4
  exact ⟨⟨k0, k1, k2, k3, k4⟩, rfl, rfl, .cons r0 (.cons r1 (.cons r2 (.cons r3 (.cons r4 .nil))))⟩
theorem dec_net : Dec enc Try.prog w base spare held 28 netD 6 := fun n us y h => by
  obtain ⟨hl, m, hf⟩ := dec_fields Try.underlying28 (by kernel_rfl) h
  rw [show Try.prog.cellsOf 28 = 6 by kernel_rfl] at hl
  obtain ⟨u0, u1, u2, u3, u4, u5, rfl⟩ := lst6 hl
  obtain ⟨_, q0⟩ := hf 0 _ u0 rfl rfl
  obtain ⟨_, q1⟩ := hf 1 _ u1 rfl rfl
  obtain ⟨_, q2⟩ := hf 2 _ u2 rfl rfl
  obtain ⟨_, q3⟩ := hf 3 _ u3 rfl rfl
  obtain ⟨_, q4⟩ := hf 4 _ u4 rfl rfl
  obtain ⟨_, q5⟩ := hf 5 _ u5 rfl rfl
  obtain ⟨k0, r0⟩ := rw_sl dec_strs q0
  obtain ⟨k1, r1⟩ := rw_sl (dec_slice Try.underlying24 (by kernel_rfl) (by omega) dec_seg) q1
  obtain ⟨k2, r2⟩ := rw_sl (dec_slice Try.underlying25 (by kernel_rfl) (by omega) dec_port) q2
  obtain ⟨k3, r3⟩ := rw_sl (dec_slice Try.underlying26 (by kernel_rfl) (by omega) dec_stn) q3
  obtain ⟨k4, r4⟩ := rw_int q4
  obtain ⟨k5, r5⟩ := rw_int q5
  exact ⟨⟨k0, k1, k2, k3, k4, k5⟩, rfl, rfl, .cons r0 (.cons r1 (.cons r2 (.cons r3 (.cons r4 (.cons r5 .nil)))))⟩
theorem dec_pln : Dec enc Try.prog w base spare held 33 plnD 3 := fun n us y h => by
  obtain ⟨hl, m, hf⟩ := dec_fields Try.underlying33 (by kernel_rfl) h
  rw [show Try.prog.cellsOf 33 = 3 by kernel_rfl] at hl
  obtain ⟨u0, u1, u2, rfl⟩ := lst3 hl
  obtain ⟨_, q0⟩ := hf 0 _ u0 rfl rfl
  obtain ⟨_, q1⟩ := hf 1 _ u1 rfl rfl
  obtain ⟨_, q2⟩ := hf 2 _ u2 rfl rfl
  obtain ⟨k0, r0⟩ := rw_sl dec_ints q0
  obtain ⟨k1, r1⟩ := rw_sl dec_ints q1
  obtain ⟨k2, r2⟩ := rw_sl dec_bools q2
  exact ⟨⟨k0, k1, k2⟩, rfl, rfl, .cons r0 (.cons r1 (.cons r2 .nil))⟩
end
def Args (w : World) (ds : List D) (us : List Value) : Prop := ds.length = us.length ∧ ∀ (j : Nat) (d : D) (u : Value), ds[j]? = some d → us[j]? = some u → Arg w d u
theorem Args.nil {w : World} : Args w [] [] := ⟨rfl, fun j d u hd => by simp at hd⟩
theorem Args.cons {w : World} {d : D} {u : Value} {ds : List D} {us : List Value} (h : Arg w d u) (t : Args w ds us) : Args w (d :: ds) (u :: us) := ⟨by simp [t.1], fun j d' u' hd hu => by
  cases j with
  | zero => simp at hd hu; subst hd hu; exact h
  | succ j => exact t.2 j d' u' (by simpa using hd) (by simpa using hu)⟩
theorem Arg.v {w : World} (u : Value) : Arg w (.v u) u := fun _ => .p (.v u)
theorem arg_ints {w : World} {a : Option Addr} {len cap : Nat} (h : ArgInts w a len cap) : ∃ ns : List Int, (∀ n ∈ ns, InI n) ∧ Arg w (.sl (ns.map fun n => [di n])) (.slice a len cap) := by
  obtain ⟨ns, Im, h1, h2, h3⟩ := ints_data h
  exact ⟨ns, h1, fun _ => .p (h3.mono h2 fun b _ => rfl)⟩
/-- A law of arguments that are data. -/
theorem law_any {f : FuncId} {w : World} {ds : List D} {us : List Value} (ha : Args w ds us) (hc : CallsA Try.prog f ds Hp.none (0, 0) (Pu (db true) Hp.none)) : Calls Try.prog f us.toArray w (Ret (.bool true) w) := by
  refine (hc w (ImW w) (fun _ => (0, 0)) us.toArray (by simpa using ha.1) (fun j d u hd hu => ?_) ⟨fun i e hi => (by cases hi), fun i j e e' hi => (by cases hi), fun b hb => hb⟩ (fun k _ => rfl)).mono ?_
  · exact ha.2 j d u hd (by simpa using hu) _
  · rintro e w' ⟨Im', p', v, H', u, L⟩
    obtain ⟨rfl, rfl⟩ := L.post
    have := rel_v L.rel
    subst this
    exact ⟨L.end_, kept_of L⟩
end Go.Proofs.Ytkjibmfggeibjaa

/- FlowAnswers: the law, of arguments that came in. -/
namespace Go.Proofs.Ytkjibmfggeibjaa
open Go
theorem FlowAnswers_law (v0 v1 : Value) (node : Int) (a : Option Addr) (len cap : Nat) (w : World) (h0 : ∃ x : Net, Arg w (.agg (netD x)) v0) (h1 : ∃ x : Pln, Arg w (.agg (plnD x)) v1) (h3 : ArgInts w a len cap) :
    Calls Try.prog 9 #[v0, v1, .int .i64 node, .slice a len cap] w (Ret (.bool true) w) := by
  obtain ⟨n, g0⟩ := h0
  obtain ⟨p, g1⟩ := h1
  obtain ⟨ns, hns, g3⟩ := arg_ints h3
  exact law_any (us := [v0, v1, .int .i64 node, .slice a len cap]) (.cons g0 (.cons g1 (.cons (.v _) (.cons g3 .nil)))) (FA_c n p node ns hns (0, 0))
end Go.Proofs.Ytkjibmfggeibjaa
