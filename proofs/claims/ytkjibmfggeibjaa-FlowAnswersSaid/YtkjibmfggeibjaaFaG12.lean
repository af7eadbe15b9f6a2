/- FlowAnswers: Fw4 Pl1 CodePL. -/
import Derived.Test.YtkjibmfggeibjaaFaG11
import Derived.Test.YtkjibmfggeibjaaFaG10
import Derived.Test.YtkjibmfggeibjaaFaG3
import Derived.Test.YtkjibmfggeibjaaProg

/- Flow: Check. -/
/- Flow: Check. -/
namespace Go.Proofs.Ytkjibmfggeibjaa
open Go
set_option linter.unusedVariables false
set_option linter.unusedSimpArgs false
set_option maxRecDepth 100000

/-- What a valid network is. -/
structure NetV (n : Net) : Prop where
  nl : 1 ≤ n.nodes.length ∧ n.nodes.length ≤ 24
  sl : n.segs.length ≤ 32
  ql : n.ports.length ≤ 24
  tl : n.sts.length ≤ 12
  se : ∀ s ∈ n.segs, (0 ≤ s.fr ∧ s.fr < n.nodes.length) ∧ (0 ≤ s.to ∧ s.to < n.nodes.length) ∧ s.fr ≠ s.to ∧ 1 ≤ s.cap ∧ s.cap ≤ 1000000
  pe : ∀ x ∈ n.ports, 0 ≤ x.node ∧ x.node < n.nodes.length
  te : ∀ x ∈ n.sts, 0 ≤ x.node ∧ x.node < n.nodes.length
theorem any_f {α : Type} {p : α → Bool} {l : List α} (h : l.any p = false) {x : α} (hx : x ∈ l) : p x = false := by
  cases e : p x with
  | false => rfl
  | true => rw [List.any_eq_true.2 ⟨x, hx, e⟩] at h; cases h
theorem inB_of {a b c : Int} (h : inB a b c = true) : b ≤ a ∧ a ≤ c := by
  unfold inB at h
  split at h
  · rename_i h1; exact ⟨by simpa using h1, by simpa using h⟩
  · cases h
theorem check0 {n : Net} (h : checkI n = 0) : NetV n := by
  unfold checkI at h
  split at h
  · rename_i hl
    split at h
    · cases h
    · split at h
      · cases h
      · split at h
        · rename_i hk
          split at h
          · rename_i hp
            unfold limB at hl
            split at hl; · cases hl
            split at hl; · cases hl
            split at hl; · cases hl
            split at hl; · cases hl
            split at hl; · cases hl
            unfold knB at hk
            have hk2 : (allIx n).any (unk n) = false := by simpa using hk
            have inN : ∀ k ∈ allIx n, 0 ≤ k ∧ k < n.nodes.length := fun k hk => by
              have := any_f hk2 hk
              unfold unk at this
              split at this
              · cases this
              · rename_i h1
                simp at h1 this
                omega
            unfold prB at hp
            split at hp; · cases hp
            rename_i hs
            have hs2 : n.segs.any segBad = false := by simpa using hs
            refine ⟨by omega, by omega, by omega, by omega, fun s hm => ⟨inN _ ?_, inN _ ?_, ?_⟩, fun x hm => inN _ ?_, fun x hm => inN _ ?_⟩
            · exact List.mem_append_left _ (List.mem_append_left _ (List.mem_flatMap.2 ⟨s, hm, by simp [endsOf]⟩))
            · exact List.mem_append_left _ (List.mem_append_left _ (List.mem_flatMap.2 ⟨s, hm, by simp [endsOf]⟩))
            · have := any_f hs2 hm
              unfold segBad at this
              have hp : pipeB s = true := by simpa using this
              unfold pipeB at hp
              split at hp; · cases hp
              rename_i h1
              split at hp
              · rename_i h2
                exact ⟨by simpa using h1, inB_of h2⟩
              · cases hp
            · exact List.mem_append_left _ (List.mem_append_right _ (List.mem_map.2 ⟨x, hm, rfl⟩))
            · exact List.mem_append_right _ (List.mem_map.2 ⟨x, hm, rfl⟩)
          · cases h
        · cases h
  · cases h
def most (s : Seg) : Int := if s.cap < 1000 then s.cap else 1000
def rateBad (x : Seg × Int) : Bool := !(withB x.2 (most x.1))
def portBadR (r : Int) : Bool := !(withB r 1000)
def lenBad (n : Net) (p : Pln) : Bool := if ((p.rates.length : Int) != n.segs.length) = true then true else if ((p.ports.length : Int) != n.ports.length) = true then true else ((p.pumps.length : Int) != n.sts.length)
def fckI (n : Net) (p : Pln) : Int := if checkI n = 0 then (if lenBad n p = true then 9 else if (n.segs.zip p.rates).any rateBad = true then 1 else if p.ports.any portBadR = true then 1 else if amt comeOf (flowsOf n p) = amt leaveOf (flowsOf n p) then (if (ordB n p).length < n.nodes.length then 13 else 0) else 12) else checkI n
structure PlnSz (p : Pln) : Prop where
  rates : p.rates.length ≤ 1000000
  ports : p.ports.length ≤ 1000000
  pumps : p.pumps.length ≤ 1000000
theorem withB_of {r m : Int} (h : withB r m = true) : -m ≤ r ∧ r ≤ m := by
  unfold withB at h
  split at h
  · rename_i h1; exact ⟨h1, by simpa using h⟩
  · cases h
theorem len_ok {n : Net} {p : Pln} (h : lenBad n p = false) : p.rates.length = n.segs.length ∧ p.ports.length = n.ports.length ∧ p.pumps.length = n.sts.length := by
  unfold lenBad at h
  split at h
  · cases h
  · rename_i h1
    split at h
    · cases h
    · rename_i h2
      simp at h1 h2 h
      omega
/-- What a plan is whose rates are in their ranges. -/
theorem fl_ok {n : Net} {p : Pln} (hv : NetV n) (h1 : p.rates.length = n.segs.length) (h2 : p.ports.length = n.ports.length) (h3 : (n.segs.zip p.rates).any rateBad = false) (h4 : p.ports.any portBadR = false) : FlOk n p := by
  refine ⟨hv.sl, hv.ql, h1, h2, fun t ht => ?_⟩
  have hn := hv.nl
  rcases List.mem_append.1 ht with ht | ht
  · rw [← List.map_uncurry_zip_eq_zipWith] at ht
    obtain ⟨x, hx, rfl⟩ := List.mem_map.1 ht
    have a := any_f h3 hx
    unfold rateBad at a
    have b := withB_of (by simpa using a)
    have c := hv.se x.1 (List.of_mem_zip hx).1
    unfold most at b
    refine ⟨?_, ?_, ?_⟩
    · show -1 ≤ x.1.fr ∧ x.1.fr < 24
      omega
    · show -1 ≤ x.1.to ∧ x.1.to < 24
      omega
    · show -1000 ≤ x.2 ∧ x.2 ≤ 1000
      split at b <;> omega
  · rw [← List.map_uncurry_zip_eq_zipWith] at ht
    obtain ⟨x, hx, rfl⟩ := List.mem_map.1 ht
    have a := any_f h4 (List.of_mem_zip hx).2
    unfold portBadR at a
    have b := withB_of (by simpa using a)
    have c := hv.pe x.1 (List.of_mem_zip hx).1
    refine ⟨?_, ?_, ?_⟩
    · show -1 ≤ (-1 : Int) ∧ (-1 : Int) < 24
      omega
    · show -1 ≤ x.1.node ∧ x.1.node < 24
      omega
    · show -1000 ≤ x.2 ∧ x.2 ≤ 1000
      omega
theorem edge_ok {n : Net} (p : Pln) (hv : NetV n) : EdgeIn (n.segs.zip p.rates) n.nodes.length := fun x hx => by
  have := hv.se x.1 (List.of_mem_zip hx).1
  omega
def selWithin : List D → Option (Prop × D)
  | [.v (.int .i64 r), .v (.int .i64 m)] => some (-1000000 ≤ m ∧ m ≤ 1000000, db (withB r m))
  | _ => Option.none
def TFw : Tbl := tc 120 (rowPu selWithin) T0
theorem TFw_ok : TblOk Try.prog TFw := by
  refine tc_pu f120_ok (fun args pre d h hp nn => ?_) (T0_ok _)
  unfold selWithin at h
  split at h <;> cases h
  exact within_c _ _ hp nn
set_option maxHeartbeats 1000000 in
theorem fck1_c (r : Int) (nn : Nm) : CallsA Try.prog 122 [di r] Hp.none nn (Pu (db (portBadR r)) Hp.none) := by
  obtain ⟨code, h1, h2⟩ := c122_ok
  refine callsA_of TFw_ok mixed (N := fun t => (0, t)) Try.func122 h1 h2 r122_ok [] false js_nil js_nil' (by simp [Try.f122]) ?_
  simp (config := { maxSteps := 500000 }) only [↓vp, vv, implies_true, forall_const, undef, InI, ↓reduceIte, simprocAttr, c122, r122, TFw, selWithin, portBadR, Pu]
/-- The row of a function of a network and a plan. -/
def selNP (pre : Net → Pln → Prop) (out : Net → Pln → D) : List D → Option (Prop × D)
  | [.agg a, .agg b] => match netOf1 a, plnOf1 b with
    | some n, some p => some (pre n p, out n p)
    | _, _ => Option.none
  | _ => Option.none
theorem tc_np {f : FuncId} {pre : Net → Pln → Prop} {out : Net → Pln → D} {T : Tbl} (hf : fnOk Try.prog f = true) (h : ∀ n p, pre n p → ∀ nn, CallsA Try.prog f [n.enc, p.enc] Hp.none nn (Pu (out n p) Hp.none)) (hT : TblOk Try.prog T) : TblOk Try.prog (tc f (rowPu (selNP pre out)) T) :=
  tc_pu hf (fun args pr d hs hp nn => by
    unfold selNP at hs
    split at hs
    · split at hs
      · rename_i e1 e2
        cases hs
        rw [netOf1_eq e1, plnOf1_eq e2]
        exact h _ _ hp nn
      · cases hs
    · cases hs) hT
def OrdPre (n : Net) (p : Pln) : Prop := n.nodes.length ≤ 1000000 ∧ n.segs.length ≤ 1000000 ∧ p.rates.length = n.segs.length ∧ EdgeIn (n.segs.zip p.rates) n.nodes.length
def TCf (P : Program) : Tbl := tc 74 (rowPu (selNet fun n => di (checkI n))) (tc 121 (rowPu (selQ P false 1 (fun g l => qRow intOf1 portBadR) outC)) (tc 123 (rowPu (selNP FlOk fun n p => .agg ((amtM (flowsOf n p)).map di))) (tc 118 (rowPu (selNP OrdPre fun n p => .sl ((ordB n p).map nRow))) TFw)))
theorem TCf_ok : TblOk Try.prog (TCf Try.prog) := tc_netf f74_ok check_c (tc_cf f121_ok (fun q g l rows h nn => hasF_I q g l rows h nn) (tc_np f123_ok sums_c (tc_np f118_ok (fun n p h nn => order_c n p h.1 h.2.1 h.2.2.1 h.2.2.2 nn) TFw_ok)))
theorem eqL_di : ∀ (A B : List Int), A.length = B.length → eqL (List.replicate A.length 0) (A.map di) (B.map di) = some (decide (A = B))
  | [], [], _ => by simp [eqL]
  | a :: A, b :: B, h => by
    have := eqL_di A B (by simpa using h)
    simp only [List.length_cons, List.replicate_succ, List.map_cons, eqL, eqOne, this, if_true]
    by_cases h1 : a = b <;> by_cases h2 : A = B <;> simp [h1, h2]
theorem flat_di : ∀ M : List Int, flatL (M.map di) = true
  | [] => rfl
  | x :: M => by rw [List.map_cons, flatL, flat_di M]; rfl
theorem amt_len (f : Int → Fl → Int) (T : List Fl) : (amt f T).length = 24 := by simp [amt]
theorem eqL_amt (T : List Fl) : eqL [0, 0, 0, 0, 0, 0, 0, 0, 0, 0, 0, 0, 0, 0, 0, 0, 0, 0, 0, 0, 0, 0, 0, 0] ((amt comeOf T).map di) ((amt leaveOf T).map di) = some (decide (amt comeOf T = amt leaveOf T)) := by
  have := eqL_di (amt comeOf T) (amt leaveOf T) (by rw [amt_len, amt_len])
  rw [amt_len] at this
  exact this
theorem amt_take (T : List Fl) : ((amtM T).map di).take 24 = (amt comeOf T).map di := by
  unfold amtM
  rw [List.map_append, List.take_append_of_le_length (by rw [List.length_map, amt_len]; exact Nat.le_refl _), List.take_of_length_le (by rw [List.length_map, amt_len]; exact Nat.le_refl _)]
theorem amt_drop (T : List Fl) : (((amtM T).map di).drop 24).take 24 = (amt leaveOf T).map di := by
  unfold amtM
  rw [List.map_append, List.drop_append_of_le_length (by rw [List.length_map, amt_len]; exact Nat.le_refl _), List.drop_of_length_le (by rw [List.length_map, amt_len]; exact Nat.le_refl _), List.nil_append, List.take_of_length_le (by rw [List.length_map, amt_len]; exact Nat.le_refl _)]
def HF (n : Net) (p : Pln) : Hp := (Hp.none.put (0, 3) ⟨0, 3, [plnD p]⟩).put (0, 2) ⟨0, 6, [netD n]⟩
set_option maxHeartbeats 16000000 in
theorem fcheck_c (n : Net) (p : Pln) (hz : NetSz n) (hq : PlnSz p) (nn : Nm) : CallsA Try.prog 55 [n.enc, p.enc] Hp.none nn (Pu (di (fckI n p)) Hp.none) := by
  obtain ⟨code, h1, h2⟩ := c55_ok
  refine callsA_of TCf_ok mixed (N := fun t => (0, t)) Try.func55 h1 h2 r55_ok [] false js_nil js_nil' (by simp [Try.f55]) ?_
  have hn1 : netOf1 [D.sl (n.nodes.map nmRow), .sl (n.segs.map Seg.row), .sl (n.ports.map Port.row), .sl (n.sts.map Stn.row), di n.vap, di n.set] = some n := netOf1_row n
  have hp1 : plnOf1 [D.sl (p.rates.map iRow), .sl (p.ports.map iRow), .sl (p.pumps.map bRow)] = some p := plnOf1_row p
  by_cases a0 : checkI n = 0
  · have b0 : (checkI n != 0) = false := by simp [a0]
    have hv := check0 a0
    cases a1 : lenBad n p with
    | true =>
      have hc : fckI n p = 9 := by unfold fckI; rw [if_pos a0, if_pos a1]
      unfold lenBad at a1
      cases c1 : ((p.rates.length : Int) != n.segs.length) with
      | true => simp (config := { maxSteps := 500000 }) only [↓vp, vv, implies_true, forall_const, undef, InI, ↓reduceIte, simprocAttr, c55, r55, c55_1, c55_2, c55_3, c55_4, c55_5, c55_6, c55_7, c55_8, c55_9, TCf, selNet, Net.enc, Pln.enc, netD, plnD, hn1, hz, a0, bne_self_eq_false, c1, hc, Pu]
      | false =>
        rw [c1] at a1
        cases c2 : ((p.ports.length : Int) != n.ports.length) with
        | true => simp (config := { maxSteps := 500000 }) only [↓vp, vv, implies_true, forall_const, undef, InI, ↓reduceIte, simprocAttr, c55, r55, c55_1, c55_2, c55_3, c55_4, c55_5, c55_6, c55_7, c55_8, c55_9, TCf, selNet, Net.enc, Pln.enc, netD, plnD, hn1, hz, a0, bne_self_eq_false, c1, c2, hc, Pu]
        | false =>
          rw [c2] at a1
          have c3 : ((p.pumps.length : Int) != n.sts.length) = true := by simpa using a1
          simp (config := { maxSteps := 500000 }) only [↓vp, vv, implies_true, forall_const, undef, InI, ↓reduceIte, simprocAttr, c55, r55, c55_1, c55_2, c55_3, c55_4, c55_5, c55_6, c55_7, c55_8, c55_9, TCf, selNet, Net.enc, Pln.enc, netD, plnD, hn1, hz, a0, bne_self_eq_false, c1, c2, c3, hc, Pu]
    | false =>
      obtain ⟨l1, l2, l3⟩ := len_ok a1
      have c1 : ((p.rates.length : Int) != n.segs.length) = false := by simp [l1]
      have c2 : ((p.ports.length : Int) != n.ports.length) = false := by simp [l2]
      have c3 : ((p.pumps.length : Int) != n.sts.length) = false := by simp [l3]
      generalize hb : (n.segs.zip p.rates).any rateBad = b
      have hc : fckI n p = if b = true then 1 else if p.ports.any portBadR = true then 1 else if amt comeOf (flowsOf n p) = amt leaveOf (flowsOf n p) then (if (ordB n p).length < n.nodes.length then 13 else 0) else 12 := by unfold fckI; rw [if_pos a0, a1, hb]; rfl
      simp (config := { maxSteps := 500000 }) only [↓vp, vv, implies_true, forall_const, undef, InI, ↓reduceIte, simprocAttr, c55, r55, c55_1, c55_2, c55_3, c55_4, c55_5, c55_6, c55_7, c55_8, c55_9, TCf, selNet, Net.enc, Pln.enc, netD, plnD, hn1, hz, a0, bne_self_eq_false, c1, c2, c3]
      refine rng_loop n.segs.length (fun j => ⟨fr [(2, .ptr (0, 2) 0 0 0), (3, .ptr (0, 3) 0 0 0), (40, .sl (n.segs.map Seg.row)), (41, di n.segs.length), (42, di j)], HF n p⟩) (fun j => ((n.segs.zip p.rates).drop j).any rateBad = b) (weak_eq [] [(0, 2), (0, 3)] [(2, .ptr (0, 2) 0 0 0), (3, .ptr (0, 3) 0 0 0), (40, .sl (n.segs.map Seg.row)), (41, di n.segs.length), (42, di 0)] (by simp (config := { maxSteps := 500000 }) only [↓vp, vv, implies_true, forall_const, undef, InI, ↓reduceIte, simprocAttr, coverS, HF, netD, plnD]) (by simp (config := { maxSteps := 500000 }) only [↓vp, vv, implies_true, forall_const, undef, InI, ↓reduceIte, simprocAttr, refsF, HF, netD, plnD]) (by simp (config := { maxSteps := 500000 }) only [↓vp, vv, implies_true, forall_const, undef, InI, ↓reduceIte, simprocAttr, HF, netD, plnD]) (by simp) (by simp (config := { maxSteps := 500000 }) only [↓vp, vv, implies_true, forall_const, undef, InI, ↓reduceIte, simprocAttr, HF, netD, plnD]; try rfl)) hb (fun j hj he => ?_) (fun he => ?_)
      · have hj' : (j : Int) < n.segs.length := by omega
        have hn := idx_nn j
        have hsl := hv.sl
        have w1 := idx_next (j := j) (by omega)
        have hr : j < p.rates.length := by omega
        have hr' : (j : Int) < p.rates.length := by omega
        have hg := getD_map Seg.row n.segs j hj
        have hg2 := iRow_at p.rates j hr
        have hzl : j < (n.segs.zip p.rates).length := by rw [List.length_zip]; omega
        obtain ⟨hf, ht⟩ := drop_any hzl he
        have hx : (n.segs.zip p.rates)[j] = (n.segs[j], p.rates[j]) := List.getElem_zip
        rw [hx] at hf ht
        have hcp := hv.se _ (List.getElem_mem hj)
        generalize n.segs[j] = s at hg hf ht hcp
        generalize p.rates[j] = r at hg2 hf ht
        have hm : -1000000 ≤ most s ∧ most s ≤ 1000000 := by unfold most; constructor <;> split <;> omega
        have hm2 : (if s.cap < 1000 then s.cap else 1000) = most s := rfl
        cases d : withB r (most s) with
        | false =>
          have e1 := hf (by unfold rateBad; rw [d]; rfl)
          rw [e1] at hc
          have hc3 : fckI n p = 1 := hc
          simp (config := { maxSteps := 500000 }) only [↓vp, vv, implies_true, forall_const, undef, InI, ↓reduceIte, simprocAttr, c55, r55, c55_1, c55_2, c55_3, c55_4, c55_5, c55_6, c55_7, c55_8, c55_9, TCf, TFw, selWithin, HF, netD, plnD, hj', hr', hn, Int.toNat_natCast, hg, hg2, Seg.row, hm2, hm, d, hc3, Pu]
        | true =>
          simp (config := { maxSteps := 500000 }) only [↓vp, vv, implies_true, forall_const, undef, InI, ↓reduceIte, simprocAttr, c55, r55, c55_1, c55_2, c55_3, c55_4, c55_5, c55_6, c55_7, c55_8, c55_9, TCf, TFw, selWithin, HF, netD, plnD, hj', hr', hn, Int.toNat_natCast, hg, hg2, Seg.row, hm2, hm, d, w1]
          exact rng_next hj (weak_eq [] [(0, 2), (0, 3)] [(2, .ptr (0, 2) 0 0 0), (3, .ptr (0, 3) 0 0 0), (40, .sl (n.segs.map Seg.row)), (41, di n.segs.length), (42, di (j + 1 : Nat))] (by simp (config := { maxSteps := 500000 }) only [↓vp, vv, implies_true, forall_const, undef, InI, ↓reduceIte, simprocAttr, coverS, HF, netD, plnD, w1, Seg.row]) (by simp (config := { maxSteps := 500000 }) only [↓vp, vv, implies_true, forall_const, undef, InI, ↓reduceIte, simprocAttr, refsF, HF, netD, plnD, w1, Seg.row]) (by simp (config := { maxSteps := 500000 }) only [↓vp, vv, implies_true, forall_const, undef, InI, ↓reduceIte, simprocAttr, HF, netD, plnD, w1, Seg.row]) (by simp) (by simp (config := { maxSteps := 500000 }) only [↓vp, vv, implies_true, forall_const, undef, InI, ↓reduceIte, simprocAttr, HF, netD, plnD, w1, Seg.row]; try rfl)) (ht (by unfold rateBad; rw [d]; rfl))
      · have e1 : b = false := drop_any_end (by rw [List.length_zip]; omega) he
        rw [e1] at hc hb
        simp only [Bool.false_eq_true, if_false] at hc
        have hq : QOk Try.prog false 1 (qRow intOf1 portBadR) 122 [] (p.ports.map iRow) := by
          refine ⟨f122_ok, by simp; have := hq.ports; omega, fun r hr => ?_⟩
          obtain ⟨x, _, rfl⟩ := List.mem_map.1 hr
          exact ⟨rfl, rfl, fun _ => ⟨_, rfl⟩, fun nn => fck1_c x nn⟩
        have ho : outC (fun r => qRow intOf1 portBadR (elV false r)) (p.ports.map iRow) = db (p.ports.any portBadR) := by
          unfold outC
          rw [List.any_map]
          rfl
        cases a4 : p.ports.any portBadR with
        | true =>
          rw [a4] at ho hc
          have hc3 : fckI n p = 1 := hc
          simp (config := { maxSteps := 500000 }) only [↓vp, vv, implies_true, forall_const, undef, InI, ↓reduceIte, simprocAttr, c55, r55, c55_1, c55_2, c55_3, c55_4, c55_5, c55_6, c55_7, c55_8, c55_9, TCf, selQ, ipsOf, HF, netD, plnD, Int.lt_irrefl, hq, ho, hc3, Pu]
        | false =>
          rw [a4] at ho hc
          simp only [Bool.false_eq_true, if_false] at hc
          have hfl := fl_ok hv l1 l2 hb a4
          have hord : OrdPre n p := ⟨by have := hv.nl; omega, by have := hv.sl; omega, l1, edge_ok p hv⟩
          have hl := amtM_len (flowsOf n p)
          by_cases a5 : amt comeOf (flowsOf n p) = amt leaveOf (flowsOf n p)
          · rw [if_pos a5] at hc
            have a5e := eqL_amt (flowsOf n p)
            rw [decide_eq_true a5] at a5e
            by_cases a6 : (ordB n p).length < n.nodes.length
            · rw [if_pos a6] at hc
              have a6' : ((ordB n p).length : Int) < n.nodes.length := by omega
              simp (config := { maxSteps := 500000 }) only [↓vp, vv, implies_true, forall_const, undef, InI, ↓reduceIte, simprocAttr, c55, r55, c55_1, c55_2, c55_3, c55_4, c55_5, c55_6, c55_7, c55_8, c55_9, TCf, selQ, ipsOf, selNP, HF, netD, plnD, Int.lt_irrefl, hq, ho, hn1, hp1, hfl, hord, hl, put_all, amt_take, amt_drop, a5e, a6', refs_di, nms_di, di_done, flat_di, hc, Pu]
            · rw [if_neg a6] at hc
              have a6' : ¬ ((ordB n p).length : Int) < n.nodes.length := by omega
              simp (config := { maxSteps := 500000 }) only [↓vp, vv, implies_true, forall_const, undef, InI, ↓reduceIte, simprocAttr, c55, r55, c55_1, c55_2, c55_3, c55_4, c55_5, c55_6, c55_7, c55_8, c55_9, TCf, selQ, ipsOf, selNP, HF, netD, plnD, Int.lt_irrefl, hq, ho, hn1, hp1, hfl, hord, hl, put_all, amt_take, amt_drop, a5e, a6', refs_di, nms_di, di_done, flat_di, hc, Pu]
          · rw [if_neg a5] at hc
            have a5e := eqL_amt (flowsOf n p)
            rw [decide_eq_false a5] at a5e
            simp (config := { maxSteps := 500000 }) only [↓vp, vv, implies_true, forall_const, undef, InI, ↓reduceIte, simprocAttr, c55, r55, c55_1, c55_2, c55_3, c55_4, c55_5, c55_6, c55_7, c55_8, c55_9, TCf, selQ, ipsOf, selNP, HF, netD, plnD, Int.lt_irrefl, hq, ho, hn1, hp1, hfl, hl, put_all, amt_take, amt_drop, a5e, refs_di, nms_di, di_done, flat_di, hc, Pu, decide_true, decide_false]
  · have b0 : (checkI n != 0) = true := by simp [a0]
    have hc : fckI n p = checkI n := by unfold fckI; rw [if_neg a0]
    simp (config := { maxSteps := 500000 }) only [↓vp, vv, implies_true, forall_const, undef, InI, ↓reduceIte, simprocAttr, c55, r55, c55_1, c55_2, c55_3, c55_4, c55_5, c55_6, c55_7, c55_8, c55_9, TCf, selNet, Net.enc, Pln.enc, netD, plnD, hn1, hz, b0, hc, Pu]
end Go.Proofs.Ytkjibmfggeibjaa
/- Flow: Order, Through, Feeds. -/
namespace Go.Proofs.Ytkjibmfggeibjaa
open Go
set_option linter.unusedVariables false
set_option linter.unusedSimpArgs false
set_option maxRecDepth 100000

/-- What a valid plan is. -/
structure PlnV (n : Net) (p : Pln) : Prop where
  net : NetV n
  ck : checkI n = 0
  rl : p.rates.length = n.segs.length
  pl : p.ports.length = n.ports.length
  ul : p.pumps.length = n.sts.length
  rb : ∀ x ∈ n.segs.zip p.rates, withB x.2 (most x.1) = true
  pb : ∀ r ∈ p.ports, -1000 ≤ r ∧ r ≤ 1000
  fl : FlOk n p
  bal : amt comeOf (flowsOf n p) = amt leaveOf (flowsOf n p)
  ord : OrdPre n p
  all : n.nodes.length ≤ (ordB n p).length
theorem fck0 {n : Net} {p : Pln} (h : fckI n p = 0) : PlnV n p := by
  unfold fckI at h
  split at h
  · rename_i a0
    have hv := check0 a0
    cases a1 : lenBad n p with
    | true => rw [a1] at h; simp at h
    | false =>
      obtain ⟨l1, l2, l3⟩ := len_ok a1
      rw [a1] at h
      cases a2 : (n.segs.zip p.rates).any rateBad with
      | true => rw [a2] at h; simp at h
      | false =>
        rw [a2] at h
        cases a3 : p.ports.any portBadR with
        | true => rw [a3] at h; simp at h
        | false =>
          rw [a3] at h
          simp only [Bool.false_eq_true, if_false] at h
          split at h
          · rename_i a5
            split at h
            · cases h
            · rename_i a6
              refine ⟨hv, a0, l1, l2, l3, fun x hx => ?_, fun r hr => ?_, fl_ok hv l1 l2 a2 a3, a5, ⟨by have := hv.nl; omega, by have := hv.sl; omega, l1, edge_ok p hv⟩, by omega⟩
              · have := any_f a2 hx
                unfold rateBad at this
                simpa using this
              · have := any_f a3 hr
                unfold portBadR at this
                exact withB_of (by simpa using this)
          · cases h
  · rename_i h1; exact absurd h h1
def ordR (n : Net) (p : Pln) : List Nat := if fckI n p = 0 then ordB n p else []
def FckPre (n : Net) (p : Pln) : Prop := NetSz n ∧ PlnSz p
def TFk : Tbl := tc 55 (rowPu (selNP FckPre fun n p => di (fckI n p))) (tc 123 (rowPu (selNP FlOk fun n p => .agg ((amtM (flowsOf n p)).map di))) (tc 118 (rowPu (selNP OrdPre fun n p => .sl ((ordB n p).map nRow))) T0))
theorem TFk_ok : TblOk Try.prog TFk := tc_np f55_ok (fun n p h nn => fcheck_c n p h.1 h.2 nn) (tc_np f123_ok sums_c (tc_np f118_ok (fun n p h nn => order_c n p h.1 h.2.1 h.2.2.1 h.2.2.2 nn) (T0_ok _)))
set_option maxHeartbeats 4000000 in
theorem fOrder_c (n : Net) (p : Pln) (hz : FckPre n p) (nn : Nm) : CallsA Try.prog 51 [n.enc, p.enc] Hp.none nn (Pu (.tup [.sl ((ordR n p).map nRow), di (fckI n p)]) Hp.none) := by
  obtain ⟨code, h1, h2⟩ := c51_ok
  refine callsA_of TFk_ok mixed (N := fun t => (0, t)) Try.func51 h1 h2 r51_ok [] false js_nil js_nil' (by simp [Try.f51]) ?_
  have hn1 : netOf1 [D.sl (n.nodes.map nmRow), .sl (n.segs.map Seg.row), .sl (n.ports.map Port.row), .sl (n.sts.map Stn.row), di n.vap, di n.set] = some n := netOf1_row n
  have hp1 : plnOf1 [D.sl (p.rates.map iRow), .sl (p.ports.map iRow), .sl (p.pumps.map bRow)] = some p := plnOf1_row p
  by_cases a0 : fckI n p = 0
  · have hv := fck0 a0
    have ho := hv.ord
    have hr : ordR n p = ordB n p := if_pos a0
    simp (config := { maxSteps := 500000 }) only [↓vp, vv, implies_true, forall_const, undef, InI, ↓reduceIte, simprocAttr, c51, r51, c51_1, TFk, selNP, Net.enc, Pln.enc, netD, plnD, hn1, hp1, hz, ho, a0, bne_self_eq_false, hr, Pu]
  · have b0 : (fckI n p != 0) = true := by simp [a0]
    have hr : ordR n p = [] := if_neg a0
    simp (config := { maxSteps := 500000 }) only [↓vp, vv, implies_true, forall_const, undef, InI, ↓reduceIte, simprocAttr, c51, r51, c51_1, TFk, selNP, Net.enc, Pln.enc, netD, plnD, hn1, hp1, hz, b0, hr, Pu]
def thrI (n : Net) (p : Pln) (k : Int) : Int × Int := if fckI n p = 0 then (if k < 0 then (0, 8) else if (n.nodes.length : Int) ≤ k then (0, 8) else (sumI (comeOf k) (flowsOf n p), 0)) else (0, fckI n p)
theorem amt_at (f : Int → Fl → Int) (T : List Fl) (k : Nat) (h : k < 24) : ((amt f T).map di).getD k .any = di (sumI (f (k : Int)) T) := by
  rw [getDi _ k (by rw [amt_len]; exact h)]
  unfold amt
  rw [List.getD_eq_getElem?_getD, List.getElem?_map, List.getElem?_range h]
  rfl
set_option maxHeartbeats 4000000 in
theorem fThrough_c (n : Net) (p : Pln) (k : Int) (hz : FckPre n p) (nn : Nm) : CallsA Try.prog 58 [n.enc, p.enc, di k] Hp.none nn (Pu (.tup [di (thrI n p k).1, di (thrI n p k).2]) Hp.none) := by
  obtain ⟨code, h1, h2⟩ := c58_ok
  refine callsA_of TFk_ok mixed (N := fun t => (0, t)) Try.func58 h1 h2 r58_ok [] false js_nil js_nil' (by simp [Try.f58]) ?_
  have hn1 : netOf1 [D.sl (n.nodes.map nmRow), .sl (n.segs.map Seg.row), .sl (n.ports.map Port.row), .sl (n.sts.map Stn.row), di n.vap, di n.set] = some n := netOf1_row n
  have hp1 : plnOf1 [D.sl (p.rates.map iRow), .sl (p.ports.map iRow), .sl (p.pumps.map bRow)] = some p := plnOf1_row p
  by_cases a0 : fckI n p = 0
  · have hv := fck0 a0
    have hf := hv.fl
    by_cases a1 : k < 0
    · simp (config := { maxSteps := 500000 }) only [↓vp, vv, implies_true, forall_const, undef, InI, ↓reduceIte, simprocAttr, c58, r58, c58_1, c58_2, TFk, selNP, Net.enc, Pln.enc, netD, plnD, hn1, hp1, hz, a0, bne_self_eq_false, a1, decide_true, decide_false, thrI, Pu]
    · by_cases a2 : (n.nodes.length : Int) ≤ k
      · simp (config := { maxSteps := 500000 }) only [↓vp, vv, implies_true, forall_const, undef, InI, ↓reduceIte, simprocAttr, c58, r58, c58_1, c58_2, TFk, selNP, Net.enc, Pln.enc, netD, plnD, hn1, hp1, hz, a0, bne_self_eq_false, a1, a2, decide_true, decide_false, thrI, Pu]
      · have hl := hv.net.nl
        have a3 : 0 ≤ k := by omega
        have a4 : k < 24 := by omega
        have a5 : k.toNat + 1 ≤ 24 := by omega
        have g := amt_at comeOf (flowsOf n p) k.toNat (by omega)
        rw [show ((k.toNat : Nat) : Int) = k by omega] at g
        have l1 := amtM_len (flowsOf n p)
        have l2 := amt_len comeOf (flowsOf n p)
        simp (config := { maxSteps := 500000 }) only [↓vp, vv, implies_true, forall_const, undef, InI, ↓reduceIte, simprocAttr, c58, r58, c58_1, c58_2, TFk, selNP, Net.enc, Pln.enc, netD, plnD, hn1, hp1, hz, hf, a0, bne_self_eq_false, a1, a2, a3, a4, a5, g, l1, l2, amt_take, flat_di, Nat.mul_one, decide_true, decide_false, thrI, Pu]
  · have b0 : (fckI n p != 0) = true := by simp [a0]
    simp (config := { maxSteps := 500000 }) only [↓vp, vv, implies_true, forall_const, undef, InI, ↓reduceIte, simprocAttr, c58, r58, c58_1, c58_2, TFk, selNP, Net.enc, Pln.enc, netD, plnD, hn1, hp1, hz, a0, b0, thrI, Pu]
def posI (r : Int) : Int := if 0 < r then r else 0
def negI (r : Int) : Int := if 0 < -r then -r else 0
def feedI (n : Net) (p : Pln) : Int × Int := if fckI n p = 0 then (sumI posI p.ports, sumI negI p.ports) else (0, 0)
theorem pos_b (r : Int) (h : -1000 ≤ r ∧ r ≤ 1000) : (0 ≤ posI r ∧ posI r ≤ 1000) ∧ 0 ≤ negI r ∧ negI r ≤ 1000 := by unfold posI negI; constructor <;> split <;> omega
theorem sum_b {R : List Int} (h : ∀ r ∈ R, -1000 ≤ r ∧ r ≤ 1000) : (0 ≤ sumI posI R ∧ sumI posI R ≤ 1000 * R.length) ∧ 0 ≤ sumI negI R ∧ sumI negI R ≤ 1000 * R.length :=
  ⟨⟨sumI_nn fun r hr => (pos_b r (h r hr)).1.1, sumI_le 1000 fun r hr => (pos_b r (h r hr)).1.2⟩, sumI_nn fun r hr => (pos_b r (h r hr)).2.1, sumI_le 1000 fun r hr => (pos_b r (h r hr)).2.2⟩
theorem sum_take (f : Int → Int) (R : List Int) (j : Nat) (h : j < R.length) : sumI f (R.take (j + 1)) = sumI f (R.take j) + f R[j] := by
  rw [← List.take_append_getElem h, sumI_snoc]
set_option maxHeartbeats 4000000 in
theorem fFeeds_c (n : Net) (p : Pln) (hz : FckPre n p) (nn : Nm) : CallsA Try.prog 53 [n.enc, p.enc] Hp.none nn (Pu (.tup [di (feedI n p).1, di (feedI n p).2, di (fckI n p)]) Hp.none) := by
  obtain ⟨code, h1, h2⟩ := c53_ok
  refine callsA_of TFk_ok mixed (N := fun t => (0, t)) Try.func53 h1 h2 r53_ok [] false js_nil js_nil' (by simp [Try.f53]) ?_
  have hn1 : netOf1 [D.sl (n.nodes.map nmRow), .sl (n.segs.map Seg.row), .sl (n.ports.map Port.row), .sl (n.sts.map Stn.row), di n.vap, di n.set] = some n := netOf1_row n
  have hp1 : plnOf1 [D.sl (p.rates.map iRow), .sl (p.ports.map iRow), .sl (p.pumps.map bRow)] = some p := plnOf1_row p
  by_cases a0 : fckI n p = 0
  · have hv := fck0 a0
    have hpl := hv.pl
    have hql := hv.net.ql
    simp (config := { maxSteps := 500000 }) only [↓vp, vv, implies_true, forall_const, undef, InI, ↓reduceIte, simprocAttr, c53, r53, c53_1, c53_2, c53_3, c53_4, TFk, selNP, Net.enc, Pln.enc, netD, plnD, hn1, hp1, hz, a0, bne_self_eq_false]
    refine rng_loop p.ports.length (fun j => ⟨fr [(8, di (sumI posI (p.ports.take j))), (9, di (sumI negI (p.ports.take j))), (19, .sl (p.ports.map iRow)), (20, di p.ports.length), (21, di j)], Hp.none⟩) (fun _ => True) (weak0 (by simp (config := { maxSteps := 500000 }) only [↓vp, vv, implies_true, forall_const, undef, InI, ↓reduceIte, simprocAttr, coverS, sumI]) (by simp (config := { maxSteps := 500000 }) only [↓vp, vv, implies_true, forall_const, undef, InI, ↓reduceIte, simprocAttr, refsF])) trivial (fun j hj _ => ?_) (fun _ => ?_)
    · have hj' : (j : Int) < p.ports.length := by omega
      have hn := idx_nn j
      have w1 := idx_next (j := j) (by omega)
      have hg := iRow_at p.ports j hj
      have e1 := sum_take posI p.ports j hj
      have e2 := sum_take negI p.ports j hj
      have hb := hv.pb _ (List.getElem_mem hj)
      have hs := sum_b (R := p.ports.take j) fun r hr => hv.pb r (List.mem_of_mem_take hr)
      have hlt : (p.ports.take j).length = j := by rw [List.length_take]; omega
      rw [hlt] at hs
      have hpb := pos_b _ hb
      generalize p.ports[j] = r at hg e1 e2 hb hpb
      have wn : IntKind.i64.wrap (0 - r) = -r := by rw [wrap_i (by omega)]; omega
      have m1 : (if 0 < r then r else 0) = posI r := rfl
      have m2 : (if 0 < -r then -r else 0) = negI r := rfl
      have w2 : IntKind.i64.wrap (sumI posI (p.ports.take j) + posI r) = sumI posI (p.ports.take (j + 1)) := by rw [e1]; exact wrap_i (by omega)
      have w3 : IntKind.i64.wrap (sumI negI (p.ports.take j) + negI r) = sumI negI (p.ports.take (j + 1)) := by rw [e2]; exact wrap_i (by omega)
      simp (config := { maxSteps := 500000 }) only [↓vp, vv, implies_true, forall_const, undef, InI, ↓reduceIte, simprocAttr, c53, r53, c53_1, c53_2, c53_3, c53_4, hj', hn, Int.toNat_natCast, hg, w1, wn, m1, m2, w2, w3]
      exact rng_next hj (weak0 (by simp (config := { maxSteps := 500000 }) only [↓vp, vv, implies_true, forall_const, undef, InI, ↓reduceIte, simprocAttr, coverS, w1, w2, w3]) (by simp (config := { maxSteps := 500000 }) only [↓vp, vv, implies_true, forall_const, undef, InI, ↓reduceIte, simprocAttr, refsF])) trivial
    · have hf : feedI n p = (sumI posI p.ports, sumI negI p.ports) := if_pos a0
      simp (config := { maxSteps := 500000 }) only [↓vp, vv, implies_true, forall_const, undef, InI, ↓reduceIte, simprocAttr, c53, r53, c53_1, c53_2, c53_3, c53_4, Int.lt_irrefl, List.take_length, hf, a0, Pu]
  · have b0 : (fckI n p != 0) = true := by simp [a0]
    have hf : feedI n p = (0, 0) := if_neg a0
    simp (config := { maxSteps := 500000 }) only [↓vp, vv, implies_true, forall_const, undef, InI, ↓reduceIte, simprocAttr, c53, r53, c53_1, c53_2, c53_3, c53_4, TFk, selNP, Net.enc, Pln.enc, netD, plnD, hn1, hp1, hz, b0, hf, Pu]
end Go.Proofs.Ytkjibmfggeibjaa

/- Plans out of a source: plain laws. -/
namespace Go.Proofs.Ytkjibmfggeibjaa
open Go
set_option linter.unusedVariables false
set_option linter.unusedSimpArgs false
set_option maxRecDepth 100000

theorem zip_at {α β : Type} : ∀ {l : List α} {m : List β} {x : α × β}, x ∈ l.zip m → ∃ k : Nat, l[k]? = some x.1 ∧ m[k]? = some x.2
  | [], m, x, h => by cases h
  | a :: l, [], x, h => by cases h
  | a :: l, b :: m, x, h => by
    rw [List.zip_cons_cons] at h
    rcases List.mem_cons.1 h with h | h
    · subst h; exact ⟨0, rfl, rfl⟩
    · obtain ⟨k, h1, h2⟩ := zip_at h
      exact ⟨k + 1, by simpa using h1, by simpa using h2⟩
theorem zip_of {α β : Type} : ∀ {l : List α} {m : List β} {k : Nat} {a : α} {b : β}, l[k]? = some a → m[k]? = some b → (a, b) ∈ l.zip m
  | [], m, k, a, b, h, _ => by simp at h
  | x :: l, [], k, a, b, _, h => by simp at h
  | x :: l, y :: m, 0, a, b, h1, h2 => by simp at h1 h2; subst h1; subst h2; exact List.mem_cons_self ..
  | x :: l, y :: m, k + 1, a, b, h1, h2 => List.mem_cons_of_mem _ (zip_of (by simpa using h1) (by simpa using h2))
theorem sum_set {α β γ : Type} (f : γ → Int) (g : α → β → γ) : ∀ (l : List α) (m : List β) (k : Nat) (a : α) (b y : β), l[k]? = some a → m[k]? = some b → sumI f (List.zipWith g l (m.set k y)) = sumI f (List.zipWith g l m) - f (g a b) + f (g a y)
  | [], m, k, a, b, y, h, _ => by simp at h
  | x :: l, [], k, a, b, y, _, h => by simp at h
  | x :: l, z :: m, 0, a, b, y, h1, h2 => by
    simp at h1 h2; subst h1; subst h2
    simp only [List.set_cons_zero, List.zipWith_cons_cons, sumI]
    omega
  | x :: l, z :: m, k + 1, a, b, y, h1, h2 => by
    have := sum_set f g l m k a b y (by simpa using h1) (by simpa using h2)
    simp only [List.set_cons_succ, List.zipWith_cons_cons, sumI]
    omega
theorem net_lin (v f t r d : Int) : netOf v (f, t, r + d) = netOf v (f, t, r) + netOf v (f, t, d) := by
  unfold netOf
  dsimp only
  split <;> split <;> omega
def minC (c : Int) : Int := if 1000 < c then 1000 else c
def RateIn (x : Seg × Int) : Prop := -(minC x.1.cap) ≤ x.2 ∧ x.2 ≤ minC x.1.cap
structure PR (n : Net) (R : List Int) : Prop where
  rl : R.length = n.segs.length
  rb : ∀ x ∈ n.segs.zip R, RateIn x
  up : ∀ x ∈ n.segs.zip R, UpOk x
def segD (n : Net) (rate : Int) (k : Nat) : Fl := match n.segs[k]? with
  | some s => (s.fr, s.to, if s.fr < s.to then rate else -rate)
  | none => (-1, -1, 0)
def bump (n : Net) (rate : Int) (R : List Int) (k : Nat) : List Int := R.set k (R.getD k 0 + (segD n rate k).2.2)
def absI (n : Int) : Int := if n < -n then -n else n
def Room (n : Net) (rate : Int) (R : List Int) (k : Nat) : Prop := ∃ s r, n.segs[k]? = some s ∧ R[k]? = some r ∧ s.fr ≠ s.to ∧ absI r + rate ≤ minC s.cap
theorem bump_one {n : Net} {rate : Int} {R : List Int} {k : Nat} (h : PR n R) (hr : Room n rate R k) (h1 : 1 ≤ rate) : PR n (bump n rate R k) ∧ (∀ v : Int, sumI (netOf v) (List.zipWith segFl n.segs (bump n rate R k)) = sumI (netOf v) (List.zipWith segFl n.segs R) + netOf v (segD n rate k)) ∧ ∀ j, j ≠ k → (bump n rate R k)[j]? = R[j]? := by
  obtain ⟨s, r, hs, hR, hne, hroom⟩ := hr
  have hd : segD n rate k = (s.fr, s.to, if s.fr < s.to then rate else -rate) := by unfold segD; rw [hs]
  have hg : R.getD k 0 = r := by rw [List.getD_eq_getElem?_getD, hR]; rfl
  have hb : bump n rate R k = R.set k (r + if s.fr < s.to then rate else -rate) := by unfold bump; rw [hg, hd]
  have hu := h.up (s, r) (zip_of hs hR)
  have hi := h.rb (s, r) (zip_of hs hR)
  unfold UpOk frOf toOf at hu
  unfold RateIn at hi
  dsimp only at hu hi
  rw [hb]
  have hother : ∀ j y, j ≠ k → (R.set k y)[j]? = R[j]? := fun j y hj => by rw [List.getElem?_set_ne (Ne.symm hj)]
  have mem : ∀ y x, x ∈ n.segs.zip (R.set k y) → x ∈ n.segs.zip R ∨ x = (s, y) := fun y x hx => by
    obtain ⟨j, j1, j2⟩ := zip_at hx
    by_cases e : j = k
    · subst e
      rw [hs] at j1
      rw [List.getElem?_set_self (by rcases Nat.lt_or_ge j R.length with h | h; exact h; rw [List.getElem?_eq_none h] at hR; cases hR)] at j2
      right
      obtain ⟨x1, x2⟩ := x
      cases j1; cases j2; rfl
    · rw [hother j y e] at j2
      exact .inl (zip_of j1 j2)
  refine ⟨⟨by rw [List.length_set]; exact h.rl, fun x hx => ?_, fun x hx => ?_⟩, fun v => ?_, fun j hj => hother j _ hj⟩
  · rcases mem _ x hx with hx | rfl
    · exact h.rb x hx
    · unfold RateIn
      dsimp only
      unfold absI at hroom
      split at hroom <;> split <;> omega
  · rcases mem _ x hx with hx | rfl
    · exact h.up x hx
    · unfold UpOk frOf toOf
      dsimp only
      intro hz
      by_cases h3 : s.fr < s.to
      · simp only [h3, if_true]
        have : 0 ≤ r := by
          rcases Int.lt_or_le r 0 with h4 | h4
          · have := hu (by omega); rw [if_pos h4, if_pos h4] at this; omega
          · exact h4
        rw [if_neg (by omega), if_neg (by omega)]
        exact h3
      · simp only [h3, if_false]
        have : r ≤ 0 := by
          rcases Int.lt_or_le 0 r with h4 | h4
          · have := hu (by omega); rw [if_neg (by omega), if_neg (by omega)] at this; omega
          · exact h4
        rw [if_pos (by omega), if_pos (by omega)]
        omega
  · rw [sum_set (netOf v) segFl n.segs R k s r _ hs hR, hd]
    unfold segFl
    rw [net_lin]
    omega
theorem bump_all {n : Net} {rate : Int} (h1 : 1 ≤ rate) : ∀ (W : List Nat) {R : List Int}, PR n R → W.Nodup → (∀ k ∈ W, Room n rate R k) → PR n (W.foldl (bump n rate) R) ∧ (∀ v : Int, sumI (netOf v) (List.zipWith segFl n.segs (W.foldl (bump n rate) R)) = sumI (netOf v) (List.zipWith segFl n.segs R) + sumI (fun k => netOf v (segD n rate k)) W)
  | [], R, h, _, _ => ⟨h, fun v => by simp [sumI]⟩
  | k :: W, R, h, hnd, hr => by
    obtain ⟨a, b, c⟩ := bump_one h (hr k (List.mem_cons_self ..)) h1
    have hnd := List.nodup_cons.1 hnd
    obtain ⟨d, e⟩ := bump_all h1 W a hnd.2 fun j hj => by
      obtain ⟨s, r, x1, x2, x3⟩ := hr j (List.mem_cons_of_mem _ hj)
      exact ⟨s, r, x1, by rw [c j fun e => hnd.1 (e ▸ hj)]; exact x2, x3⟩
    refine ⟨d, fun v => ?_⟩
    rw [List.foldl_cons, e v, b v, sumI]
    omega
structure Way (n : Net) (R : List Int) (rate at0 at' : Int) (W : List Nat) : Prop where
  room : ∀ k ∈ W, Room n rate R k
  low : ∀ k ∈ W, ∃ s, n.segs[k]? = some s ∧ (s.fr < at' ∨ s.to < at')  ∧ (s.fr < at' → s.to ≤ at') ∧ (s.to < at' → s.fr ≤ at')
  nd : W.Nodup
  net : ∀ v : Int, sumI (fun k => netOf v (segD n rate k)) W = (if at' = v then rate else 0) - (if at0 = v then rate else 0)
theorem Way.nil (n : Net) (R : List Int) (rate at0 : Int) : Way n R rate at0 at0 [] := ⟨fun k h => (by cases h), fun k h => (by cases h), List.nodup_nil, fun v => by rw [sumI]; omega⟩
theorem Way.add {n : Net} {R : List Int} {rate at0 at' : Int} {W : List Nat} (h : Way n R rate at0 at' W) {k : Nat} {s : Seg} {r : Int} (hs : n.segs[k]? = some s) (hR : R[k]? = some r) (he : s.fr = at' ∨ s.to = at') (hup : at' < s.fr + s.to - at') (hroom : absI r + rate ≤ minC s.cap) :
    Way n R rate at0 (s.fr + s.to - at') (W ++ [k]) := by
  have hk : k ∉ W := fun hk => by
    obtain ⟨s', h1, h2, h3, h4⟩ := h.low k hk
    rw [hs] at h1
    cases h1
    omega
  refine ⟨fun j hj => ?_, fun j hj => ?_, ?_, fun v => ?_⟩
  · rcases List.mem_append.1 hj with hj | hj
    · exact h.room j hj
    · rw [List.mem_singleton.1 hj]
      exact ⟨s, r, hs, hR, by omega, hroom⟩
  · rcases List.mem_append.1 hj with hj | hj
    · obtain ⟨s', h1, h2, h3, h4⟩ := h.low j hj
      exact ⟨s', h1, by omega, by omega, by omega⟩
    · rw [List.mem_singleton.1 hj]
      exact ⟨s, hs, by omega, by omega, by omega⟩
  · rw [List.nodup_append]
    exact ⟨h.nd, by simp, fun a ha b hb => by rw [List.mem_singleton.1 hb]; exact fun e => hk (e ▸ ha)⟩
  · rw [sumI_snoc, h.net v]
    unfold segD
    rw [hs]
    unfold netOf
    dsimp only
    have neg : ∀ (c : Prop) [Decidable c], (if c then -rate else 0) = -(if c then rate else 0) := fun c _ => by split <;> omega
    rcases he with he | he
    · subst he
      rw [if_pos (by omega : s.fr < s.to), show s.fr + s.to - s.fr = s.to by omega]
      omega
    · subst he
      rw [if_neg (by omega : ¬ s.fr < s.to), show s.fr + s.to - s.to = s.fr by omega, neg, neg]
      omega
structure PG (n : Net) (R Q : List Int) : Prop where
  pr : PR n R
  ql : Q.length = n.ports.length
  qb : ∀ r ∈ Q, -1000 ≤ r ∧ r ≤ 1000
  bal : ∀ v : Nat, sumI (netOf (v : Int)) (flowsOf n ⟨R, Q, []⟩) = 0
theorem pg_step {n : Net} {R Q : List Int} {rate at0 at' : Int} {W : List Nat} {a e : Nat} {x y : Port} {qa qe : Int} (h : PG n R Q) (hw : Way n R rate at0 at' W) (h1 : 1 ≤ rate) (ha : n.ports[a]? = some x) (he : n.ports[e]? = some y) (hne : a ≠ e) (hx : x.node = at0) (hy : y.node = at')
    (hqa : Q[a]? = some qa) (hqe : Q[e]? = some qe) (h2 : 0 ≤ qa) (h3 : qa + rate ≤ 1000) (h4 : qe ≤ 0) (h5 : -1000 ≤ qe - rate) : PG n (W.foldl (bump n rate) R) ((Q.set a (qa + rate)).set e (qe - rate)) := by
  obtain ⟨b1, b2⟩ := bump_all h1 W h.pr hw.nd hw.room
  refine ⟨b1, by rw [List.length_set, List.length_set]; exact h.ql, fun r hr => ?_, fun v => ?_⟩
  · rcases List.mem_or_eq_of_mem_set hr with hr | rfl
    · rcases List.mem_or_eq_of_mem_set hr with hr | rfl
      · exact h.qb r hr
      · omega
    · omega
  · have hb := h.bal v
    unfold flowsOf at hb ⊢
    rw [sumI_app] at hb ⊢
    dsimp only at hb ⊢
    have hqe' : (Q.set a (qa + rate))[e]? = some qe := by rw [List.getElem?_set_ne hne]; exact hqe
    rw [b2, sum_set (netOf v) portFl n.ports _ e y qe _ he hqe', sum_set (netOf v) portFl n.ports Q a x qa _ ha hqa, hw.net]
    have pf : ∀ (x : Port) (r : Int), portFl x r = (-1, x.node, r) := fun _ _ => rfl
    simp only [pf, hx, hy]
    rw [show qe - rate = qe + -rate by omega, net_lin, net_lin]
    unfold netOf at *
    dsimp only at *
    have : ¬ ((-1 : Int) = (v : Int)) := by omega
    simp only [this, if_false]
    have neg : ∀ (c : Prop) [Decidable c], (if c then -rate else 0) = -(if c then rate else 0) := fun c _ => by split <;> omega
    rw [neg]
    omega
/-- What a plan is that a source yields. -/
structure PlanOk (n : Net) (p : Pln) : Prop where
  rl : p.rates.length = n.segs.length
  ql : p.ports.length = n.ports.length
  ul : p.pumps.length = n.sts.length
  rb : ∀ x ∈ n.segs.zip p.rates, RateIn x
  qb : ∀ r ∈ p.ports, -1000 ≤ r ∧ r ≤ 1000
  bal : ∀ v : Nat, sumI (netOf (v : Int)) (flowsOf n p) = 0
  mono : (∀ x ∈ n.segs.zip p.rates, UpOk x) ∨ ∀ x ∈ n.segs.zip p.rates, DownOk x
theorem PG.ok {n : Net} {R Q : List Int} (h : PG n R Q) {U : List Bool} (hu : U.length = n.sts.length) : PlanOk n ⟨R, Q, U⟩ := ⟨h.pr.rl, h.ql, hu, h.pr.rb, h.qb, h.bal, .inl h.pr.up⟩
def negP (p : Pln) : Pln := ⟨p.rates.map (- ·), p.ports.map (- ·), p.pumps⟩
theorem sum_neg {α : Type} (v : Int) (g : α → Int → Fl) (hg : ∀ a r, netOf v (g a (-r)) = - netOf v (g a r)) : ∀ (l : List α) (m : List Int), sumI (netOf v) (List.zipWith g l (m.map (- ·))) = - sumI (netOf v) (List.zipWith g l m)
  | [], m => by simp [sumI]
  | a :: l, [] => by simp [sumI]
  | a :: l, r :: m => by
    have := sum_neg v g hg l m
    have := hg a r
    simp only [List.map_cons, List.zipWith_cons_cons, sumI]
    omega
theorem PlanOk.neg {n : Net} {p : Pln} (h : PlanOk n p) : PlanOk n (negP p) := by
  have mem : ∀ x, x ∈ n.segs.zip (p.rates.map (- ·)) → (x.1, -x.2) ∈ n.segs.zip p.rates := fun x hx => by
    obtain ⟨k, h1, h2⟩ := zip_at hx
    rw [List.getElem?_map] at h2
    cases e : p.rates[k]? with
    | none => rw [e] at h2; cases h2
    | some r =>
      rw [e] at h2
      have : x.2 = -r := by simp at h2; omega
      rw [this, Int.neg_neg]
      exact zip_of h1 e
  have tu : ∀ x, UpOk (x.1, -x.2) → DownOk x := fun x hx hz => by
    have := hx (by dsimp only; omega)
    unfold frOf toOf at this ⊢
    dsimp only at this
    split at this <;> split <;> omega
  have td : ∀ x, DownOk (x.1, -x.2) → UpOk x := fun x hx hz => by
    have := hx (by dsimp only; omega)
    unfold frOf toOf at this ⊢
    dsimp only at this
    split at this <;> split <;> omega
  refine ⟨by simp [negP]; exact h.rl, by simp [negP]; exact h.ql, h.ul, fun x hx => ?_, fun r hr => ?_, fun v => ?_, ?_⟩
  · have := h.rb _ (mem x hx)
    unfold RateIn at this ⊢
    dsimp only at this
    omega
  · obtain ⟨q, hq, rfl⟩ := List.mem_map.1 hr
    have := h.qb q hq
    omega
  · have := h.bal v
    unfold flowsOf at this ⊢
    rw [sumI_app] at this ⊢
    dsimp only [negP]
    rw [sum_neg v segFl (fun a r => by unfold segFl netOf; dsimp only; split <;> split <;> omega), sum_neg v portFl (fun a r => by unfold portFl netOf; dsimp only; split <;> split <;> omega)]
    omega
  · rcases h.mono with hm | hm
    · exact .inr fun x hx => tu x (hm _ (mem x hx))
    · exact .inl fun x hx => td x (hm _ (mem x hx))
end Go.Proofs.Ytkjibmfggeibjaa
/- Compiled code of some functions (printed by a program), each checked by the kernel. -/
namespace Go.Proofs.Ytkjibmfggeibjaa
open Go
set_option maxRecDepth 100000
def c20_1 : C := (.seq (.block 1 (.ops true [oP 38 (.fa 2 (.t 5)), oA 39 (.ld 1 false (.t 38)) [0], oP 40 (.mv (.t 0)), ⟨(.some 41), Option.none, (.call 24 [(.t 40), (cI 2)]), 41, [2], true⟩, oA 42 (.bin .eql (.t 41) (cI 0)) [2, 3], oA 43 (.bsl 1 1 [(.v (.bool false))] [(0, (.t 42))]) [3, 2, 4], oA 44 (.app 1 1 (.t 39) (.t 43)) [4, 2, 0, 3, 5, 1], oA 45 (.fa 2 (.t 5)) [6, 5, 4, 3, 2, 1, 0], ⟨Option.none,
  Option.none, (.st 1 (.t 45) (.t 44)), 0, [5, 4, 3, 2, 1, 0, 6, 7], false⟩])) (.ops false [oP 36 (.mv (.t 6)), oP 37 (.bin .add (.t 36) (cI 1)), oP 6 (.mv (.t 37))]))
def c20_2 : C := (.seq (.seq (.ops false [oP 31 (.mv (.t 6)), oP 32 (.fa 3 (.t 3)), oP 33 (.ld 1 false (.t 32)), oP 34 (.len (.t 33)), oP 35 (.bin .lss (.t 31) (.t 34))]) (.cond (.t 35) .skip (.exit 0))) c20_1)
def c20_3 : C := (.ops false [oP 135 (.bin .add (.t 92) (cI 1)), oP 92 (.mv (.t 135))])
def c20_4 : C := (.seq (.block 7 (.seq (.ops false [oP 94 (.mv (.t 92)), oP 95 (.iaS 3 (.t 90) (.t 92)), oP 96 (.ld 3 true (.t 95)), oP 15 (.new [(.v (.string ({ data := #[] }))), (.v (.int .i64 0)), (.v (.int .i64 0))]), oP 14 (.mv (.t 94)), oS (.st 3 (.t 15) (.t 96))]) (.seq (.ops false [oP 97 (.fa 1 (.t 15)), oP 98 (.ld 1 false (.t 97)), oP 99 (.mv (.t 10)), oP 100 (.bin .eql (.t 98) (.t 99)),
  oP 101 (.mv (.t 100)), oG 102 101 true (.mv (.t 14)), oG 103 101 true (.mv (.t 9)), oG 104 101 true (.bin .neq (.t 102) (.t 103)), oP 105 (.pick (.t 101) (.t 104) (cB false)), oP 106 (.mv (.t 105)), oG 107 106 true (.fa 1 (.t 5)), oG 108 106 true (.ld 1 false (.t 107)), oG 109 106 true (.mv (.t 14)), oG 110 106 true (.iaS 1 (.t 108) (.t 109)), oG 111 106 true (.ld 1 false (.t 110)),
  oG 112 106 true (.bin .leq (.t 111) (cI 0)), oP 113 (.pick (.t 106) (.t 112) (cB false)), oP 114 (.mv (.t 113)), oG 115 114 true (.fa 1 (.t 5)), oG 116 114 true (.ld 1 false (.t 115)), oG 117 114 true (.mv (.t 14)), oG 118 114 true (.iaS 1 (.t 116) (.t 117)), oG 119 114 true (.ld 1 false (.t 118)), oG 120 114 true (.mv (.t 11)), oG 121 114 true (.bin .sub (.t 119) (.t 120)),
  oG 122 114 true (.bin .geq (.t 121) (cI (-1000))), oP 123 (.pick (.t 114) (.t 122) (cB false)), oP 124 (.mv (.t 123)), oG 125 124 true (.mv (.t 12)), oG 126 124 true (.len (.t 125)), oG 127 124 true (.bin .gtr (.t 126) (cI 0)), oP 128 (.pick (.t 124) (.t 127) (cB false)), oP 129 (.mv (.t 128)), oG 130 129 true (.mv (.t 0)), ⟨(.some 131), (.some (129, true)), (.call 24 [(.t 130), (cI 2)]), 131, [],
  true⟩, oG 132 129 true (.bin .eql (.t 131) (cI 0)), oP 133 (.pick (.t 129) (.t 132) (cB false))]) (.cond (.t 133) (.ops false [oP 134 (.mv (.t 14)), oP 13 (.mv (.t 134))]) .skip)))) c20_3)
def c20_5 : C := (.seq (.ops false [oP 93 (.bin .lss (.t 92) (.t 91))]) (.seq (.cond (.t 93) .skip (.exit 6)) c20_4))
def c20_6 : C := (.ops false [oP 185 (.bin .add (.t 141) (cI 1)), oP 141 (.mv (.t 185))])
def c20_7 : C := (.seq (.block 9 (.seq (.ops false [oP 143 (.mv (.t 141)), oP 144 (.iaS 7 (.t 139) (.t 141)), oP 145 (.ld 7 true (.t 144)), oP 18 (.new [(.v (.string ({ data := #[] }))), (.v (.int .i64 0)), (.v (.int .i64 0)), (.v (.int .i64 0)), (.v (.int .i64 0)), (.v (.int .i64 0)), .mt]), oP 17 (.mv (.t 143)), oS (.st 7 (.t 18) (.t 145))]) (.seq (.ops true [oP 146 (.fa 1 (.t 18)), oA 147 (.ld 1 false (.t 146))
  [0], oP 148 (.mv (.t 10)), oA 149 (.bin .eql (.t 147) (.t 148)) [0, 2, 1], oA 150 (.mv (.t 149)) [1, 2, 0, 3], ⟨(.some 151), (.some (150, false)), (.fa 2 (.t 18)), 151, [3, 0, 2, 1, 4], false⟩, ⟨(.some 152), (.some (150, false)), (.ld 1 false (.t 151)), 152, [1, 2, 0, 3, 4, 5], false⟩, ⟨(.some 153), (.some (150, false)), (.mv (.t 10)), 153, [3, 0, 2, 1, 4], false⟩, ⟨(.some 154), (.some (150,
  false)), (.bin .eql (.t 152) (.t 153)), 154, [5, 3, 0, 2, 1, 4, 7, 6], false⟩, oA 155 (.pick (.t 150) (cB true) (.t 154)) [6, 7, 5, 3, 0, 2, 1, 8, 4], oA 156 (.mv (.t 155)) [8, 1, 2, 0, 3, 5, 7, 6, 4, 9], ⟨(.some 157), (.some (156, true)), (.fa 1 (.t 18)), 157, [9, 4, 6, 7, 5, 3, 0, 2, 1, 8, 10], false⟩, ⟨(.some 158), (.some (156, true)), (.ld 1 false (.t 157)), 158, [8, 1, 2, 0, 3, 5, 7, 6, 4, 9,
  10, 11], false⟩, ⟨(.some 159), (.some (156, true)), (.fa 2 (.t 18)), 159, [9, 4, 6, 7, 5, 3, 0, 2, 1, 8, 10], false⟩, ⟨(.some 160), (.some (156, true)), (.ld 1 false (.t 159)), 160, [8, 1, 2, 0, 3, 5, 7, 6, 4, 9, 10, 13], false⟩, ⟨(.some 161), (.some (156, true)), (.bin .add (.t 158) (.t 160)), 161, [13, 11, 9, 4, 6, 7, 5, 3, 0, 2, 1, 8, 10, 14, 12], false⟩, ⟨(.some 162), (.some (156, true)),
  (.mv (.t 10)), 162, [9, 4, 6, 7, 5, 3, 0, 2, 1, 8, 10], false⟩, ⟨(.some 163), (.some (156, true)), (.bin .sub (.t 161) (.t 162)), 163, [12, 14, 8, 1, 2, 0, 3, 5, 7, 6, 4, 9, 11, 13, 10, 16, 15], false⟩, ⟨(.some 164), (.some (156, true)), (.mv (.t 10)), 164, [9, 4, 6, 7, 5, 3, 0, 2, 1, 8, 10], false⟩, ⟨(.some 165), (.some (156, true)), (.bin .gtr (.t 163) (.t 164)), 165, [15, 16, 13, 11, 9, 4, 6,
  7, 5, 3, 0, 2, 1, 8, 14, 12, 10, 18, 17], false⟩, oA 166 (.pick (.t 156) (.t 165) (cB false)) [17, 18, 12, 14, 11, 13, 16, 15, 9, 4, 6, 7, 5, 3, 0, 2, 1, 8, 19, 10], oA 167 (.mv (.t 166)) [19, 8, 1, 2, 0, 3, 5, 7, 6, 4, 9, 15, 16, 13, 11, 14, 12, 18, 17, 10, 20], ⟨(.some 168), (.some (167, true)), (.fa 0 (.t 5)), 168, [20, 10, 17, 18, 12, 14, 11, 13, 16, 15, 9, 4, 6, 7, 5, 3, 0, 2, 1, 8, 19, 21],
  false⟩, ⟨(.some 169), (.some (167, true)), (.ld 1 false (.t 168)), 169, [19, 8, 1, 2, 0, 3, 5, 7, 6, 4, 9, 15, 16, 13, 11, 14, 12, 18, 17, 10, 20, 21, 22], false⟩, ⟨(.some 170), (.some (167, true)), (.mv (.t 17)), 170, [20, 10, 17, 18, 12, 14, 11, 13, 16, 15, 9, 4, 6, 7, 5, 3, 0, 2, 1, 8, 19, 21], false⟩, ⟨(.some 171), (.some (167, true)), (.iaS 1 (.t 169) (.t 170)), 171, [22, 20, 10, 17, 18, 12,
  14, 11, 13, 16, 15, 9, 4, 6, 7, 5, 3, 0, 2, 1, 8, 19, 21, 24, 23], false⟩, ⟨(.some 172), (.some (167, true)), (.ld 1 false (.t 171)), 172, [23, 24, 19, 8, 1, 2, 0, 3, 5, 7, 6, 4, 9, 15, 16, 13, 11, 14, 12, 18, 17, 10, 20, 22, 21, 25], false⟩, ⟨(.some 173), (.some (167, true)), (.call 82 [(.t 172)]), 173, [25, 22, 20, 10, 17, 18, 12, 14, 11, 13, 16, 15, 9, 4, 6, 7, 5, 3, 0, 2, 1, 8, 19, 24, 23, 21,
  26], true⟩, ⟨(.some 174), (.some (167, true)), (.mv (.t 11)), 174, [20, 10, 17, 18, 12, 14, 11, 13, 16, 15, 9, 4, 6, 7, 5, 3, 0, 2, 1, 8, 19, 21], false⟩, ⟨(.some 175), (.some (167, true)), (.bin .add (.t 173) (.t 174)), 175, [26, 23, 24, 19, 8, 1, 2, 0, 3, 5, 7, 6, 4, 9, 15, 16, 13, 11, 14, 12, 18, 17, 10, 20, 22, 25, 21, 28, 27], false⟩, ⟨(.some 176), (.some (167, true)), (.fa 3 (.t 18)), 176,
  [20, 10, 17, 18, 12, 14, 11, 13, 16, 15, 9, 4, 6, 7, 5, 3, 0, 2, 1, 8, 19, 21], false⟩, ⟨(.some 177), (.some (167, true)), (.ld 1 false (.t 176)), 177, [19, 8, 1, 2, 0, 3, 5, 7, 6, 4, 9, 15, 16, 13, 11, 14, 12, 18, 17, 10, 20, 21, 30], false⟩, ⟨(.some 178), (.some (167, true)), (.mnx false (cI 1000) (.t 177)), 178, [30, 20, 10, 17, 18, 12, 14, 11, 13, 16, 15, 9, 4, 6, 7, 5, 3, 0, 2, 1, 8, 19, 21,
  31], false⟩, ⟨(.some 179), (.some (167, true)), (.bin .leq (.t 175) (.t 178)), 179, [31, 30, 27, 28, 25, 22, 20, 10, 17, 18, 12, 14, 11, 13, 16, 15, 9, 4, 6, 7, 5, 3, 0, 2, 1, 8, 19, 24, 23, 26, 21, 32, 29], false⟩, oA 180 (.pick (.t 167) (.t 179) (cB false)) [29, 32, 26, 23, 24, 22, 25, 28, 27, 30, 31, 20, 10, 17, 18, 12, 14, 11, 13, 16, 15, 9, 4, 6, 7, 5, 3, 0, 2, 1, 8, 19, 33, 21]])
  (.cond (.t 180) (.ops false [oP 181 (.mv (.t 16)), oP 182 (.mv (.t 17)), oP 183 (.bsl 1 1 [(.v (.int .i64 0))] [(0, (.t 182))]), oP 184 (.app 1 8 (.t 181) (.t 183)), oP 16 (.mv (.t 184))]) .skip)))) c20_6)
def c20_8 : C := (.seq (.ops false [oP 142 (.bin .lss (.t 141) (.t 140))]) (.seq (.cond (.t 142) .skip (.exit 8)) c20_7))
def c20_9 : C := (.seq (.ops false [oP 189 (.mv (.t 16)), oP 190 (.mv (.t 0)), oP 191 (.mv (.t 16)), oP 192 (.len (.t 191)), oB 193 (.call 24 [(.t 190), (.t 192)]), oP 194 (.iaS 1 (.t 189) (.t 193)), oP 195 (.ld 1 false (.t 194)), oP 19 (.mv (.t 195))]) (.seq (.ops false [oP 196 (.mv (.t 12)), oP 197 (.mv (.t 19)), oP 198 (.bsl 1 1 [(.v (.int .i64 0))] [(0, (.t 197))]), oP 199 (.app 1 8 (.t 196) (.t 198)),
  oP 12 (.mv (.t 199))]) (.ops true [oP 200 (.fa 1 (.t 3)), oA 201 (.ld 1 false (.t 200)) [0], oP 202 (.mv (.t 19)), oA 203 (.iaS 7 (.t 201) (.t 202)) [0, 2, 1], oA 204 (.fa 1 (.t 203)) [1, 2, 0, 3], oA 205 (.ld 1 false (.t 204)) [3, 0, 2, 1, 4], oP 206 (.fa 1 (.t 3)), oA 207 (.ld 1 false (.t 206)) [6], oP 208 (.mv (.t 19)), oA 209 (.iaS 7 (.t 207) (.t 208)) [6, 8, 7], oA 210 (.fa 2 (.t 209)) [7, 8,
  6, 9], oA 211 (.ld 1 false (.t 210)) [9, 6, 8, 7, 10], oA 212 (.bin .add (.t 205) (.t 211)) [10, 7, 8, 6, 9, 4, 1, 2, 0, 3, 11, 5], oP 213 (.mv (.t 10)), oA 214 (.bin .sub (.t 212) (.t 213)) [5, 11, 3, 0, 2, 1, 4, 9, 6, 8, 7, 10, 13, 12], oA 10 (.mv (.t 214)) [13, 12, 11, 10, 9, 8, 7, 6, 5, 4, 3, 2, 1, 0, 14]])))
def c20_10 : C := (.seq (.seq (.ops false [oP 186 (.mv (.t 16)), oP 187 (.len (.t 186)), oP 188 (.bin .eql (.t 187) (cI 0))]) (.cond (.t 188) (.exit 4) .skip)) c20_9)
def c20_11 : C := (.seq (.ops false [oP 16 (.mv (.c .mt))]) (.seq (.seq (.ops false [oP 138 (.fa 1 (.t 3)), oP 139 (.ld 1 false (.t 138)), oP 140 (.len (.t 139)), oP 141 (.mv (cI 0))]) (.block 8 (.loop c20_8))) c20_10))
def c20_12 : C := (.seq (.seq (.ops false [oP 136 (.mv (.t 13)), oP 137 (.bin .geq (.t 136) (cI 0))]) (.cond (.t 137) (.exit 4) .skip)) c20_11)
def c20_13 : C := (.block 5 (.seq (.seq (.ops false [oP 89 (.fa 2 (.t 3)), oP 90 (.ld 1 false (.t 89)), oP 91 (.len (.t 90)), oP 92 (.mv (cI 0))]) (.block 6 (.loop c20_5))) c20_12))
def c20_14 : C := (.seq (.seq (.ops false [oP 87 (.mv (.t 13)), oP 88 (.bin .lss (.t 87) (cI 0))]) (.cond (.t 88) .skip (.exit 4))) c20_13)
def c20_15 : C := (.ops false [oP 274 (.bin .add (.t 241) (cI 1)), oP 241 (.mv (.t 274))])
def c20_16 : C := (.seq (.block 11 (.seq (.ops false [oP 243 (.iaS 1 (.t 239) (.t 241)), oP 244 (.ld 1 false (.t 243)), oP 21 (.mv (.t 244))]) (.seq (.ops true [oP 245 (.fa 1 (.t 3)), oA 246 (.ld 1 false (.t 245)) [0], oP 247 (.mv (.t 21)), oA 248 (.iaS 7 (.t 246) (.t 247)) [0, 2, 1], oA 249 (.fa 1 (.t 248)) [1, 2, 0, 3], oA 250 (.ld 1 false (.t 249)) [3, 0, 2, 1, 4], oP 251 (.fa 1 (.t 3)),
  oA 252 (.ld 1 false (.t 251)) [6], oP 253 (.mv (.t 21)), oA 254 (.iaS 7 (.t 252) (.t 253)) [6, 8, 7], oA 255 (.fa 2 (.t 254)) [7, 8, 6, 9], oA 256 (.ld 1 false (.t 255)) [9, 6, 8, 7, 10], oA 257 (.bin .lss (.t 250) (.t 256)) [10, 7, 8, 6, 9, 4, 1, 2, 0, 3, 11, 5]]) (.cond (.t 257) (.ops false [oP 258 (.fa 0 (.t 5)), oP 259 (.ld 1 false (.t 258)), oP 260 (.mv (.t 21)), oP 261 (.iaS 1 (.t 259)
  (.t 260)), oP 262 (.ld 1 false (.t 261)), oP 263 (.mv (.t 11)), oP 264 (.bin .add (.t 262) (.t 263)), oP 265 (.iaS 1 (.t 259) (.t 260)), oS (.st 1 (.t 265) (.t 264))]) (.ops false [oP 266 (.fa 0 (.t 5)), oP 267 (.ld 1 false (.t 266)), oP 268 (.mv (.t 21)), oP 269 (.iaS 1 (.t 267) (.t 268)), oP 270 (.ld 1 false (.t 269)), oP 271 (.mv (.t 11)), oP 272 (.bin .sub (.t 270) (.t 271)),
  oP 273 (.iaS 1 (.t 267) (.t 268)), oS (.st 1 (.t 273) (.t 272))]))))) c20_15)
def c20_17 : C := (.seq (.ops false [oP 242 (.bin .lss (.t 241) (.t 240))]) (.seq (.cond (.t 242) .skip (.exit 10)) c20_16))
def c20_18 : C := (.seq (.ops true [oP 217 (.fa 1 (.t 5)), oA 218 (.ld 1 false (.t 217)) [0], oP 219 (.mv (.t 9)), oP 220 (.fa 1 (.t 5)), oA 221 (.ld 1 false (.t 220)) [3], oP 222 (.mv (.t 13)), oP 223 (.fa 1 (.t 5)), oA 224 (.ld 1 false (.t 223)) [6], oP 225 (.mv (.t 9)), oA 226 (.iaS 1 (.t 224) (.t 225)) [6, 8, 7], oA 227 (.ld 1 false (.t 226)) [7, 8, 6, 9], oP 228 (.mv (.t 11)), oA 229 (.bin .add (.t 227)
  (.t 228)) [9, 6, 8, 7, 11, 10], oP 230 (.fa 1 (.t 5)), oA 231 (.ld 1 false (.t 230)) [13], oP 232 (.mv (.t 13)), oA 233 (.iaS 1 (.t 231) (.t 232)) [13, 15, 14], oA 234 (.ld 1 false (.t 233)) [14, 15, 13, 16], oP 235 (.mv (.t 11)), oA 236 (.bin .sub (.t 234) (.t 235)) [16, 13, 15, 14, 18, 17], oA 237 (.iaS 1 (.t 218) (.t 219)) [16, 13, 15, 14, 17, 12, 11, 10, 9, 8, 7, 6, 0, 2, 1], ⟨Option.none,
  Option.none, (.st 1 (.t 237) (.t 229)), 0, [14, 15, 13, 16, 17, 11, 10, 9, 8, 7, 6, 2, 1, 0, 12, 20], false⟩, oA 238 (.iaS 1 (.t 221) (.t 222)) [21, 20, 19, 18, 17, 16, 15, 14, 13, 12, 11, 10, 9, 8, 7, 6, 3, 2, 1, 0, 5, 4], ⟨Option.none, Option.none, (.st 1 (.t 238) (.t 236)), 0, [20, 18, 17, 16, 15, 14, 13, 12, 11, 10, 9, 8, 7, 6, 5, 4, 3, 2, 1, 0, 21, 19, 22], false⟩])
  (.seq (.ops false [oP 239 (.mv (.t 12)), oP 240 (.len (.t 239)), oP 241 (.mv (cI 0))]) (.block 10 (.loop c20_17))))
def c20_19 : C := (.seq (.seq (.ops false [oP 215 (.mv (.t 13)), oP 216 (.bin .lss (.t 215) (cI 0))]) (.cond (.t 216) (.exit 3) .skip)) c20_18)
def c20_20 : C := (.seq (.ops false [oP 12 (.mv (.c .mt))]) (.seq (.ops false [oP 13 (.mv (cI (-1)))]) (.seq (.block 4 (.loop c20_14)) c20_19)))
def c20_21 : C := (.ops false [oP 53 (.mv (.t 8)), oP 54 (.bin .sub (.t 53) (cI 1)), oP 8 (.mv (.t 54))])
def c20_22 : C := (.seq (.block 3 (.seq (.ops false [oP 55 (.mv (.t 0)), oP 56 (.fa 2 (.t 3)), oP 57 (.ld 1 false (.t 56)), oP 58 (.len (.t 57)), oB 59 (.call 24 [(.t 55), (.t 58)]), oP 9 (.mv (.t 59))]) (.seq (.ops true [oP 60 (.fa 2 (.t 3)), oA 61 (.ld 1 false (.t 60)) [0], oP 62 (.mv (.t 9)), oA 63 (.iaS 3 (.t 61) (.t 62)) [0, 2, 1], oA 64 (.fa 1 (.t 63)) [1, 2, 0, 3], oA 65 (.ld 1 false (.t 64)) [3, 0, 2, 1,
  4], oP 66 (.mv (.t 0)), oP 67 (.mv (.t 0)), oP 68 (.bsl 1 4 [(.v (.int .i64 0))] [(0, (cI 1)), (1, (cI 5)), (2, (cI 30)), (3, (cI 300))]), ⟨(.some 69), Option.none, (.call 79 [(.t 67), (.t 68)]), 69, [8, 7], true⟩, ⟨(.some 70), Option.none, (.call 27 [(.t 66), (cI 1), (.t 69)]), 70, [7, 8, 9, 6], true⟩, oA 10 (.mv (.t 65)) [6, 9, 8, 7, 4, 3, 2, 1, 0, 10, 5], oA 11 (.mv (.t 70)) [9, 8, 7, 6, 5, 4,
  3, 2, 1, 0, 11, 10]]) (.seq (.seq (.ops false [oP 71 (.fa 1 (.t 5)), oP 72 (.ld 1 false (.t 71)), oP 73 (.mv (.t 9)), oP 74 (.iaS 1 (.t 72) (.t 73)), oP 75 (.ld 1 false (.t 74)), oP 76 (.bin .lss (.t 75) (cI 0)), oP 77 (.mv (.t 76)), oG 78 77 false (.fa 1 (.t 5)), oG 79 77 false (.ld 1 false (.t 78)), oG 80 77 false (.mv (.t 9)), oG 81 77 false (.iaS 1 (.t 79) (.t 80)),
  oG 82 77 false (.ld 1 false (.t 81)), oG 83 77 false (.mv (.t 11)), oG 84 77 false (.bin .add (.t 82) (.t 83)), oG 85 77 false (.bin .gtr (.t 84) (cI 1000)), oP 86 (.pick (.t 77) (cB true) (.t 85))]) (.cond (.t 86) (.exit 3) .skip)) c20_20)))) c20_21)
def c20_23 : C := (.seq (.seq (.ops false [oP 51 (.mv (.t 8)), oP 52 (.bin .gtr (.t 51) (cI 0))]) (.cond (.t 52) .skip (.exit 2))) c20_22)
def c20_24 : C := (.seq (.ops false [oP 278 (.ld 3 true (.t 5)), oS (.st 3 (.t 4) (.t 278))]) .ret)
def c20_25 : C := (.seq (.seq (.ops false [oP 275 (.mv (.t 7))]) (.cond (.t 275) (.seq (.ops false [oP 276 (.ld 3 true (.t 5)), oP 277 (.call 49 [(.t 276)]), oS (.st 3 (.t 4) (.t 277))]) .ret) .skip)) c20_24)
def c20_26 : C := (.seq (.ops false [oP 46 (.mv (.t 0)), oB 47 (.call 24 [(.t 46), (cI 3)]), oP 48 (.bin .eql (.t 47) (cI 0)), oP 7 (.mv (.t 48))]) (.seq (.seq (.ops false [oP 49 (.mv (.t 0)), oB 50 (.call 24 [(.t 49), (cI 5)]), oP 8 (.mv (.t 50))]) (.block 2 (.loop c20_23))) c20_25))
def c20 : C := (.seq (.ops false [oP 3 (.box 6 (.t 1)), oP 4 (.new [.mt, .mt, .mt])]) (.seq (.ops true [oP 22 (.fa 1 (.t 3)), oA 23 (.ld 1 false (.t 22)) [0], oA 24 (.len (.t 23)) [0, 1], oA 25 (.mks 1 8 [(.v (.int .i64 0))] (.t 24)) [1, 0, 2], oP 26 (.fa 2 (.t 3)), oA 27 (.ld 1 false (.t 26)) [4], oA 28 (.len (.t 27)) [4, 5], oA 29 (.mks 1 8 [(.v (.int .i64 0))] (.t 28)) [5, 4, 6], oA 30 (.bld [.mt, .mt, .mt]
  [(0, (1, (.t 25))), (1, (1, (.t 29)))]) [6, 4, 5, 2, 0, 1, 7, 3], oP 5 (.new [.mt, .mt, .mt]), ⟨Option.none, Option.none, (.st 3 (.t 5) (.t 30)), 0, [7, 6, 5, 4, 3, 2, 1, 0, 8, 9], false⟩]) (.seq (.seq (.ops false [oP 6 (.mv (cI 0))]) (.block 0 (.loop c20_2))) c20_26)))
def r20 : List RV := [(.cell 4 3 true)]
theorem c20_ok : ∃ code, Try.f20.body = some code ∧ compC Try.prog Try.f20.ntmps code = some (C.strip c20) := ⟨_, rfl, by kernel_rfl⟩
theorem r20_ok : compRes Try.prog Try.f20.results.toList = some r20 := by kernel_rfl
theorem f20_ok : fnOk Try.prog 20 = true := by kernel_rfl
def c49_1 : C := (.seq (.block 1 (.seq (.ops false [oP 16 (.mv (.t 14)), oP 4 (.mv (.t 16))]) (.ops true [oP 17 (.fa 0 (.t 3)), oA 18 (.ld 1 false (.t 17)) [0], oP 19 (.fa 0 (.t 1)), oA 20 (.ld 1 false (.t 19)) [2], oP 21 (.mv (.t 4)), oA 22 (.iaS 1 (.t 20) (.t 21)) [2, 4, 3], oA 23 (.ld 1 false (.t 22)) [3, 4, 2, 5], oA 24 (.neg (.t 23)) [5, 2, 4, 3, 6], oA 25 (.bsl 1 1 [(.v (.int .i64 0))] [(0, (.t 24))]) [6, 3,
  4, 2, 5, 7], oA 26 (.app 1 8 (.t 18) (.t 25)) [7, 5, 2, 4, 3, 6, 0, 8, 1], oA 27 (.fa 0 (.t 3)) [9, 8, 7, 6, 5, 4, 3, 2, 1, 0], ⟨Option.none, Option.none, (.st 1 (.t 27) (.t 26)), 0, [8, 7, 6, 5, 4, 3, 2, 1, 0, 9, 10], false⟩]))) (.ops false [oP 28 (.bin .add (.t 14) (cI 1)), oP 14 (.mv (.t 28))]))
def c49_2 : C := (.seq (.ops false [oP 15 (.bin .lss (.t 14) (.t 13))]) (.seq (.cond (.t 15) .skip (.exit 0)) c49_1))
def c49_3 : C := (.seq (.block 3 (.seq (.ops false [oP 34 (.mv (.t 32)), oP 5 (.mv (.t 34))]) (.ops true [oP 35 (.fa 1 (.t 3)), oA 36 (.ld 1 false (.t 35)) [0], oP 37 (.fa 1 (.t 1)), oA 38 (.ld 1 false (.t 37)) [2], oP 39 (.mv (.t 5)), oA 40 (.iaS 1 (.t 38) (.t 39)) [2, 4, 3], oA 41 (.ld 1 false (.t 40)) [3, 4, 2, 5], oA 42 (.neg (.t 41)) [5, 2, 4, 3, 6], oA 43 (.bsl 1 1 [(.v (.int .i64 0))] [(0, (.t 42))]) [6, 3,
  4, 2, 5, 7], oA 44 (.app 1 8 (.t 36) (.t 43)) [7, 5, 2, 4, 3, 6, 0, 8, 1], oA 45 (.fa 1 (.t 3)) [9, 8, 7, 6, 5, 4, 3, 2, 1, 0], ⟨Option.none, Option.none, (.st 1 (.t 45) (.t 44)), 0, [8, 7, 6, 5, 4, 3, 2, 1, 0, 9, 10], false⟩]))) (.ops false [oP 46 (.bin .add (.t 32) (cI 1)), oP 32 (.mv (.t 46))]))
def c49_4 : C := (.seq (.ops false [oP 33 (.bin .lss (.t 32) (.t 31))]) (.seq (.cond (.t 33) .skip (.exit 2)) c49_3))
def c49_5 : C := (.seq (.ops false [oP 47 (.ld 3 true (.t 3)), oS (.st 3 (.t 2) (.t 47))]) .ret)
def c49_6 : C := (.seq (.seq (.ops false [oP 29 (.fa 1 (.t 1)), oP 30 (.ld 1 false (.t 29)), oP 31 (.len (.t 30)), oP 32 (.mv (cI 0))]) (.block 2 (.loop c49_4))) c49_5)
def c49 : C := (.seq (.ops false [oP 1 (.box 3 (.t 0)), oP 2 (.new [.mt, .mt, .mt])]) (.seq (.ops false [oP 6 (.bsl 1 0 [(.v (.bool false))] []), oP 7 (.fa 2 (.t 1)), oP 8 (.ld 1 false (.t 7)), oP 9 (.app 1 1 (.t 6) (.t 8)), oP 10 (.bld [.mt, .mt, .mt] [(2, (1, (.t 9)))]), oP 3 (.new [.mt, .mt, .mt]), oS (.st 3 (.t 3) (.t 10))]) (.seq (.seq (.ops false [oP 11 (.fa 0 (.t 1)), oP 12 (.ld 1 false (.t 11)),
  oP 13 (.len (.t 12)), oP 14 (.mv (cI 0))]) (.block 0 (.loop c49_2))) c49_6)))
def r49 : List RV := [(.cell 2 3 true)]
theorem c49_ok : ∃ code, Try.f49.body = some code ∧ compC Try.prog Try.f49.ntmps code = some (C.strip c49) := ⟨_, rfl, by kernel_rfl⟩
theorem r49_ok : compRes Try.prog Try.f49.results.toList = some r49 := by kernel_rfl
theorem f49_ok : fnOk Try.prog 49 = true := by kernel_rfl
def c82 : C := (.seq (.ops false [oP 2 (.mv (cI 0))]) (.seq (.ops false [oP 3 (.mv (.t 0)), oP 4 (.mv (.t 0)), oP 5 (.neg (.t 4)), oP 6 (.mnx true (.t 3) (.t 5)), oP 2 (.mv (.t 6))]) .ret))
def r82 : List RV := [(.tmp 2)]
theorem c82_ok : ∃ code, Try.f82.body = some code ∧ compC Try.prog Try.f82.ntmps code = some (C.strip c82) := ⟨_, rfl, by kernel_rfl⟩
theorem r82_ok : compRes Try.prog Try.f82.results.toList = some r82 := by kernel_rfl
theorem f82_ok : fnOk Try.prog 82 = true := by kernel_rfl
end Go.Proofs.Ytkjibmfggeibjaa
