
/- Flow: Check. -/
import Derived.Test.YtkjibmfggeibjaaFw1
/- Flow: Check. -/
namespace Go.Proofs.Ytkjibmfggeibjaa
open Go
set_option linter.unusedVariables false
set_option linter.unusedSimpArgs false
set_option maxRecDepth 100000

/-- What a valid network is. -/
structure NetV (n : Net) : Prop where
  nl : 1 ≤ n.nodes.length ∧ n.nodes.length ≤ 24
  sl : n.segs.length ≤ 32
  ql : n.ports.length ≤ 24
  tl : n.sts.length ≤ 12
  se : ∀ s ∈ n.segs, (0 ≤ s.fr ∧ s.fr < n.nodes.length) ∧ (0 ≤ s.to ∧ s.to < n.nodes.length) ∧ s.fr ≠ s.to ∧ 1 ≤ s.cap ∧ s.cap ≤ 1000000
  pe : ∀ x ∈ n.ports, 0 ≤ x.node ∧ x.node < n.nodes.length
  te : ∀ x ∈ n.sts, 0 ≤ x.node ∧ x.node < n.nodes.length
theorem any_f {α : Type} {p : α → Bool} {l : List α} (h : l.any p = false) {x : α} (hx : x ∈ l) : p x = false := by
  cases e : p x with
  | false => rfl
  | true => rw [List.any_eq_true.2 ⟨x, hx, e⟩] at h; cases h
theorem inB_of {a b c : Int} (h : inB a b c = true) : b ≤ a ∧ a ≤ c := by
  unfold inB at h
  split at h
  · rename_i h1; exact ⟨by simpa using h1, by simpa using h⟩
  · cases h
theorem check0 {n : Net} (h : checkI n = 0) : NetV n := by
  unfold checkI at h
  split at h
  · rename_i hl
    split at h
    · cases h
    · split at h
      · cases h
      · split at h
        · rename_i hk
          split at h
          · rename_i hp
            unfold limB at hl
            split at hl; · cases hl
            split at hl; · cases hl
            split at hl; · cases hl
            split at hl; · cases hl
            split at hl; · cases hl
            unfold knB at hk
            have hk2 : (allIx n).any (unk n) = false := by simpa using hk
            have inN : ∀ k ∈ allIx n, 0 ≤ k ∧ k < n.nodes.length := fun k hk => by
              have := any_f hk2 hk
              unfold unk at this
              split at this
              · cases this
              · rename_i h1
                simp at h1 this
                omega
            unfold prB at hp
            split at hp; · cases hp
            rename_i hs
            have hs2 : n.segs.any segBad = false := by simpa using hs
            refine ⟨by omega, by omega, by omega, by omega, fun s hm => ⟨inN _ ?_, inN _ ?_, ?_⟩, fun x hm => inN _ ?_, fun x hm => inN _ ?_⟩
            · exact List.mem_append_left _ (List.mem_append_left _ (List.mem_flatMap.2 ⟨s, hm, by simp [endsOf]⟩))
            · exact List.mem_append_left _ (List.mem_append_left _ (List.mem_flatMap.2 ⟨s, hm, by simp [endsOf]⟩))
            · have := any_f hs2 hm
              unfold segBad at this
              have hp : pipeB s = true := by simpa using this
              unfold pipeB at hp
              split at hp; · cases hp
              rename_i h1
              split at hp
              · rename_i h2
                exact ⟨by simpa using h1, inB_of h2⟩
              · cases hp
            · exact List.mem_append_left _ (List.mem_append_right _ (List.mem_map.2 ⟨x, hm, rfl⟩))
            · exact List.mem_append_right _ (List.mem_map.2 ⟨x, hm, rfl⟩)
          · cases h
        · cases h
  · cases h
def most (s : Seg) : Int := if s.cap < 1000 then s.cap else 1000
def rateBad (x : Seg × Int) : Bool := !(withB x.2 (most x.1))
def portBadR (r : Int) : Bool := !(withB r 1000)
def lenBad (n : Net) (p : Pln) : Bool := if ((p.rates.length : Int) != n.segs.length) = true then true else if ((p.ports.length : Int) != n.ports.length) = true then true else ((p.pumps.length : Int) != n.sts.length)
def fckI (n : Net) (p : Pln) : Int := if checkI n = 0 then (if lenBad n p = true then 9 else if (n.segs.zip p.rates).any rateBad = true then 1 else if p.ports.any portBadR = true then 1 else if amt comeOf (flowsOf n p) = amt leaveOf (flowsOf n p) then (if (ordB n p).length < n.nodes.length then 13 else 0) else 12) else checkI n
structure PlnSz (p : Pln) : Prop where
  rates : p.rates.length ≤ 1000000
  ports : p.ports.length ≤ 1000000
  pumps : p.pumps.length ≤ 1000000
theorem withB_of {r m : Int} (h : withB r m = true) : -m ≤ r ∧ r ≤ m := by
  unfold withB at h
  split at h
  · rename_i h1; exact ⟨h1, by simpa using h⟩
  · cases h
theorem len_ok {n : Net} {p : Pln} (h : lenBad n p = false) : p.rates.length = n.segs.length ∧ p.ports.length = n.ports.length ∧ p.pumps.length = n.sts.length := by
  unfold lenBad at h
  split at h
  · cases h
  · rename_i h1
    split at h
    · cases h
    · rename_i h2
      simp at h1 h2 h
      omega
/-- What a plan is whose rates are in their ranges. -/
theorem fl_ok {n : Net} {p : Pln} (hv : NetV n) (h1 : p.rates.length = n.segs.length) (h2 : p.ports.length = n.ports.length) (h3 : (n.segs.zip p.rates).any rateBad = false) (h4 : p.ports.any portBadR = false) : FlOk n p := by
  refine ⟨hv.sl, hv.ql, h1, h2, fun t ht => ?_⟩
  have hn := hv.nl
  rcases List.mem_append.1 ht with ht | ht
  · rw [← List.map_uncurry_zip_eq_zipWith] at ht
    obtain ⟨x, hx, rfl⟩ := List.mem_map.1 ht
    have a := any_f h3 hx
    unfold rateBad at a
    have b := withB_of (by simpa using a)
    have c := hv.se x.1 (List.of_mem_zip hx).1
    unfold most at b
    refine ⟨?_, ?_, ?_⟩
    · show -1 ≤ x.1.fr ∧ x.1.fr < 24
      omega
    · show -1 ≤ x.1.to ∧ x.1.to < 24
      omega
    · show -1000 ≤ x.2 ∧ x.2 ≤ 1000
      split at b <;> omega
  · rw [← List.map_uncurry_zip_eq_zipWith] at ht
    obtain ⟨x, hx, rfl⟩ := List.mem_map.1 ht
    have a := any_f h4 (List.of_mem_zip hx).2
    unfold portBadR at a
    have b := withB_of (by simpa using a)
    have c := hv.pe x.1 (List.of_mem_zip hx).1
    refine ⟨?_, ?_, ?_⟩
    · show -1 ≤ (-1 : Int) ∧ (-1 : Int) < 24
      omega
    · show -1 ≤ x.1.node ∧ x.1.node < 24
      omega
    · show -1000 ≤ x.2 ∧ x.2 ≤ 1000
      omega
theorem edge_ok {n : Net} (p : Pln) (hv : NetV n) : EdgeIn (n.segs.zip p.rates) n.nodes.length := fun x hx => by
  have := hv.se x.1 (List.of_mem_zip hx).1
  omega
def selWithin : List D → Option (Prop × D)
  | [.v (.int .i64 r), .v (.int .i64 m)] => some (-1000000 ≤ m ∧ m ≤ 1000000, db (withB r m))
  | _ => Option.none
def TFw : Tbl := tc 120 (rowPu selWithin) T0
theorem TFw_ok : TblOk Try.prog TFw := by
  refine tc_pu f120_ok (fun args pre d h hp nn => ?_) (T0_ok _)
  unfold selWithin at h
  split at h <;> cases h
  exact within_c _ _ hp nn
set_option maxHeartbeats 1000000 in
theorem fck1_c (r : Int) (nn : Nm) : CallsA Try.prog 122 [di r] Hp.none nn (Pu (db (portBadR r)) Hp.none) := by
  obtain ⟨code, h1, h2⟩ := c122_ok
  refine callsA_of TFw_ok mixed (N := fun t => (0, t)) Try.func122 h1 h2 r122_ok [] false js_nil js_nil' (by simp [Try.f122]) ?_
  simp (config := { maxSteps := 500000 }) only [↓vp, vv, implies_true, forall_const, undef, InI, ↓reduceIte, simprocAttr, c122, r122, TFw, selWithin, portBadR, Pu]
/-- The row of a function of a network and a plan. -/
def selNP (pre : Net → Pln → Prop) (out : Net → Pln → D) : List D → Option (Prop × D)
  | [.agg a, .agg b] => match netOf1 a, plnOf1 b with
    | some n, some p => some (pre n p, out n p)
    | _, _ => Option.none
  | _ => Option.none
theorem tc_np {f : FuncId} {pre : Net → Pln → Prop} {out : Net → Pln → D} {T : Tbl} (hf : fnOk Try.prog f = true) (h : ∀ n p, pre n p → ∀ nn, CallsA Try.prog f [n.enc, p.enc] Hp.none nn (Pu (out n p) Hp.none)) (hT : TblOk Try.prog T) : TblOk Try.prog (tc f (rowPu (selNP pre out)) T) :=
  tc_pu hf (fun args pr d hs hp nn => by
    unfold selNP at hs
    split at hs
    · split at hs
      · rename_i e1 e2
        cases hs
        rw [netOf1_eq e1, plnOf1_eq e2]
        exact h _ _ hp nn
      · cases hs
    · cases hs) hT
def OrdPre (n : Net) (p : Pln) : Prop := n.nodes.length ≤ 1000000 ∧ n.segs.length ≤ 1000000 ∧ p.rates.length = n.segs.length ∧ EdgeIn (n.segs.zip p.rates) n.nodes.length
def TCf (P : Program) : Tbl := tc 74 (rowPu (selNet fun n => di (checkI n))) (tc 121 (rowPu (selQ P false 1 (fun g l => qRow intOf1 portBadR) outC)) (tc 123 (rowPu (selNP FlOk fun n p => .agg ((amtM (flowsOf n p)).map di))) (tc 118 (rowPu (selNP OrdPre fun n p => .sl ((ordB n p).map nRow))) TFw)))
theorem TCf_ok : TblOk Try.prog (TCf Try.prog) := tc_netf f74_ok check_c (tc_cf f121_ok (fun q g l rows h nn => hasF_I q g l rows h nn) (tc_np f123_ok sums_c (tc_np f118_ok (fun n p h nn => order_c n p h.1 h.2.1 h.2.2.1 h.2.2.2 nn) TFw_ok)))
theorem eqL_di : ∀ (A B : List Int), A.length = B.length → eqL (List.replicate A.length 0) (A.map di) (B.map di) = some (decide (A = B))
  | [], [], _ => by simp [eqL]
  | a :: A, b :: B, h => by
    have := eqL_di A B (by simpa using h)
    simp only [List.length_cons, List.replicate_succ, List.map_cons, eqL, eqOne, this, if_true]
    by_cases h1 : a = b <;> by_cases h2 : A = B <;> simp [h1, h2]
theorem flat_di : ∀ M : List Int, flatL (M.map di) = true
  | [] => rfl
  | x :: M => by rw [List.map_cons, flatL, flat_di M]; rfl
theorem amt_len (f : Int → Fl → Int) (T : List Fl) : (amt f T).length = 24 := by simp [amt]
theorem eqL_amt (T : List Fl) : eqL [0, 0, 0, 0, 0, 0, 0, 0, 0, 0, 0, 0, 0, 0, 0, 0, 0, 0, 0, 0, 0, 0, 0, 0] ((amt comeOf T).map di) ((amt leaveOf T).map di) = some (decide (amt comeOf T = amt leaveOf T)) := by
  have := eqL_di (amt comeOf T) (amt leaveOf T) (by rw [amt_len, amt_len])
  rw [amt_len] at this
  exact this
theorem amt_take (T : List Fl) : ((amtM T).map di).take 24 = (amt comeOf T).map di := by
  unfold amtM
  rw [List.map_append, List.take_append_of_le_length (by rw [List.length_map, amt_len]; exact Nat.le_refl _), List.take_of_length_le (by rw [List.length_map, amt_len]; exact Nat.le_refl _)]
theorem amt_drop (T : List Fl) : (((amtM T).map di).drop 24).take 24 = (amt leaveOf T).map di := by
  unfold amtM
  rw [List.map_append, List.drop_append_of_le_length (by rw [List.length_map, amt_len]; exact Nat.le_refl _), List.drop_of_length_le (by rw [List.length_map, amt_len]; exact Nat.le_refl _), List.nil_append, List.take_of_length_le (by rw [List.length_map, amt_len]; exact Nat.le_refl _)]
def HF (n : Net) (p : Pln) : Hp := (Hp.none.put (0, 3) ⟨0, 3, [plnD p]⟩).put (0, 2) ⟨0, 6, [netD n]⟩
set_option maxHeartbeats 16000000 in
theorem fcheck_c (n : Net) (p : Pln) (hz : NetSz n) (hq : PlnSz p) (nn : Nm) : CallsA Try.prog 55 [n.enc, p.enc] Hp.none nn (Pu (di (fckI n p)) Hp.none) := by
  obtain ⟨code, h1, h2⟩ := c55_ok
  refine callsA_of TCf_ok mixed (N := fun t => (0, t)) Try.func55 h1 h2 r55_ok [] false js_nil js_nil' (by simp [Try.f55]) ?_
  have hn1 : netOf1 [D.sl (n.nodes.map nmRow), .sl (n.segs.map Seg.row), .sl (n.ports.map Port.row), .sl (n.sts.map Stn.row), di n.vap, di n.set] = some n := netOf1_row n
  have hp1 : plnOf1 [D.sl (p.rates.map iRow), .sl (p.ports.map iRow), .sl (p.pumps.map bRow)] = some p := plnOf1_row p
  by_cases a0 : checkI n = 0
  · have b0 : (checkI n != 0) = false := by simp [a0]
    have hv := check0 a0
    cases a1 : lenBad n p with
    | true =>
      have hc : fckI n p = 9 := by unfold fckI; rw [if_pos a0, if_pos a1]
      unfold lenBad at a1
      cases c1 : ((p.rates.length : Int) != n.segs.length) with
      | true => simp (config := { maxSteps := 500000 }) only [↓vp, vv, implies_true, forall_const, undef, InI, ↓reduceIte, simprocAttr, c55, r55, c55_1, c55_2, c55_3, c55_4, c55_5, c55_6, c55_7, c55_8, c55_9, TCf, selNet, Net.enc, Pln.enc, netD, plnD, hn1, hz, a0, bne_self_eq_false, c1, hc, Pu]
      | false =>
        rw [c1] at a1
        cases c2 : ((p.ports.length : Int) != n.ports.length) with
        | true => simp (config := { maxSteps := 500000 }) only [↓vp, vv, implies_true, forall_const, undef, InI, ↓reduceIte, simprocAttr, c55, r55, c55_1, c55_2, c55_3, c55_4, c55_5, c55_6, c55_7, c55_8, c55_9, TCf, selNet, Net.enc, Pln.enc, netD, plnD, hn1, hz, a0, bne_self_eq_false, c1, c2, hc, Pu]
        | false =>
          rw [c2] at a1
          have c3 : ((p.pumps.length : Int) != n.sts.length) = true := by simpa using a1
          simp (config := { maxSteps := 500000 }) only [↓vp, vv, implies_true, forall_const, undef, InI, ↓reduceIte, simprocAttr, c55, r55, c55_1, c55_2, c55_3, c55_4, c55_5, c55_6, c55_7, c55_8, c55_9, TCf, selNet, Net.enc, Pln.enc, netD, plnD, hn1, hz, a0, bne_self_eq_false, c1, c2, c3, hc, Pu]
    | false =>
      obtain ⟨l1, l2, l3⟩ := len_ok a1
      have c1 : ((p.rates.length : Int) != n.segs.length) = false := by simp [l1]
      have c2 : ((p.ports.length : Int) != n.ports.length) = false := by simp [l2]
      have c3 : ((p.pumps.length : Int) != n.sts.length) = false := by simp [l3]
      generalize hb : (n.segs.zip p.rates).any rateBad = b
      have hc : fckI n p = if b = true then 1 else if p.ports.any portBadR = true then 1 else if amt comeOf (flowsOf n p) = amt leaveOf (flowsOf n p) then (if (ordB n p).length < n.nodes.length then 13 else 0) else 12 := by unfold fckI; rw [if_pos a0, a1, hb]; rfl
      simp (config := { maxSteps := 500000 }) only [↓vp, vv, implies_true, forall_const, undef, InI, ↓reduceIte, simprocAttr, c55, r55, c55_1, c55_2, c55_3, c55_4, c55_5, c55_6, c55_7, c55_8, c55_9, TCf, selNet, Net.enc, Pln.enc, netD, plnD, hn1, hz, a0, bne_self_eq_false, c1, c2, c3]
      refine rng_loop n.segs.length (fun j => ⟨fr [(2, .ptr (0, 2) 0 0 0), (3, .ptr (0, 3) 0 0 0), (40, .sl (n.segs.map Seg.row)), (41, di n.segs.length), (42, di j)], HF n p⟩) (fun j => ((n.segs.zip p.rates).drop j).any rateBad = b) (weak_eq [] [(0, 2), (0, 3)] [(2, .ptr (0, 2) 0 0 0), (3, .ptr (0, 3) 0 0 0), (40, .sl (n.segs.map Seg.row)), (41, di n.segs.length), (42, di 0)] (by simp (config := { maxSteps := 500000 }) only [↓vp, vv, implies_true, forall_const, undef, InI, ↓reduceIte, simprocAttr, coverS, HF, netD, plnD]) (by simp (config := { maxSteps := 500000 }) only [↓vp, vv, implies_true, forall_const, undef, InI, ↓reduceIte, simprocAttr, refsF, HF, netD, plnD]) (by simp (config := { maxSteps := 500000 }) only [↓vp, vv, implies_true, forall_const, undef, InI, ↓reduceIte, simprocAttr, HF, netD, plnD]) (by simp) (by simp (config := { maxSteps := 500000 }) only [↓vp, vv, implies_true, forall_const, undef, InI, ↓reduceIte, simprocAttr, HF, netD, plnD]; try rfl)) hb (fun j hj he => ?_) (fun he => ?_)
      · have hj' : (j : Int) < n.segs.length := by omega
        have hn := idx_nn j
        have hsl := hv.sl
        have w1 := idx_next (j := j) (by omega)
        have hr : j < p.rates.length := by omega
        have hr' : (j : Int) < p.rates.length := by omega
        have hg := getD_map Seg.row n.segs j hj
        have hg2 := iRow_at p.rates j hr
        have hzl : j < (n.segs.zip p.rates).length := by rw [List.length_zip]; omega
        obtain ⟨hf, ht⟩ := drop_any hzl he
        have hx : (n.segs.zip p.rates)[j] = (n.segs[j], p.rates[j]) := List.getElem_zip
        rw [hx] at hf ht
        have hcp := hv.se _ (List.getElem_mem hj)
        generalize n.segs[j] = s at hg hf ht hcp
        generalize p.rates[j] = r at hg2 hf ht
        have hm : -1000000 ≤ most s ∧ most s ≤ 1000000 := by unfold most; constructor <;> split <;> omega
        have hm2 : (if s.cap < 1000 then s.cap else 1000) = most s := rfl
        cases d : withB r (most s) with
        | false =>
          have e1 := hf (by unfold rateBad; rw [d]; rfl)
          rw [e1] at hc
          have hc3 : fckI n p = 1 := hc
          simp (config := { maxSteps := 500000 }) only [↓vp, vv, implies_true, forall_const, undef, InI, ↓reduceIte, simprocAttr, c55, r55, c55_1, c55_2, c55_3, c55_4, c55_5, c55_6, c55_7, c55_8, c55_9, TCf, TFw, selWithin, HF, netD, plnD, hj', hr', hn, Int.toNat_natCast, hg, hg2, Seg.row, hm2, hm, d, hc3, Pu]
        | true =>
          simp (config := { maxSteps := 500000 }) only [↓vp, vv, implies_true, forall_const, undef, InI, ↓reduceIte, simprocAttr, c55, r55, c55_1, c55_2, c55_3, c55_4, c55_5, c55_6, c55_7, c55_8, c55_9, TCf, TFw, selWithin, HF, netD, plnD, hj', hr', hn, Int.toNat_natCast, hg, hg2, Seg.row, hm2, hm, d, w1]
          exact rng_next hj (weak_eq [] [(0, 2), (0, 3)] [(2, .ptr (0, 2) 0 0 0), (3, .ptr (0, 3) 0 0 0), (40, .sl (n.segs.map Seg.row)), (41, di n.segs.length), (42, di (j + 1 : Nat))] (by simp (config := { maxSteps := 500000 }) only [↓vp, vv, implies_true, forall_const, undef, InI, ↓reduceIte, simprocAttr, coverS, HF, netD, plnD, w1, Seg.row]) (by simp (config := { maxSteps := 500000 }) only [↓vp, vv, implies_true, forall_const, undef, InI, ↓reduceIte, simprocAttr, refsF, HF, netD, plnD, w1, Seg.row]) (by simp (config := { maxSteps := 500000 }) only [↓vp, vv, implies_true, forall_const, undef, InI, ↓reduceIte, simprocAttr, HF, netD, plnD, w1, Seg.row]) (by simp) (by simp (config := { maxSteps := 500000 }) only [↓vp, vv, implies_true, forall_const, undef, InI, ↓reduceIte, simprocAttr, HF, netD, plnD, w1, Seg.row]; try rfl)) (ht (by unfold rateBad; rw [d]; rfl))
      · have e1 : b = false := drop_any_end (by rw [List.length_zip]; omega) he
        rw [e1] at hc hb
        simp only [Bool.false_eq_true, if_false] at hc
        have hq : QOk Try.prog false 1 (qRow intOf1 portBadR) 122 [] (p.ports.map iRow) := by
          refine ⟨f122_ok, by simp; have := hq.ports; omega, fun r hr => ?_⟩
          obtain ⟨x, _, rfl⟩ := List.mem_map.1 hr
          exact ⟨rfl, rfl, fun _ => ⟨_, rfl⟩, fun nn => fck1_c x nn⟩
        have ho : outC (fun r => qRow intOf1 portBadR (elV false r)) (p.ports.map iRow) = db (p.ports.any portBadR) := by
          unfold outC
          rw [List.any_map]
          rfl
        cases a4 : p.ports.any portBadR with
        | true =>
          rw [a4] at ho hc
          have hc3 : fckI n p = 1 := hc
          simp (config := { maxSteps := 500000 }) only [↓vp, vv, implies_true, forall_const, undef, InI, ↓reduceIte, simprocAttr, c55, r55, c55_1, c55_2, c55_3, c55_4, c55_5, c55_6, c55_7, c55_8, c55_9, TCf, selQ, ipsOf, HF, netD, plnD, Int.lt_irrefl, hq, ho, hc3, Pu]
        | false =>
          rw [a4] at ho hc
          simp only [Bool.false_eq_true, if_false] at hc
          have hfl := fl_ok hv l1 l2 hb a4
          have hord : OrdPre n p := ⟨by have := hv.nl; omega, by have := hv.sl; omega, l1, edge_ok p hv⟩
          have hl := amtM_len (flowsOf n p)
          by_cases a5 : amt comeOf (flowsOf n p) = amt leaveOf (flowsOf n p)
          · rw [if_pos a5] at hc
            have a5e := eqL_amt (flowsOf n p)
            rw [decide_eq_true a5] at a5e
            by_cases a6 : (ordB n p).length < n.nodes.length
            · rw [if_pos a6] at hc
              have a6' : ((ordB n p).length : Int) < n.nodes.length := by omega
              simp (config := { maxSteps := 500000 }) only [↓vp, vv, implies_true, forall_const, undef, InI, ↓reduceIte, simprocAttr, c55, r55, c55_1, c55_2, c55_3, c55_4, c55_5, c55_6, c55_7, c55_8, c55_9, TCf, selQ, ipsOf, selNP, HF, netD, plnD, Int.lt_irrefl, hq, ho, hn1, hp1, hfl, hord, hl, put_all, amt_take, amt_drop, a5e, a6', refs_di, nms_di, di_done, flat_di, hc, Pu]
            · rw [if_neg a6] at hc
              have a6' : ¬ ((ordB n p).length : Int) < n.nodes.length := by omega
              simp (config := { maxSteps := 500000 }) only [↓vp, vv, implies_true, forall_const, undef, InI, ↓reduceIte, simprocAttr, c55, r55, c55_1, c55_2, c55_3, c55_4, c55_5, c55_6, c55_7, c55_8, c55_9, TCf, selQ, ipsOf, selNP, HF, netD, plnD, Int.lt_irrefl, hq, ho, hn1, hp1, hfl, hord, hl, put_all, amt_take, amt_drop, a5e, a6', refs_di, nms_di, di_done, flat_di, hc, Pu]
          · rw [if_neg a5] at hc
            have a5e := eqL_amt (flowsOf n p)
            rw [decide_eq_false a5] at a5e
            simp (config := { maxSteps := 500000 }) only [↓vp, vv, implies_true, forall_const, undef, InI, ↓reduceIte, simprocAttr, c55, r55, c55_1, c55_2, c55_3, c55_4, c55_5, c55_6, c55_7, c55_8, c55_9, TCf, selQ, ipsOf, selNP, HF, netD, plnD, Int.lt_irrefl, hq, ho, hn1, hp1, hfl, hl, put_all, amt_take, amt_drop, a5e, refs_di, nms_di, di_done, flat_di, hc, Pu, decide_true, decide_false]
  · have b0 : (checkI n != 0) = true := by simp [a0]
    have hc : fckI n p = checkI n := by unfold fckI; rw [if_neg a0]
    simp (config := { maxSteps := 500000 }) only [↓vp, vv, implies_true, forall_const, undef, InI, ↓reduceIte, simprocAttr, c55, r55, c55_1, c55_2, c55_3, c55_4, c55_5, c55_6, c55_7, c55_8, c55_9, TCf, selNet, Net.enc, Pln.enc, netD, plnD, hn1, hz, b0, hc, Pu]
end Go.Proofs.Ytkjibmfggeibjaa
/- Flow: Order, Through, Feeds. -/
namespace Go.Proofs.Ytkjibmfggeibjaa
open Go
set_option linter.unusedVariables false
set_option linter.unusedSimpArgs false
set_option maxRecDepth 100000

def FckPre (n : Net) (p : Pln) : Prop := NetSz n ∧ PlnSz p
def posI (r : Int) : Int := if 0 < r then r else 0
def negI (r : Int) : Int := if 0 < -r then -r else 0
end Go.Proofs.Ytkjibmfggeibjaa
