/- ToolMade: Fw4 CodeTO GFo. -/
import Derived.Test.YtadjhfjiimgddaaTM9
import Derived.Test.YtadjhfjiimgddaaTM3
import Derived.Test.YtadjhfjiimgddaaProg
import Derived.Test.YtadjhfjiimgddaaTM4
set_option linter.unusedSimpArgs false
set_option linter.unusedVariables false
set_option maxRecDepth 100000

/- Flow: Check. -/
/- Flow: Check. -/
namespace Go.Proofs.Ytadjhfjiimgddaa
open Go
structure NetV (n : Net) : Prop where
  nl : 1 ≤ n.nodes.length ∧ n.nodes.length ≤ 24
  sl : n.segs.length ≤ 32
  ql : n.ports.length ≤ 24
  tl : n.sts.length ≤ 12
  se : ∀ s ∈ n.segs, (0 ≤ s.fr ∧ s.fr < n.nodes.length) ∧ (0 ≤ s.to ∧ s.to < n.nodes.length) ∧ s.fr ≠ s.to ∧ 1 ≤ s.cap ∧ s.cap ≤ 1000000
  pe : ∀ x ∈ n.ports, 0 ≤ x.node ∧ x.node < n.nodes.length
  te : ∀ x ∈ n.sts, 0 ≤ x.node ∧ x.node < n.nodes.length
theorem any_f {α : Type} {p : α → Bool} {l : List α} (h : l.any p = false) {x : α} (hx : x ∈ l) : p x = false := by
  cases e : p x with
  | false => rfl
  | true => rw [List.any_eq_true.2 ⟨x, hx, e⟩] at h; cases h
theorem inB_of {a b c : Int} (h : inB a b c = true) : b ≤ a ∧ a ≤ c := by
  unfold inB at h
  split at h
  · rename_i h1; exact ⟨by simpa using h1, by simpa using h⟩
  · cases h
theorem check0 {n : Net} (h : checkI n = 0) : NetV n := by
  unfold checkI at h
  split at h
  · rename_i hl
    split at h
    · cases h
    · split at h
      · cases h
      · split at h
        · rename_i hk
          split at h
          · rename_i hp
            unfold limB at hl
            split at hl; · cases hl
            split at hl; · cases hl
            split at hl; · cases hl
            split at hl; · cases hl
            split at hl; · cases hl
            unfold knB at hk
            have hk2 : (allIx n).any (unk n) = false := by simpa using hk
            have inN : ∀ k ∈ allIx n, 0 ≤ k ∧ k < n.nodes.length := fun k hk => by
              have := any_f hk2 hk
              unfold unk at this
              split at this
              · cases this
              · rename_i h1
                simp at h1 this
                omega
            unfold prB at hp
            split at hp; · cases hp
            rename_i hs
            have hs2 : n.segs.any segBad = false := by simpa using hs
            refine ⟨by omega, by omega, by omega, by omega, fun s hm => ⟨inN _ ?_, inN _ ?_, ?_⟩, fun x hm => inN _ ?_, fun x hm => inN _ ?_⟩
            · exact List.mem_append_left _ (List.mem_append_left _ (List.mem_flatMap.2 ⟨s, hm, by simp [endsOf]⟩))
            · exact List.mem_append_left _ (List.mem_append_left _ (List.mem_flatMap.2 ⟨s, hm, by simp [endsOf]⟩))
            · have := any_f hs2 hm
              unfold segBad at this
              have hp : pipeB s = true := by simpa using this
              unfold pipeB at hp
              split at hp; · cases hp
              rename_i h1
              split at hp
              · rename_i h2
                exact ⟨by simpa using h1, inB_of h2⟩
              · cases hp
            · exact List.mem_append_left _ (List.mem_append_right _ (List.mem_map.2 ⟨x, hm, rfl⟩))
            · exact List.mem_append_right _ (List.mem_map.2 ⟨x, hm, rfl⟩)
          · cases h
        · cases h
  · cases h
def most (s : Seg) : Int := if s.cap < 1000 then s.cap else 1000
def rateBad (x : Seg × Int) : Bool := !(withB x.2 (most x.1))
def portBadR (r : Int) : Bool := !(withB r 1000)
def lenBad (n : Net) (p : Pln) : Bool := if ((p.rates.length : Int) != n.segs.length) = true then true else if ((p.ports.length : Int) != n.ports.length) = true then true else ((p.pumps.length : Int) != n.sts.length)
def fckI (n : Net) (p : Pln) : Int := if checkI n = 0 then (if lenBad n p = true then 9 else if (n.segs.zip p.rates).any rateBad = true then 1 else if p.ports.any portBadR = true then 1 else if amt comeOf (flowsOf n p) = amt leaveOf (flowsOf n p) then (if (ordB n p).length < n.nodes.length then 13 else 0) else 12) else checkI n
structure PlnSz (p : Pln) : Prop where
  rates : p.rates.length ≤ 1000000
  ports : p.ports.length ≤ 1000000
  pumps : p.pumps.length ≤ 1000000
theorem withB_of {r m : Int} (h : withB r m = true) : -m ≤ r ∧ r ≤ m := by
  unfold withB at h
  split at h
  · rename_i h1; exact ⟨h1, by simpa using h⟩
  · cases h
theorem len_ok {n : Net} {p : Pln} (h : lenBad n p = false) : p.rates.length = n.segs.length ∧ p.ports.length = n.ports.length ∧ p.pumps.length = n.sts.length := by
  unfold lenBad at h
  split at h
  · cases h
  · rename_i h1
    split at h
    · cases h
    · rename_i h2
      simp at h1 h2 h
      omega
theorem fl_ok {n : Net} {p : Pln} (hv : NetV n) (h1 : p.rates.length = n.segs.length) (h2 : p.ports.length = n.ports.length) (h3 : (n.segs.zip p.rates).any rateBad = false) (h4 : p.ports.any portBadR = false) : FlOk n p := by
  refine ⟨hv.sl, hv.ql, h1, h2, fun t ht => ?_⟩
  have hn := hv.nl
  rcases List.mem_append.1 ht with ht | ht
  · rw [← List.map_uncurry_zip_eq_zipWith] at ht
    obtain ⟨x, hx, rfl⟩ := List.mem_map.1 ht
    have a := any_f h3 hx
    unfold rateBad at a
    have b := withB_of (by simpa using a)
    have c := hv.se x.1 (List.of_mem_zip hx).1
    unfold most at b
    refine ⟨?_, ?_, ?_⟩
    · show -1 ≤ x.1.fr ∧ x.1.fr < 24
      omega
    · show -1 ≤ x.1.to ∧ x.1.to < 24
      omega
    · show -1000 ≤ x.2 ∧ x.2 ≤ 1000
      split at b <;> omega
  · rw [← List.map_uncurry_zip_eq_zipWith] at ht
    obtain ⟨x, hx, rfl⟩ := List.mem_map.1 ht
    have a := any_f h4 (List.of_mem_zip hx).2
    unfold portBadR at a
    have b := withB_of (by simpa using a)
    have c := hv.pe x.1 (List.of_mem_zip hx).1
    refine ⟨?_, ?_, ?_⟩
    · show -1 ≤ (-1 : Int) ∧ (-1 : Int) < 24
      omega
    · show -1 ≤ x.1.node ∧ x.1.node < 24
      omega
    · show -1000 ≤ x.2 ∧ x.2 ≤ 1000
      omega
theorem edge_ok {n : Net} (p : Pln) (hv : NetV n) : EdgeIn (n.segs.zip p.rates) n.nodes.length := fun x hx => by
  have := hv.se x.1 (List.of_mem_zip hx).1
  omega
def selWithin : List D → Option (Prop × D)
  | [.v (.int .i64 r), .v (.int .i64 m)] => some (-1000000 ≤ m ∧ m ≤ 1000000, db (withB r m))
  | _ => Option.none
def TFw : Tbl := tc 151 (rowPu selWithin) T0
theorem TFw_ok : TblOk Try.prog TFw := by
  refine tc_pu f151_ok (fun args pre d h hp nn => ?_) (T0_ok _)
  unfold selWithin at h
  split at h <;> cases h
  exact within_c _ _ hp nn
set_option maxHeartbeats 1000000 in
theorem fck1_c (r : Int) (nn : Nm) : CallsA Try.prog 152 [di r] Hp.none nn (Pu (db (portBadR r)) Hp.none) := by
  obtain ⟨code, h1, h2⟩ := c152_ok
  refine callsA_of TFw_ok mixed (N := fun t => (0, t)) Try.func152 h1 h2 r152_ok [] false js_nil js_nil' (by simp [Try.f152]) ?_
  simp (maxSteps:=500000) only [↓vp, vv, ↓reduceIte, simprocAttr, c152, r152, TFw, selWithin, portBadR, Pu]
def selNP (pre : Net → Pln → Prop) (out : Net → Pln → D) : List D → Option (Prop × D)
  | [.agg a, .agg b] => match netOf1 a, plnOf1 b with
    | some n, some p => some (pre n p, out n p)
    | _, _ => Option.none
  | _ => Option.none
theorem tc_np {f : FuncId} {pre : Net → Pln → Prop} {out : Net → Pln → D} {T : Tbl} (hf : fnOk Try.prog f = true) (h : ∀ n p, pre n p → ∀ nn, CallsA Try.prog f [n.enc, p.enc] Hp.none nn (Pu (out n p) Hp.none)) (hT : TblOk Try.prog T) : TblOk Try.prog (tc f (rowPu (selNP pre out)) T) :=
  tc_pu hf (fun args pr d hs hp nn => by
    unfold selNP at hs
    split at hs
    · split at hs
      · rename_i e1 e2
        cases hs
        rw [netOf1_eq e1, plnOf1_eq e2]
        exact h _ _ hp nn
      · cases hs
    · cases hs) hT
def OrdPre (n : Net) (p : Pln) : Prop := n.nodes.length ≤ 1000000 ∧ n.segs.length ≤ 1000000 ∧ p.rates.length = n.segs.length ∧ EdgeIn (n.segs.zip p.rates) n.nodes.length
def TCf (P : Program) : Tbl := tc 95 (rowPu (selNet fun n => di (checkI n))) (tc 145 (rowPu (selQ P false 1 (fun g l => qRow intOf1 portBadR) outC)) (tc 153 (rowPu (selNP FlOk fun n p => .agg ((amtM (flowsOf n p)).map di))) (tc 154 (rowPu (selNP OrdPre fun n p => .sl ((ordB n p).map nRow))) TFw)))
theorem TCf_ok : TblOk Try.prog (TCf Try.prog) := tc_netf f95_ok check_c (tc_cf f145_ok (fun q g l rows h nn => hasF_I q g l rows h nn) (tc_np f153_ok sums_c (tc_np f154_ok (fun n p h nn => order_c n p h.1 h.2.1 h.2.2.1 h.2.2.2 nn) TFw_ok)))
theorem eqL_di : ∀ (A B : List Int), A.length = B.length → eqL (List.replicate A.length 0) (A.map di) (B.map di) = some (decide (A = B))
  | [], [], _ => by simp [eqL]
  | a :: A, b :: B, h => by
    have := eqL_di A B (by simpa using h)
    simp only [List.length_cons, List.replicate_succ, List.map_cons, eqL, eqOne, this, if_true]
    by_cases h1 : a = b <;> by_cases h2 : A = B <;> simp [h1, h2]
theorem flat_di : ∀ M : List Int, flatL (M.map di) = true
  | [] => rfl
  | x :: M => by rw [List.map_cons, flatL, flat_di M]; rfl
theorem amt_len (f : Int → Fl → Int) (T : List Fl) : (amt f T).length = 24 := by simp [amt]
theorem eqL_amt (T : List Fl) : eqL [0, 0, 0, 0, 0, 0, 0, 0, 0, 0, 0, 0, 0, 0, 0, 0, 0, 0, 0, 0, 0, 0, 0, 0] ((amt comeOf T).map di) ((amt leaveOf T).map di) = some (decide (amt comeOf T = amt leaveOf T)) := by
  have := eqL_di (amt comeOf T) (amt leaveOf T) (by rw [amt_len, amt_len])
  rw [amt_len] at this
  exact this
theorem amt_take (T : List Fl) : ((amtM T).map di).take 24 = (amt comeOf T).map di := by
  unfold amtM
  rw [List.map_append, List.take_append_of_le_length (by rw [List.length_map, amt_len]; exact Nat.le_refl _), List.take_of_length_le (by rw [List.length_map, amt_len]; exact Nat.le_refl _)]
theorem amt_drop (T : List Fl) : (((amtM T).map di).drop 24).take 24 = (amt leaveOf T).map di := by
  unfold amtM
  rw [List.map_append, List.drop_append_of_le_length (by rw [List.length_map, amt_len]; exact Nat.le_refl _), List.drop_of_length_le (by rw [List.length_map, amt_len]; exact Nat.le_refl _), List.nil_append, List.take_of_length_le (by rw [List.length_map, amt_len]; exact Nat.le_refl _)]
def HF (n : Net) (p : Pln) : Hp := (Hp.none.put (0, 3) ⟨0, 3, [plnD p]⟩).put (0, 2) ⟨0, 6, [netD n]⟩
set_option maxHeartbeats 16000000 in
theorem fcheck_c (n : Net) (p : Pln) (hz : NetSz n) (hq : PlnSz p) (nn : Nm) : CallsA Try.prog 124 [n.enc, p.enc] Hp.none nn (Pu (di (fckI n p)) Hp.none) := by
  obtain ⟨code, h1, h2⟩ := c124_ok
  refine callsA_of TCf_ok mixed (N := fun t => (0, t)) Try.func124 h1 h2 r124_ok [] false js_nil js_nil' (by simp [Try.f124]) ?_
  have hn1 := netOf1_x n
  have hp1 := plnOf1_x p
  by_cases a0 : checkI n = 0
  · have b0 : (checkI n != 0) = false := by simp [a0]
    have hv := check0 a0
    cases a1 : lenBad n p with
    | true =>
      have hc : fckI n p = 9 := by unfold fckI; rw [if_pos a0, if_pos a1]
      unfold lenBad at a1
      cases c1 : ((p.rates.length : Int) != n.segs.length) with
      | true => simp (maxSteps:=500000) only [↓vp, vv, ↓reduceIte, simprocAttr, c124, r124, c124_1, c124_2, c124_3, c124_4, c124_5, c124_6, c124_7, c124_8, c124_9, TCf, selNet, Net.enc, Pln.enc, netD, plnD, hn1, hz, a0, bne_self_eq_false, c1, hc, Pu]
      | false =>
        rw [c1] at a1
        cases c2 : ((p.ports.length : Int) != n.ports.length) with
        | true => simp (maxSteps:=500000) only [↓vp, vv, ↓reduceIte, simprocAttr, c124, r124, c124_1, c124_2, c124_3, c124_4, c124_5, c124_6, c124_7, c124_8, c124_9, TCf, selNet, Net.enc, Pln.enc, netD, plnD, hn1, hz, a0, bne_self_eq_false, c1, c2, hc, Pu]
        | false =>
          rw [c2] at a1
          have c3 : ((p.pumps.length : Int) != n.sts.length) = true := by simpa using a1
          simp (maxSteps:=500000) only [↓vp, vv, ↓reduceIte, simprocAttr, c124, r124, c124_1, c124_2, c124_3, c124_4, c124_5, c124_6, c124_7, c124_8, c124_9, TCf, selNet, Net.enc, Pln.enc, netD, plnD, hn1, hz, a0, bne_self_eq_false, c1, c2, c3, hc, Pu]
    | false =>
      obtain ⟨l1, l2, l3⟩ := len_ok a1
      have c1 : ((p.rates.length : Int) != n.segs.length) = false := by simp [l1]
      have c2 : ((p.ports.length : Int) != n.ports.length) = false := by simp [l2]
      have c3 : ((p.pumps.length : Int) != n.sts.length) = false := by simp [l3]
      generalize hb : (n.segs.zip p.rates).any rateBad = b
      have hc : fckI n p = if b = true then 1 else if p.ports.any portBadR = true then 1 else if amt comeOf (flowsOf n p) = amt leaveOf (flowsOf n p) then (if (ordB n p).length < n.nodes.length then 13 else 0) else 12 := by unfold fckI; rw [if_pos a0, a1, hb]; rfl
      simp (maxSteps:=500000) only [↓vp, vv, ↓reduceIte, simprocAttr, c124, r124, c124_1, c124_2, c124_3, c124_4, c124_5, c124_6, c124_7, c124_8, c124_9, TCf, selNet, Net.enc, Pln.enc, netD, plnD, hn1, hz, a0, bne_self_eq_false, c1, c2, c3]
      refine rng_loop n.segs.length (fun j => ⟨fr [(2, .ptr (0, 2) 0 0 0), (3, .ptr (0, 3) 0 0 0), (40, .sl (n.segs.map Seg.row)), (41, di n.segs.length), (42, di j)], HF n p⟩) (fun j => ((n.segs.zip p.rates).drop j).any rateBad = b) (weak_eq [] [(0, 2), (0, 3)] [(2, .ptr (0, 2) 0 0 0), (3, .ptr (0, 3) 0 0 0), (40, .sl (n.segs.map Seg.row)), (41, di n.segs.length), (42, di 0)] (by simp (maxSteps:=500000) only [↓vp, vv, ↓reduceIte, simprocAttr, coverS, HF, netD, plnD]) (by simp (maxSteps:=500000) only [↓vp, vv, ↓reduceIte, simprocAttr, refsF, HF, netD, plnD]) (by simp (maxSteps:=500000) only [↓vp, vv, ↓reduceIte, simprocAttr, HF, netD, plnD]) (by simp) (by simp (maxSteps:=500000) only [↓vp, vv, ↓reduceIte, simprocAttr, HF, netD, plnD]; try rfl)) hb (fun j hj he => ?_) (fun he => ?_)
      · have hj' : (j : Int) < n.segs.length := by omega
        have hn := idx_nn j
        have hsl := hv.sl
        have w1 := idx_next (j := j) (by omega)
        have hr : j < p.rates.length := by omega
        have hr' : (j : Int) < p.rates.length := by omega
        have hg := getD_map Seg.row n.segs j hj
        have hg2 := iRow_at p.rates j hr
        have hzl : j < (n.segs.zip p.rates).length := by rw [List.length_zip]; omega
        obtain ⟨hf, ht⟩ := drop_any hzl he
        have hx : (n.segs.zip p.rates)[j] = (n.segs[j], p.rates[j]) := List.getElem_zip
        rw [hx] at hf ht
        have hcp := hv.se _ (List.getElem_mem hj)
        generalize n.segs[j] = s at hg hf ht hcp
        generalize p.rates[j] = r at hg2 hf ht
        have hm : -1000000 ≤ most s ∧ most s ≤ 1000000 := by unfold most; constructor <;> split <;> omega
        have hm2 : (if s.cap < 1000 then s.cap else 1000) = most s := rfl
        cases d : withB r (most s) with
        | false =>
          have e1 := hf (by unfold rateBad; rw [d]; rfl)
          rw [e1] at hc
          have hc3 : fckI n p = 1 := hc
          simp (maxSteps:=500000) only [↓vp, vv, ↓reduceIte, simprocAttr, c124, r124, c124_1, c124_2, c124_3, c124_4, c124_5, c124_6, c124_7, c124_8, c124_9, TCf, TFw, selWithin, HF, netD, plnD, hj', hr', hn, Int.toNat_natCast, hg, hg2, Seg.row, hm2, hm, d, hc3, Pu]
        | true =>
          simp (maxSteps:=500000) only [↓vp, vv, ↓reduceIte, simprocAttr, c124, r124, c124_1, c124_2, c124_3, c124_4, c124_5, c124_6, c124_7, c124_8, c124_9, TCf, TFw, selWithin, HF, netD, plnD, hj', hr', hn, Int.toNat_natCast, hg, hg2, Seg.row, hm2, hm, d, w1]
          exact rng_next hj (weak_eq [] [(0, 2), (0, 3)] [(2, .ptr (0, 2) 0 0 0), (3, .ptr (0, 3) 0 0 0), (40, .sl (n.segs.map Seg.row)), (41, di n.segs.length), (42, di (j + 1 : Nat))] (by simp (maxSteps:=500000) only [↓vp, vv, ↓reduceIte, simprocAttr, coverS, HF, netD, plnD, w1, Seg.row]) (by simp (maxSteps:=500000) only [↓vp, vv, ↓reduceIte, simprocAttr, refsF, HF, netD, plnD, w1, Seg.row]) (by simp (maxSteps:=500000) only [↓vp, vv, ↓reduceIte, simprocAttr, HF, netD, plnD, w1, Seg.row]) (by simp) (by simp (maxSteps:=500000) only [↓vp, vv, ↓reduceIte, simprocAttr, HF, netD, plnD, w1, Seg.row]; try rfl)) (ht (by unfold rateBad; rw [d]; rfl))
      · have e1 : b = false := drop_any_end (by rw [List.length_zip]; omega) he
        rw [e1] at hc hb
        simp only [Bool.false_eq_true, if_false] at hc
        have hq : QOk Try.prog false 1 (qRow intOf1 portBadR) 152 [] (p.ports.map iRow) := by
          refine ⟨f152_ok, by simp; have := hq.ports; omega, fun r hr => ?_⟩
          obtain ⟨x, _, rfl⟩ := List.mem_map.1 hr
          exact ⟨rfl, rfl, fun _ => ⟨_, rfl⟩, fun nn => fck1_c x nn⟩
        have ho : outC (fun r => qRow intOf1 portBadR (elV false r)) (p.ports.map iRow) = db (p.ports.any portBadR) := by
          unfold outC
          rw [List.any_map]
          rfl
        cases a4 : p.ports.any portBadR with
        | true =>
          rw [a4] at ho hc
          have hc3 : fckI n p = 1 := hc
          simp (maxSteps:=500000) only [↓vp, vv, ↓reduceIte, simprocAttr, c124, r124, c124_1, c124_2, c124_3, c124_4, c124_5, c124_6, c124_7, c124_8, c124_9, TCf, selQ, ipsOf, HF, netD, plnD, Int.lt_irrefl, hq, ho, hc3, Pu]
        | false =>
          rw [a4] at ho hc
          simp only [Bool.false_eq_true, if_false] at hc
          have hfl := fl_ok hv l1 l2 hb a4
          have hord : OrdPre n p := ⟨by have := hv.nl; omega, by have := hv.sl; omega, l1, edge_ok p hv⟩
          have hl := amtM_len (flowsOf n p)
          by_cases a5 : amt comeOf (flowsOf n p) = amt leaveOf (flowsOf n p)
          · rw [if_pos a5] at hc
            have a5e := eqL_amt (flowsOf n p)
            rw [decide_eq_true a5] at a5e
            by_cases a6 : (ordB n p).length < n.nodes.length
            · rw [if_pos a6] at hc
              have a6' : ((ordB n p).length : Int) < n.nodes.length := by omega
              simp (maxSteps:=500000) only [↓vp, vv, ↓reduceIte, simprocAttr, c124, r124, c124_1, c124_2, c124_3, c124_4, c124_5, c124_6, c124_7, c124_8, c124_9, TCf, selQ, ipsOf, selNP, HF, netD, plnD, Int.lt_irrefl, hq, ho, hn1, hp1, hfl, hord, hl, put_all, amt_take, amt_drop, a5e, a6', refs_di, nms_di, di_done, flat_di, hc, Pu]
            · rw [if_neg a6] at hc
              have a6' : ¬ ((ordB n p).length : Int) < n.nodes.length := by omega
              simp (maxSteps:=500000) only [↓vp, vv, ↓reduceIte, simprocAttr, c124, r124, c124_1, c124_2, c124_3, c124_4, c124_5, c124_6, c124_7, c124_8, c124_9, TCf, selQ, ipsOf, selNP, HF, netD, plnD, Int.lt_irrefl, hq, ho, hn1, hp1, hfl, hord, hl, put_all, amt_take, amt_drop, a5e, a6', refs_di, nms_di, di_done, flat_di, hc, Pu]
          · rw [if_neg a5] at hc
            have a5e := eqL_amt (flowsOf n p)
            rw [decide_eq_false a5] at a5e
            simp (maxSteps:=500000) only [↓vp, vv, ↓reduceIte, simprocAttr, c124, r124, c124_1, c124_2, c124_3, c124_4, c124_5, c124_6, c124_7, c124_8, c124_9, TCf, selQ, ipsOf, selNP, HF, netD, plnD, Int.lt_irrefl, hq, ho, hn1, hp1, hfl, hl, put_all, amt_take, amt_drop, a5e, refs_di, nms_di, di_done, flat_di, hc, Pu, decide_true, decide_false]
  · have b0 : (checkI n != 0) = true := by simp [a0]
    have hc : fckI n p = checkI n := by unfold fckI; rw [if_neg a0]
    simp (maxSteps:=500000) only [↓vp, vv, ↓reduceIte, simprocAttr, c124, r124, c124_1, c124_2, c124_3, c124_4, c124_5, c124_6, c124_7, c124_8, c124_9, TCf, selNet, Net.enc, Pln.enc, netD, plnD, hn1, hz, b0, hc, Pu]
structure PlnV (n : Net) (p : Pln) : Prop where
  net : NetV n
  ck : checkI n = 0
  rl : p.rates.length = n.segs.length
  pl : p.ports.length = n.ports.length
  ul : p.pumps.length = n.sts.length
  rb : ∀ x ∈ n.segs.zip p.rates, withB x.2 (most x.1) = true
  pb : ∀ r ∈ p.ports, -1000 ≤ r ∧ r ≤ 1000
  fl : FlOk n p
  bal : amt comeOf (flowsOf n p) = amt leaveOf (flowsOf n p)
  ord : OrdPre n p
  all : n.nodes.length ≤ (ordB n p).length
theorem fck0 {n : Net} {p : Pln} (h : fckI n p = 0) : PlnV n p := by
  unfold fckI at h
  split at h
  · rename_i a0
    have hv := check0 a0
    cases a1 : lenBad n p with
    | true => rw [a1] at h; simp at h
    | false =>
      obtain ⟨l1, l2, l3⟩ := len_ok a1
      rw [a1] at h
      cases a2 : (n.segs.zip p.rates).any rateBad with
      | true => rw [a2] at h; simp at h
      | false =>
        rw [a2] at h
        cases a3 : p.ports.any portBadR with
        | true => rw [a3] at h; simp at h
        | false =>
          rw [a3] at h
          simp only [Bool.false_eq_true, if_false] at h
          split at h
          · rename_i a5
            split at h
            · cases h
            · rename_i a6
              refine ⟨hv, a0, l1, l2, l3, fun x hx => ?_, fun r hr => ?_, fl_ok hv l1 l2 a2 a3, a5, ⟨by have := hv.nl; omega, by have := hv.sl; omega, l1, edge_ok p hv⟩, by omega⟩
              · have := any_f a2 hx
                unfold rateBad at this
                simpa using this
              · have := any_f a3 hr
                unfold portBadR at this
                exact withB_of (by simpa using this)
          · cases h
  · rename_i h1; exact absurd h h1
def FckPre (n : Net) (p : Pln) : Prop := NetSz n ∧ PlnSz p
def posI (r : Int) : Int := if 0 < r then r else 0
def negI (r : Int) : Int := if 0 < -r then -r else 0
def c23_1 : C := (.seq (.ops false [oP 21 (.ld 6 true (.t 1)), oP 22 (.ld 3 true (.t 4)), oP 23 (.ld 3 true (.t 2)), oP 24 (.bsl 3 1 [.mt, (.v (.int .i64 0)), (.v (.int .i64 0))] [(0, (.t 23))]), oP 25 (.call 41 [(.t 21), (.t 22), (.t 24), (cI 3)]), oP 20 (.mv (.t 25)), oP 26 (.ext (.t 20) 0), oP 27 (.ext (.t 20) 1), oP 5 (.mv (.t 26)), oP 6 (.mv (.t 27))]) (.seq (.ops false [oP 29 (.ld 6 true (.t 1)),
  oP 30 (.ld 3 true (.t 4)), oP 31 (.ld 3 true (.t 2)), oP 32 (.bsl 3 1 [.mt, (.v (.int .i64 0)), (.v (.int .i64 0))] [(0, (.t 31))]), oP 33 (.call 41 [(.t 29), (.t 30), (.t 32), (cI 4)]), oP 28 (.mv (.t 33)), oP 34 (.ext (.t 28) 0), oP 35 (.ext (.t 28) 1), oP 7 (.mv (.t 34)), oP 8 (.mv (.t 35))]) (.seq (.ops true [oP 36 (.mv (.t 3)), oA 37 (.bin .eql (.t 36) (cI 0)) [0], oA 38 (.mv (.t 37)) [0, 1],
  oH 39 38 true (.mv (.t 6)) [1, 0, 2], oH 40 38 true (.bin .eql (.t 39) (cI 0)) [0, 1, 2, 3], oA 41 (.pick (.t 38) (.t 40) (cB false)) [3, 1, 0, 4, 2], oA 42 (.mv (.t 41)) [4, 0, 1, 3, 2, 5], oH 43 42 true (.mv (.t 8)) [5, 2, 3, 1, 0, 4, 6], oH 44 42 true (.bin .eql (.t 43) (cI 0)) [4, 0, 1, 3, 2, 5, 6, 7], oA 45 (.pick (.t 42) (.t 44) (cB false)) [7, 5, 2, 3, 1, 0, 4, 8, 6], oA 46 (.mv (.t 45))
  [8, 4, 0, 1, 3, 2, 5, 7, 6, 9], oH 47 46 true (.mv (.t 5)) [9, 6, 7, 5, 2, 3, 1, 0, 4, 8, 10], oH 48 46 true (.len (.t 47)) [8, 4, 0, 1, 3, 2, 5, 7, 6, 9, 10, 11], oH 49 46 true (.bin .eql (.t 48) (cI 1)) [11, 9, 6, 7, 5, 2, 3, 1, 0, 4, 8, 10, 12], oA 50 (.pick (.t 46) (.t 49) (cB false)) [12, 11, 9, 6, 7, 5, 2, 3, 1, 0, 4, 8, 13, 10], oA 51 (.mv (.t 50)) [13, 8, 4, 0, 1, 3, 2, 5, 7, 6, 9, 11, 12,
  10, 14], oH 52 51 true (.mv (.t 7)) [14, 10, 12, 11, 9, 6, 7, 5, 2, 3, 1, 0, 4, 8, 13, 15], oH 53 51 true (.len (.t 52)) [13, 8, 4, 0, 1, 3, 2, 5, 7, 6, 9, 11, 12, 10, 14, 15, 16], oH 54 51 true (.bin .eql (.t 53) (cI 1)) [16, 14, 10, 12, 11, 9, 6, 7, 5, 2, 3, 1, 0, 4, 8, 13, 15, 17], oA 55 (.pick (.t 51) (.t 54) (cB false)) [17, 16, 14, 10, 12, 11, 9, 6, 7, 5, 2, 3, 1, 0, 4, 8, 13, 18, 15],
  oA 56 (.mv (.t 55)) [18, 13, 8, 4, 0, 1, 3, 2, 5, 7, 6, 9, 11, 12, 10, 14, 16, 17, 15, 19], oH 57 56 true (.mv (.t 5)) [19, 15, 17, 16, 14, 10, 12, 11, 9, 6, 7, 5, 2, 3, 1, 0, 4, 8, 13, 18, 20], oH 58 56 true (.iaS 3 (.t 57) (cI 0)) [18, 13, 8, 4, 0, 1, 3, 2, 5, 7, 6, 9, 11, 12, 10, 14, 16, 17, 15, 19, 20, 21], oH 59 56 true (.fa 2 (.t 58)) [21, 19, 15, 17, 16, 14, 10, 12, 11, 9, 6, 7, 5, 2, 3, 1,
  0, 4, 8, 13, 18, 20, 22], oH 60 56 true (.ld 1 false (.t 59)) [22, 18, 13, 8, 4, 0, 1, 3, 2, 5, 7, 6, 9, 11, 12, 10, 14, 16, 17, 15, 19, 21, 20, 23], oH 61 56 true (.bin .eql (.t 60) (cI 90)) [23, 21, 19, 15, 17, 16, 14, 10, 12, 11, 9, 6, 7, 5, 2, 3, 1, 0, 4, 8, 13, 18, 22, 20, 24], oA 62 (.pick (.t 56) (.t 61) (cB false)) [24, 22, 21, 23, 19, 15, 17, 16, 14, 10, 12, 11, 9, 6, 7, 5, 2, 3, 1, 0, 4,
  8, 13, 18, 25, 20], oA 63 (.mv (.t 62)) [25, 18, 13, 8, 4, 0, 1, 3, 2, 5, 7, 6, 9, 11, 12, 10, 14, 16, 17, 15, 19, 23, 21, 22, 24, 20, 26], oH 64 63 true (.mv (.t 5)) [26, 20, 24, 22, 21, 23, 19, 15, 17, 16, 14, 10, 12, 11, 9, 6, 7, 5, 2, 3, 1, 0, 4, 8, 13, 18, 25, 27], oH 65 63 true (.iaS 3 (.t 64) (cI 0)) [25, 18, 13, 8, 4, 0, 1, 3, 2, 5, 7, 6, 9, 11, 12, 10, 14, 16, 17, 15, 19, 23, 21, 22, 24,
  20, 26, 27, 28], oH 66 63 true (.ld 3 true (.t 65)) [28, 26, 20, 24, 22, 21, 23, 19, 15, 17, 16, 14, 10, 12, 11, 9, 6, 7, 5, 2, 3, 1, 0, 4, 8, 13, 18, 25, 27, 29], oD 67 63 true (.call 30 [(.t 66)]) [29, 25, 18, 13, 8, 4, 0, 1, 3, 2, 5, 7, 6, 9, 11, 12, 10, 14, 16, 17, 15, 19, 23, 21, 22, 24, 20, 26, 28, 27, 30], oH 68 63 true (.not (.t 67)) [30, 28, 26, 20, 24, 22, 21, 23, 19, 15, 17, 16, 14, 10,
  12, 11, 9, 6, 7, 5, 2, 3, 1, 0, 4, 8, 13, 18, 25, 29, 27, 31], oA 69 (.pick (.t 63) (.t 68) (cB false)) [31, 29, 28, 30, 26, 20, 24, 22, 21, 23, 19, 15, 17, 16, 14, 10, 12, 11, 9, 6, 7, 5, 2, 3, 1, 0, 4, 8, 13, 18, 25, 32, 27], oA 70 (.mv (.t 69)) [27, 32, 25, 18, 13, 8, 4, 0, 1, 3, 2, 5, 7, 6, 9, 11, 12, 10, 14, 16, 17, 15, 19, 23, 21, 22, 24, 20, 26, 30, 28, 29, 31, 33],
  oH 71 70 true (.mv (.t 7)) [33, 31, 29, 28, 30, 26, 20, 24, 22, 21, 23, 19, 15, 17, 16, 14, 10, 12, 11, 9, 6, 7, 5, 2, 3, 1, 0, 4, 8, 13, 18, 25, 32, 27, 34], oH 72 70 true (.iaS 3 (.t 71) (cI 0)) [27, 32, 25, 18, 13, 8, 4, 0, 1, 3, 2, 5, 7, 6, 9, 11, 12, 10, 14, 16, 17, 15, 19, 23, 21, 22, 24, 20, 26, 30, 28, 29, 31, 33, 34, 35], oH 73 70 true (.ld 3 true (.t 72)) [35, 33, 31, 29, 28, 30, 26, 20,
  24, 22, 21, 23, 19, 15, 17, 16, 14, 10, 12, 11, 9, 6, 7, 5, 2, 3, 1, 0, 4, 8, 13, 18, 25, 32, 27, 34, 36], oD 74 70 true (.call 30 [(.t 73)]) [36, 27, 32, 25, 18, 13, 8, 4, 0, 1, 3, 2, 5, 7, 6, 9, 11, 12, 10, 14, 16, 17, 15, 19, 23, 21, 22, 24, 20, 26, 30, 28, 29, 31, 33, 35, 34, 37], oA 75 (.pick (.t 70) (.t 74) (cB false)) [37, 35, 36, 33, 31, 29, 28, 30, 26, 20, 24, 22, 21, 23, 19, 15, 17, 16,
  14, 10, 12, 11, 9, 6, 7, 5, 2, 3, 1, 0, 4, 8, 13, 18, 25, 32, 27, 38, 34], oA 76 (.mv (.t 75)) [34, 27, 32, 25, 18, 13, 8, 4, 0, 1, 3, 2, 5, 7, 6, 9, 11, 12, 10, 14, 16, 17, 15, 19, 23, 21, 22, 24, 20, 26, 30, 28, 29, 31, 33, 36, 35, 37, 38, 39], oH 77 76 true (.ld 6 true (.t 1)) [39, 38, 37, 35, 36, 33, 31, 29, 28, 30, 26, 20, 24, 22, 21, 23, 19, 15, 17, 16, 14, 10, 12, 11, 9, 6, 7, 5, 2, 3, 1,
  0, 4, 8, 13, 18, 25, 32, 27, 34, 40], oH 78 76 true (.mv (.t 7)) [39, 38, 37, 35, 36, 33, 31, 29, 28, 30, 26, 20, 24, 22, 21, 23, 19, 15, 17, 16, 14, 10, 12, 11, 9, 6, 7, 5, 2, 3, 1, 0, 4, 8, 13, 18, 25, 32, 27, 34, 40], oH 79 76 true (.iaS 3 (.t 78) (cI 0)) [34, 27, 32, 25, 18, 13, 8, 4, 0, 1, 3, 2, 5, 7, 6, 9, 11, 12, 10, 14, 16, 17, 15, 19, 23, 21, 22, 24, 20, 26, 30, 28, 29, 31, 33, 36, 35,
  37, 38, 39, 40, 42], oH 80 76 true (.ld 3 true (.t 79)) [42, 39, 38, 37, 35, 36, 33, 31, 29, 28, 30, 26, 20, 24, 22, 21, 23, 19, 15, 17, 16, 14, 10, 12, 11, 9, 6, 7, 5, 2, 3, 1, 0, 4, 8, 13, 18, 25, 32, 27, 34, 40, 43], oD 81 76 true (.call 46 [(.t 77), (.t 80)]) [43, 42, 34, 27, 32, 25, 18, 13, 8, 4, 0, 1, 3, 2, 5, 7, 6, 9, 11, 12, 10, 14, 16, 17, 15, 19, 23, 21, 22, 24, 20, 26, 30, 28, 29, 31,
  33, 36, 35, 37, 38, 39, 40, 44, 41], oA 82 (.pick (.t 76) (.t 81) (cB false)) [41, 44, 42, 43, 39, 38, 37, 35, 36, 33, 31, 29, 28, 30, 26, 20, 24, 22, 21, 23, 19, 15, 17, 16, 14, 10, 12, 11, 9, 6, 7, 5, 2, 3, 1, 0, 4, 8, 13, 18, 25, 32, 27, 34, 45, 40], oA 0 (.mv (.t 82)) [44, 43, 42, 41, 40, 39, 38, 37, 36, 35, 34, 33, 32, 31, 30, 29, 28, 27, 26, 25, 24, 23, 22, 21, 20, 19, 18, 17, 16, 15, 14,
  13, 12, 11, 10, 9, 8, 7, 6, 5, 4, 3, 2, 1, 0, 45, 46]]) .ret)))
def c23 : C := (.seq (.ops false [oP 0 (.mv (cB false))]) (.seq (.ops false [oP 9 (.call 24 [(cI 100)]), oP 1 (.new [.mt, .mt, .mt, .mt, (.v (.int .i64 0)), (.v (.int .i64 0))]), oS (.st 6 (.t 1) (.t 9))]) (.seq (.ops false [oP 11 (.ld 6 true (.t 1)), oP 12 (.bld [(.v (.int .i64 0)), (.v (.bool false))] []), oP 13 (.bsl 2 1 [(.v (.int .i64 0)), (.v (.bool false))] [(0, (.t 12))]), oP 14 (.call 38 [(.t 11),
  (.t 13)]), oP 10 (.mv (.t 14)), oP 15 (.ext (.t 10) 0), oP 16 (.ext (.t 10) 1), oP 2 (.new [.mt, (.v (.int .i64 0)), (.v (.int .i64 0))]), oS (.st 3 (.t 2) (.t 15)), oP 3 (.mv (.t 16))]) (.seq (.ops false [oP 17 (.bsl 1 1 [(.v (.int .i64 0))] [(0, (cI 30))]), oP 18 (.bsl 1 2 [(.v (.int .i64 0))] [(0, (cI 30)), (1, (cI (-30)))]), oP 19 (.bld [.mt, .mt, .mt] [(0, (1, (.t 17))), (1, (1, (.t 18)))]),
  oP 4 (.new [.mt, .mt, .mt]), oS (.st 3 (.t 4) (.t 19))]) (.weak c23_1)))))
def r23 : List RV := [(.tmp 0)]
theorem c23_ok : ∃ code, Try.f23.body = some code ∧ compC Try.prog Try.f23.ntmps code = some (C.strip c23) := ⟨_, rfl, by kernel_rfl⟩
theorem r23_ok : compRes Try.prog Try.f23.results.toList = some r23 := by kernel_rfl
theorem f23_ok : fnOk Try.prog 23 = true := by kernel_rfl
def c24 : C := (.seq (.ops false [oP 2 (.new [.mt, .mt, .mt, .mt, (.v (.int .i64 0)), (.v (.int .i64 0))])]) (.seq (.ops false [oP 3 (.bsl 1 2 [(.v (.string ({ data := #[] })))] [(0, (.c (.v (.string ({ data := #[97] }))))), (1, (.c (.v (.string ({ data := #[98] })))))]), oP 4 (.mv (.t 0)), oP 5 (.bld [(.v (.int .i64 0)), (.v (.int .i64 0)), (.v (.int .i64 0))] [(2, (1, (cI 1000000)))]), oP 6 (.mv (.t 0)),
  oP 7 (.bld [(.v (.int .i64 0)), (.v (.int .i64 0)), (.v (.int .i64 0))] [(0, (1, (.t 6))), (2, (1, (cI 1000000)))]), oP 8 (.bsl 3 2 [(.v (.int .i64 0)), (.v (.int .i64 0)), (.v (.int .i64 0))] [(0, (.t 5)), (1, (.t 7))]), oP 9 (.bld [(.v (.string ({ data := #[] }))), (.v (.int .i64 0)), (.v (.int .i64 0)), (.v (.int .i64 0)), (.v (.int .i64 0)), (.v (.int .i64 0)), .mt] [(0, (1,
  (.c (.v (.string ({ data := #[103] })))))), (1, (1, (cI 0))), (2, (1, (cI 1))), (3, (1, (.t 4))), (6, (1, (.t 8)))]), oP 10 (.bsl 7 1 [(.v (.string ({ data := #[] }))), (.v (.int .i64 0)), (.v (.int .i64 0)), (.v (.int .i64 0)), (.v (.int .i64 0)), (.v (.int .i64 0)), .mt] [(0, (.t 9))]), oP 11 (.bld [(.v (.string ({ data := #[] }))), (.v (.int .i64 0)), (.v (.int .i64 0))] [(0, (1,
  (.c (.v (.string ({ data := #[112] })))))), (1, (1, (cI 0))), (2, (1, (cI 300000)))]), oP 12 (.bld [(.v (.string ({ data := #[] }))), (.v (.int .i64 0)), (.v (.int .i64 0))] [(0, (1, (.c (.v (.string ({ data := #[113] })))))), (1, (1, (cI 1)))]), oP 13 (.bsl 3 2 [(.v (.string ({ data := #[] }))), (.v (.int .i64 0)), (.v (.int .i64 0))] [(0, (.t 11)), (1, (.t 12))]), oP 14 (.bld [.mt, .mt, .mt,
  .mt, (.v (.int .i64 0)), (.v (.int .i64 0))] [(0, (1, (.t 3))), (1, (1, (.t 10))), (2, (1, (.t 13)))]), oS (.st 6 (.t 2) (.t 14))]) (.weak .ret)))
def r24 : List RV := [(.cell 2 6 true)]
theorem c24_ok : ∃ code, Try.f24.body = some code ∧ compC Try.prog Try.f24.ntmps code = some (C.strip c24) := ⟨_, rfl, by kernel_rfl⟩
theorem r24_ok : compRes Try.prog Try.f24.results.toList = some r24 := by kernel_rfl
theorem f24_ok : fnOk Try.prog 24 = true := by kernel_rfl
def c30 : C := (.seq (.ops false [oP 1 (.box 3 (.t 0)), oP 2 (.mv (cB false))]) (.seq (.ops false [oP 3 (.fa 0 (.t 1)), oP 4 (.ld 1 false (.t 3)), oP 5 (.len (.t 4)), oP 6 (.bin .gtr (.t 5) (cI 0)), oP 7 (.mv (.t 6)), oG 8 7 true (.fa 1 (.t 1)), oG 9 7 true (.ld 1 false (.t 8)), oG 10 7 true (.fa 0 (.t 1)), oG 11 7 true (.ld 1 false (.t 10)), oG 12 7 true (.len (.t 11)), oG 13 7 true (.bin .eql (.t 9) (.t 12)),
  oP 14 (.pick (.t 7) (.t 13) (cB false)), oP 2 (.mv (.t 14))]) .ret))
def r30 : List RV := [(.tmp 2)]
theorem c30_ok : ∃ code, Try.f30.body = some code ∧ compC Try.prog Try.f30.ntmps code = some (C.strip c30) := ⟨_, rfl, by kernel_rfl⟩
theorem r30_ok : compRes Try.prog Try.f30.results.toList = some r30 := by kernel_rfl
theorem f30_ok : fnOk Try.prog 30 = true := by kernel_rfl
def c38_1 : C := (.seq (.ops false [oP 21 (.ld 3 true (.t 7)), oP 22 (.call 79 [(.t 21)]), oS (.st 3 (.t 4) (.t 22)), oP 5 (.mv (cI 0))]) .ret)
def c38_2 : C := (.seq (.ops false [oP 14 (.mv (.t 1)), oP 15 (.bld [.mt, (.v (.int .i64 0)), (.v (.int .i64 0))] [(0, (1, (.t 14)))]), oP 7 (.new [.mt, (.v (.int .i64 0)), (.v (.int .i64 0))]), oS (.st 3 (.t 7) (.t 15))]) (.seq (.seq (.ops false [oP 16 (.ld 6 true (.t 2)), oP 17 (.ld 3 true (.t 7)), oB 18 (.call 96 [(.t 16), (.t 17)]), oP 19 (.not (.t 18))]) (.cond (.t 19) (.seq (.ops false [oP 20 (.bld [.mt,
  (.v (.int .i64 0)), (.v (.int .i64 0))] []), oS (.st 3 (.t 4) (.t 20)), oP 5 (.mv (cI 24))]) .ret) .skip)) c38_1))
def c38 : C := (.seq (.ops false [oP 2 (.box 6 (.t 0)), oP 4 (.new [.mt, (.v (.int .i64 0)), (.v (.int .i64 0))]), oP 5 (.mv (cI 0))]) (.seq (.seq (.ops false [oP 8 (.ld 6 true (.t 2)), oB 9 (.call 95 [(.t 8)]), oP 6 (.mv (.t 9))]) (.seq (.ops false [oP 10 (.mv (.t 6)), oP 11 (.bin .neq (.t 10) (cI 0))]) (.cond (.t 11) (.seq (.ops false [oP 12 (.bld [.mt, (.v (.int .i64 0)), (.v (.int .i64 0))] []),
  oP 13 (.mv (.t 6)), oS (.st 3 (.t 4) (.t 12)), oP 5 (.mv (.t 13))]) .ret) .skip))) c38_2))
def r38 : List RV := [(.cell 4 3 true), (.tmp 5)]
theorem c38_ok : ∃ code, Try.f38.body = some code ∧ compC Try.prog Try.f38.ntmps code = some (C.strip c38) := ⟨_, rfl, by kernel_rfl⟩
theorem r38_ok : compRes Try.prog Try.f38.results.toList = some r38 := by kernel_rfl
theorem f38_ok : fnOk Try.prog 38 = true := by kernel_rfl
def c41_1 : C := (.seq (.block 1 (.seq (.ops false [oP 19 (.iaS 3 (.t 15) (.t 17)), oP 20 (.ld 3 true (.t 19)), oP 12 (.new [.mt, (.v (.int .i64 0)), (.v (.int .i64 0))]), oS (.st 3 (.t 12) (.t 20))]) (.ops false [oP 21 (.mv (.t 10)), oP 22 (.ld 3 true (.t 12)), oP 23 (.call 79 [(.t 22)]), oP 24 (.bsl 3 1 [.mt, (.v (.int .i64 0)), (.v (.int .i64 0))] [(0, (.t 23))]), oP 25 (.app 3 40 (.t 21) (.t 24)),
  oP 10 (.mv (.t 25))]))) (.ops false [oP 26 (.bin .add (.t 17) (cI 1)), oP 17 (.mv (.t 26))]))
def c41_2 : C := (.seq (.ops false [oP 18 (.bin .lss (.t 17) (.t 16))]) (.seq (.cond (.t 18) .skip (.exit 0)) c41_1))
def c41_3 : C := (.seq (.block 6 (.ops true [oP 56 (.mv (.t 10)), oP 57 (.mv (.t 14)), oP 58 (.ld 6 true (.t 4)), oP 59 (.ld 3 true (.t 5)), oP 60 (.mv (.t 10)), oP 61 (.mv (.t 14)), oA 62 (.iaS 3 (.t 60) (.t 61)) [5, 4], oA 63 (.ld 3 true (.t 62)) [4, 5, 6], oA 64 (.call 80 [(.t 58), (.t 59), (.t 63)]) [6, 5, 4, 7, 3, 2], oA 65 (.iaS 3 (.t 56) (.t 57)) [8, 7, 6, 5, 4, 3, 2, 1, 0], oT (.st 3 (.t 65) (.t 64)) [7,
  6, 5, 4, 3, 2, 1, 0, 8, 9]])) (.ops false [oP 66 (.bin .add (.t 54) (cI 1)), oP 54 (.mv (.t 66))]))
def c41_4 : C := (.seq (.ops false [oP 55 (.bin .lss (.t 54) (.t 53))]) (.seq (.cond (.t 55) .skip (.exit 5)) c41_3))
def c41_5 : C := (.ops false [oP 67 (.bin .add (.t 50) (cI 1)), oP 50 (.mv (.t 67))])
def c41_6 : C := (.seq (.block 4 (.seq (.ops false [oP 52 (.mv (.t 50)), oP 14 (.mv (.t 52))]) (.seq (.ops false [oP 53 (.mv (.t 3)), oP 54 (.mv (cI 0))]) (.block 5 (.loop c41_4))))) c41_5)
def c41_7 : C := (.seq (.ops false [oP 51 (.bin .lss (.t 50) (.t 49))]) (.seq (.cond (.t 51) .skip (.exit 3)) c41_6))
def c41_8 : C := (.seq (.ops false [oP 68 (.mv (.t 10)), oP 8 (.mv (.t 68)), oP 9 (.mv (cI 0))]) .ret)
def c41_9 : C := (.seq (.seq (.ops false [oP 48 (.mv (.t 10)), oP 49 (.len (.t 48)), oP 50 (.mv (cI 0))]) (.block 3 (.loop c41_7))) c41_8)
def c41_10 : C := (.seq (.block 2 (.seq (.ops false [oP 36 (.mv (.t 2)), oP 37 (.len (.t 36)), oP 38 (.bin .gtr (.t 37) (cI 16)), oP 35 (.mv (.t 38))]) (.cond (.t 35) (.seq (.ops false [oP 39 (.mv (.t 10)), oP 8 (.mv (.t 39)), oP 9 (.mv (cI 4))]) .ret) (.seq (.ops false [oP 41 (.mv (.t 3)), oP 42 (.bin .lss (.t 41) (cI 0)), oP 43 (.mv (.t 42)), oG 44 43 false (.mv (.t 3)), oG 45 43 false (.bin .gtr (.t 44)
  (cI 400)), oP 46 (.pick (.t 43) (cB true) (.t 45)), oP 40 (.mv (.t 46))]) (.cond (.t 40) (.seq (.ops false [oP 47 (.mv (.t 10)), oP 8 (.mv (.t 47)), oP 9 (.mv (cI 1))]) .ret) .skip))))) (.weak c41_9))
def c41_11 : C := (.seq (.seq (.ops false [oP 27 (.ld 6 true (.t 4)), oP 28 (.ld 3 true (.t 5)), oP 29 (.mv (.t 2)), oB 30 (.call 78 [(.t 27), (.t 28), (.t 29)]), oP 13 (.mv (.t 30))]) (.seq (.ops false [oP 31 (.mv (.t 13)), oP 32 (.bin .neq (.t 31) (cI 0))]) (.cond (.t 32) (.seq (.ops false [oP 33 (.mv (.t 10)), oP 34 (.mv (.t 13)), oP 8 (.mv (.t 33)), oP 9 (.mv (.t 34))]) .ret) .skip))) c41_10)
def c41 : C := (.seq (.ops false [oP 4 (.box 6 (.t 0)), oP 5 (.box 3 (.t 1)), oP 8 (.mv (.c .mt)), oP 9 (.mv (cI 0))]) (.seq (.ops false [oP 10 (.mv (.c .mt))]) (.seq (.seq (.ops false [oP 15 (.mv (.t 2)), oP 16 (.len (.t 15)), oP 17 (.mv (cI 0))]) (.block 0 (.loop c41_2))) (.weak c41_11))))
def r41 : List RV := [(.tmp 8), (.tmp 9)]
theorem c41_ok : ∃ code, Try.f41.body = some code ∧ compC Try.prog Try.f41.ntmps code = some (C.strip c41) := ⟨_, rfl, by kernel_rfl⟩
theorem r41_ok : compRes Try.prog Try.f41.results.toList = some r41 := by kernel_rfl
theorem f41_ok : fnOk Try.prog 41 = true := by kernel_rfl
def c43_1 : C := (.seq (.ops false [oP 32 (.fa 1 (.t 4)), oP 33 (.ld 1 false (.t 32)), oP 34 (.fa 1 (.t 5)), oP 35 (.ld 1 false (.t 34)), oP 36 (.bin .lss (.t 33) (.t 35)), oP 37 (.mv (.t 36)), oG 38 37 false (.fa 1 (.t 4)), oG 39 37 false (.ld 1 false (.t 38)), oG 40 37 false (.fa 1 (.t 5)), oG 41 37 false (.ld 1 false (.t 40)), oG 42 37 false (.bin .eql (.t 39) (.t 41)), oG 43 37 false (.mv (.t 42)),
  oG 44 43 true (.fa 2 (.t 4)), oG 45 43 true (.ld 1 false (.t 44)), oG 46 43 true (.fa 2 (.t 5)), oG 47 43 true (.ld 1 false (.t 46)), oG 48 43 true (.bin .lss (.t 45) (.t 47)), oG 49 37 false (.pick (.t 43) (.t 48) (cB false)), oP 50 (.pick (.t 37) (cB true) (.t 49)), oP 6 (.mv (.t 50)), oP 7 (.mv (cI 0))]) .ret)
def c43_2 : C := (.seq (.seq (.ops false [oP 14 (.ld 6 true (.t 3)), oP 15 (.ld 3 true (.t 4)), oB 16 (.call 96 [(.t 14), (.t 15)]), oP 17 (.not (.t 16)), oP 18 (.mv (.t 17)), oG 19 18 false (.ld 6 true (.t 3)), oG 20 18 false (.ld 3 true (.t 5)), oD 21 18 false (.call 96 [(.t 19), (.t 20)]) [], oG 22 18 false (.not (.t 21)), oP 23 (.pick (.t 18) (cB true) (.t 22)), oP 24 (.mv (.t 23)),
  oG 25 24 false (.fa 0 (.t 4)), oG 26 24 false (.ld 1 false (.t 25)), oG 27 24 false (.fa 0 (.t 5)), oG 28 24 false (.ld 1 false (.t 27)), oD 29 24 false (.call 102 [(.t 26), (.t 28)]) [], oG 30 24 false (.not (.t 29)), oP 31 (.pick (.t 24) (cB true) (.t 30))]) (.cond (.t 31) (.seq (.ops false [oP 6 (.mv (cB false)), oP 7 (.mv (cI 24))]) .ret) .skip)) c43_1)
def c43 : C := (.seq (.ops false [oP 3 (.box 6 (.t 0)), oP 4 (.box 3 (.t 1)), oP 5 (.box 3 (.t 2)), oP 6 (.mv (cB false)), oP 7 (.mv (cI 0))]) (.seq (.seq (.ops false [oP 9 (.ld 6 true (.t 3)), oB 10 (.call 95 [(.t 9)]), oP 8 (.mv (.t 10))]) (.seq (.ops false [oP 11 (.mv (.t 8)), oP 12 (.bin .neq (.t 11) (cI 0))]) (.cond (.t 12) (.seq (.ops false [oP 13 (.mv (.t 8)), oP 6 (.mv (cB false)), oP 7 (.mv (.t 13))])
  .ret) .skip))) c43_2))
def r43 : List RV := [(.tmp 6), (.tmp 7)]
theorem c43_ok : ∃ code, Try.f43.body = some code ∧ compC Try.prog Try.f43.ntmps code = some (C.strip c43) := ⟨_, rfl, by kernel_rfl⟩
theorem r43_ok : compRes Try.prog Try.f43.results.toList = some r43 := by kernel_rfl
theorem f43_ok : fnOk Try.prog 43 = true := by kernel_rfl
def c46 : C := (.seq (.ops false [oP 2 (.box 6 (.t 0)), oP 3 (.box 3 (.t 1)), oP 4 (.mv (cB false))]) (.seq (.ops false [oP 5 (.ld 6 true (.t 2)), oB 6 (.call 95 [(.t 5)]), oP 7 (.bin .eql (.t 6) (cI 0)), oP 8 (.mv (.t 7)), oG 9 8 true (.ld 6 true (.t 2)), oG 10 8 true (.ld 3 true (.t 3)), oD 11 8 true (.call 96 [(.t 9), (.t 10)]) [], oP 12 (.pick (.t 8) (.t 11) (cB false)), oP 4 (.mv (.t 12))]) .ret))
def r46 : List RV := [(.tmp 4)]
theorem c46_ok : ∃ code, Try.f46.body = some code ∧ compC Try.prog Try.f46.ntmps code = some (C.strip c46) := ⟨_, rfl, by kernel_rfl⟩
theorem r46_ok : compRes Try.prog Try.f46.results.toList = some r46 := by kernel_rfl
theorem f46_ok : fnOk Try.prog 46 = true := by kernel_rfl
def c78_1 : C := (.seq (.ops false [oP 6 (.mv (cI 0))]) .ret)
def c78_2 : C := (.seq (.seq (.ops false [oP 20 (.mv (.t 2)), oP 21 (.mkf 126 [] [(.t 3)]), oB 22 (.call 125 [(.t 20), (.t 21)])]) (.cond (.t 22) (.seq (.ops false [oP 6 (.mv (cI 24))]) .ret) .skip)) c78_1)
def c78_3 : C := (.seq (.seq (.ops false [oP 14 (.ld 6 true (.t 3)), oP 15 (.ld 3 true (.t 4)), oB 16 (.call 124 [(.t 14), (.t 15)]), oP 8 (.mv (.t 16))]) (.seq (.ops false [oP 17 (.mv (.t 8)), oP 18 (.bin .neq (.t 17) (cI 0))]) (.cond (.t 18) (.seq (.ops false [oP 19 (.mv (.t 8)), oP 6 (.mv (.t 19))]) .ret) .skip))) (.weak c78_2))
def c78 : C := (.seq (.ops false [oP 3 (.box 6 (.t 0)), oP 4 (.box 3 (.t 1)), oP 6 (.mv (cI 0))]) (.seq (.seq (.ops false [oP 9 (.ld 6 true (.t 3)), oB 10 (.call 95 [(.t 9)]), oP 7 (.mv (.t 10))]) (.seq (.ops false [oP 11 (.mv (.t 7)), oP 12 (.bin .neq (.t 11) (cI 0))]) (.cond (.t 12) (.seq (.ops false [oP 13 (.mv (.t 7)), oP 6 (.mv (.t 13))]) .ret) .skip))) c78_3))
def r78 : List RV := [(.tmp 6)]
theorem c78_ok : ∃ code, Try.f78.body = some code ∧ compC Try.prog Try.f78.ntmps code = some (C.strip c78) := ⟨_, rfl, by kernel_rfl⟩
theorem r78_ok : compRes Try.prog Try.f78.results.toList = some r78 := by kernel_rfl
theorem f78_ok : fnOk Try.prog 78 = true := by kernel_rfl
def c79 : C := (.seq (.ops false [oP 1 (.box 3 (.t 0)), oP 2 (.new [.mt, (.v (.int .i64 0)), (.v (.int .i64 0))])]) (.seq (.ops false [oP 4 (.fa 0 (.t 1)), oP 5 (.ld 1 false (.t 4)), oP 6 (.len (.t 5)), oP 7 (.mks 2 16 [(.v (.int .i64 0)), (.v (.bool false))] (.t 6)), oP 3 (.mv (.t 7))]) (.seq (.ops false [oP 8 (.mv (.t 3)), oP 9 (.fa 0 (.t 1)), oP 10 (.ld 1 false (.t 9)), oP 11 (.cpy 2 (.t 8) (.t 10))])
  (.seq (.ops false [oP 12 (.mv (.t 3)), oP 13 (.fa 0 (.t 1)), oS (.st 1 (.t 13) (.t 12))]) (.seq (.ops false [oP 14 (.ld 3 true (.t 1)), oS (.st 3 (.t 2) (.t 14))]) .ret)))))
def r79 : List RV := [(.cell 2 3 true)]
theorem c79_ok : ∃ code, Try.f79.body = some code ∧ compC Try.prog Try.f79.ntmps code = some (C.strip c79) := ⟨_, rfl, by kernel_rfl⟩
theorem r79_ok : compRes Try.prog Try.f79.results.toList = some r79 := by kernel_rfl
theorem f79_ok : fnOk Try.prog 79 = true := by kernel_rfl
def c80_1 : C := (.seq (.ops false [oP 51 (.ld 3 true (.t 5)), oS (.st 3 (.t 6) (.t 51))]) .ret)
def c80_2 : C := (.seq (.seq (.ops false [oP 30 (.fa 2 (.t 5)), oP 31 (.ld 1 false (.t 30)), oP 32 (.mv (.t 8)), oP 33 (.bin .add (.t 31) (.t 32)), oP 34 (.mnx true (cI 0) (.t 33)), oP 35 (.fa 2 (.t 5)), oS (.st 1 (.t 35) (.t 34))]) (.seq (.ops true [oP 36 (.fa 2 (.t 5)), oA 37 (.ld 1 false (.t 36)) [0], oP 38 (.fa 1 (.t 3)), oA 39 (.ld 1 false (.t 38)) [2], oP 40 (.fa 0 (.t 7)), oA 41 (.ld 1 false (.t 40)) [4],
  oA 42 (.iaS 7 (.t 39) (.t 41)) [4, 2, 5, 3], oA 43 (.fa 3 (.t 42)) [3, 5, 2, 4, 6], oA 44 (.ld 1 false (.t 43)) [6, 4, 2, 5, 3, 7], oA 45 (.bin .gtr (.t 37) (.t 44)) [7, 3, 5, 2, 4, 6, 0, 8, 1]]) (.cond (.t 45) (.ops false [oP 46 (.fa 1 (.t 5)), oP 47 (.ld 1 false (.t 46)), oP 48 (.bin .add (.t 47) (cI 1)), oP 49 (.fa 1 (.t 5)), oS (.st 1 (.t 49) (.t 48)), oP 50 (.fa 2 (.t 5)), oS (.st 1 (.t 50)
  (cI 0))]) .skip))) c80_1)
def c80_3 : C := (.seq (.ops false [oP 14 (.fa 0 (.t 5)), oP 15 (.ld 1 false (.t 14)), oP 16 (.fa 1 (.t 5)), oP 17 (.ld 1 false (.t 16)), oP 18 (.iaS 2 (.t 15) (.t 17)), oP 19 (.ld 2 true (.t 18)), oP 7 (.new [(.v (.int .i64 0)), (.v (.bool false))]), oS (.st 2 (.t 7) (.t 19))]) (.seq (.ops false [oP 20 (.fa 0 (.t 4)), oP 21 (.ld 1 false (.t 20)), oP 22 (.fa 0 (.t 7)), oP 23 (.ld 1 false (.t 22)),
  oP 24 (.iaS 1 (.t 21) (.t 23)), oP 25 (.ld 1 false (.t 24)), oP 8 (.mv (.t 25))]) (.seq (.seq (.ops false [oP 26 (.fa 1 (.t 7)), oP 27 (.ld 1 false (.t 26))]) (.cond (.t 27) (.ops false [oP 28 (.mv (.t 8)), oP 29 (.neg (.t 28)), oP 8 (.mv (.t 29))]) .skip)) c80_2)))
def c80 : C := (.seq (.ops false [oP 3 (.box 6 (.t 0)), oP 4 (.box 3 (.t 1)), oP 5 (.box 3 (.t 2)), oP 6 (.new [.mt, (.v (.int .i64 0)), (.v (.int .i64 0))])]) (.seq (.ops false [oP 9 (.ld 3 true (.t 5)), oP 10 (.call 79 [(.t 9)]), oS (.st 3 (.t 5) (.t 10))]) (.seq (.seq (.ops false [oP 11 (.ld 3 true (.t 5)), oB 12 (.call 30 [(.t 11)])]) (.cond (.t 12) (.seq (.ops false [oP 13 (.ld 3 true (.t 5)),
  oS (.st 3 (.t 6) (.t 13))]) .ret) .skip)) c80_3)))
def r80 : List RV := [(.cell 6 3 true)]
theorem c80_ok : ∃ code, Try.f80.body = some code ∧ compC Try.prog Try.f80.ntmps code = some (C.strip c80) := ⟨_, rfl, by kernel_rfl⟩
theorem r80_ok : compRes Try.prog Try.f80.results.toList = some r80 := by kernel_rfl
theorem f80_ok : fnOk Try.prog 80 = true := by kernel_rfl
def c96_1 : C := (.ops false [oP 63 (.mv (.t 9)), oP 5 (.mv (.t 63))])
def c96_2 : C := (.seq (.seq (.ops false [oP 56 (.mv (.t 5)), oP 57 (.bin .geq (.t 56) (cI 0)), oP 58 (.mv (.t 57)), oG 59 58 true (.mv (.t 5)), oG 60 58 true (.mv (.t 8)), oG 61 58 true (.bin .neq (.t 59) (.t 60)), oP 62 (.pick (.t 58) (.t 61) (cB false))]) (.cond (.t 62) (.seq (.ops false [oP 4 (.mv (cB false))]) .ret) .skip)) c96_1)
def c96_3 : C := (.seq (.ops true [oP 38 (.fa 1 (.t 2)), oA 39 (.ld 1 false (.t 38)) [0], oP 40 (.fa 0 (.t 7)), oA 41 (.ld 1 false (.t 40)) [2], oA 42 (.iaS 7 (.t 39) (.t 41)) [2, 0, 3, 1], oA 43 (.fa 1 (.t 42)) [1, 3, 0, 2, 4], oA 44 (.ld 1 false (.t 43)) [4, 2, 0, 3, 1, 5], oP 45 (.fa 1 (.t 2)), oA 46 (.ld 1 false (.t 45)) [7], oP 47 (.fa 0 (.t 7)), oA 48 (.ld 1 false (.t 47)) [9], oA 49 (.iaS 7 (.t 46) (.t 48))
  [9, 7, 10, 8], oA 50 (.fa 2 (.t 49)) [8, 10, 7, 9, 11], oA 51 (.ld 1 false (.t 50)) [11, 9, 7, 10, 8, 12], oA 8 (.mv (.t 44)) [5, 4, 3, 2, 1, 0, 6], oA 9 (.mv (.t 51)) [12, 11, 10, 9, 8, 7, 6, 5, 4, 3, 2, 1, 0, 14, 13]]) (.seq (.seq (.ops false [oP 52 (.fa 1 (.t 7)), oP 53 (.ld 1 false (.t 52))]) (.cond (.t 53) (.ops false [oP 54 (.mv (.t 9)), oP 55 (.mv (.t 8)), oP 8 (.mv (.t 54)),
  oP 9 (.mv (.t 55))]) .skip)) c96_2))
def c96_4 : C := (.ops false [oP 64 (.bin .add (.t 23) (cI 1)), oP 23 (.mv (.t 64))])
def c96_5 : C := (.seq (.block 1 (.seq (.ops false [oP 25 (.iaS 2 (.t 21) (.t 23)), oP 26 (.ld 2 true (.t 25)), oP 7 (.new [(.v (.int .i64 0)), (.v (.bool false))]), oS (.st 2 (.t 7) (.t 26))]) (.seq (.seq (.ops false [oP 27 (.fa 0 (.t 7)), oP 28 (.ld 1 false (.t 27)), oP 29 (.bin .lss (.t 28) (cI 0)), oP 30 (.mv (.t 29)), oG 31 30 false (.fa 0 (.t 7)), oG 32 30 false (.ld 1 false (.t 31)),
  oG 33 30 false (.fa 1 (.t 2)), oG 34 30 false (.ld 1 false (.t 33)), oG 35 30 false (.len (.t 34)), oG 36 30 false (.bin .geq (.t 32) (.t 35)), oP 37 (.pick (.t 30) (cB true) (.t 36))]) (.cond (.t 37) (.seq (.ops false [oP 4 (.mv (cB false))]) .ret) .skip)) c96_3))) c96_4)
def c96_6 : C := (.seq (.ops false [oP 24 (.bin .lss (.t 23) (.t 22))]) (.seq (.cond (.t 24) .skip (.exit 0)) c96_5))
def c96_7 : C := (.seq (.ops true [oP 74 (.fa 1 (.t 3)), oA 75 (.ld 1 false (.t 74)) [0], oA 76 (.bin .geq (.t 75) (cI 0)) [0, 1], oA 77 (.mv (.t 76)) [1, 0, 2], oH 78 77 true (.fa 1 (.t 3)) [2, 0, 1, 3], oH 79 77 true (.ld 1 false (.t 78)) [1, 0, 2, 3, 4], oH 80 77 true (.fa 0 (.t 3)) [2, 0, 1, 3], oH 81 77 true (.ld 1 false (.t 80)) [1, 0, 2, 3, 6], oH 82 77 true (.len (.t 81)) [6, 2, 0, 1, 3, 7],
  oH 83 77 true (.bin .lss (.t 79) (.t 82)) [7, 6, 4, 2, 0, 1, 3, 8, 5], oA 84 (.pick (.t 77) (.t 83) (cB false)) [5, 8, 4, 6, 7, 2, 0, 1, 9, 3], oA 85 (.mv (.t 84)) [9, 1, 0, 2, 7, 6, 4, 8, 5, 3, 10], oH 86 85 true (.fa 2 (.t 3)) [10, 3, 5, 8, 4, 6, 7, 2, 0, 1, 9, 11], oH 87 85 true (.ld 1 false (.t 86)) [9, 1, 0, 2, 7, 6, 4, 8, 5, 3, 10, 11, 12], oH 88 85 true (.bin .geq (.t 87) (cI 0)) [12, 10,
  3, 5, 8, 4, 6, 7, 2, 0, 1, 9, 11, 13], oA 89 (.pick (.t 85) (.t 88) (cB false)) [13, 12, 10, 3, 5, 8, 4, 6, 7, 2, 0, 1, 9, 14, 11], oA 90 (.mv (.t 89)) [14, 9, 1, 0, 2, 7, 6, 4, 8, 5, 3, 10, 12, 13, 11, 15], oH 91 90 true (.fa 2 (.t 3)) [15, 11, 13, 12, 10, 3, 5, 8, 4, 6, 7, 2, 0, 1, 9, 14, 16], oH 92 90 true (.ld 1 false (.t 91)) [14, 9, 1, 0, 2, 7, 6, 4, 8, 5, 3, 10, 12, 13, 11, 15, 16, 17],
  oH 93 90 true (.fa 1 (.t 2)) [15, 11, 13, 12, 10, 3, 5, 8, 4, 6, 7, 2, 0, 1, 9, 14, 16], oH 94 90 true (.ld 1 false (.t 93)) [14, 9, 1, 0, 2, 7, 6, 4, 8, 5, 3, 10, 12, 13, 11, 15, 16, 19], oH 95 90 true (.fa 0 (.t 3)) [15, 11, 13, 12, 10, 3, 5, 8, 4, 6, 7, 2, 0, 1, 9, 14, 16], oH 96 90 true (.ld 1 false (.t 95)) [14, 9, 1, 0, 2, 7, 6, 4, 8, 5, 3, 10, 12, 13, 11, 15, 16, 21],
  oH 97 90 true (.fa 1 (.t 3)) [15, 11, 13, 12, 10, 3, 5, 8, 4, 6, 7, 2, 0, 1, 9, 14, 16], oH 98 90 true (.ld 1 false (.t 97)) [14, 9, 1, 0, 2, 7, 6, 4, 8, 5, 3, 10, 12, 13, 11, 15, 16, 23], oH 99 90 true (.iaS 2 (.t 96) (.t 98)) [23, 21, 15, 11, 13, 12, 10, 3, 5, 8, 4, 6, 7, 2, 0, 1, 9, 14, 16, 24, 22], oH 100 90 true (.fa 0 (.t 99)) [22, 24, 14, 9, 1, 0, 2, 7, 6, 4, 8, 5, 3, 10, 12, 13, 11, 15,
  21, 23, 16, 25], oH 101 90 true (.ld 1 false (.t 100)) [25, 23, 21, 15, 11, 13, 12, 10, 3, 5, 8, 4, 6, 7, 2, 0, 1, 9, 14, 24, 22, 16, 26], oH 102 90 true (.iaS 7 (.t 94) (.t 101)) [26, 22, 24, 21, 23, 25, 19, 15, 11, 13, 12, 10, 3, 5, 8, 4, 6, 7, 2, 0, 1, 9, 14, 16, 27, 20], oH 103 90 true (.fa 3 (.t 102)) [20, 27, 14, 9, 1, 0, 2, 7, 6, 4, 8, 5, 3, 10, 12, 13, 11, 15, 19, 25, 23, 21, 24, 22, 26,
  16, 28], oH 104 90 true (.ld 1 false (.t 103)) [28, 26, 22, 24, 21, 23, 25, 19, 15, 11, 13, 12, 10, 3, 5, 8, 4, 6, 7, 2, 0, 1, 9, 14, 27, 20, 16, 29], oH 105 90 true (.bin .leq (.t 92) (.t 104)) [29, 20, 27, 19, 25, 23, 21, 24, 22, 26, 28, 17, 15, 11, 13, 12, 10, 3, 5, 8, 4, 6, 7, 2, 0, 1, 9, 14, 16, 30, 18], oA 106 (.pick (.t 90) (.t 105) (cB false)) [18, 30, 17, 28, 26, 22, 24, 21, 23, 25, 19,
  27, 20, 29, 15, 11, 13, 12, 10, 3, 5, 8, 4, 6, 7, 2, 0, 1, 9, 14, 31, 16], oA 4 (.mv (.t 106)) [31, 30, 29, 28, 27, 26, 25, 24, 23, 22, 21, 20, 19, 18, 17, 15, 14, 13, 12, 11, 10, 9, 8, 7, 6, 5, 4, 3, 2, 1, 0, 16, 32]]) .ret)
def c96_8 : C := (.seq (.seq (.ops false [oP 65 (.fa 1 (.t 3)), oP 66 (.ld 1 false (.t 65)), oP 67 (.fa 0 (.t 3)), oP 68 (.ld 1 false (.t 67)), oP 69 (.len (.t 68)), oP 70 (.bin .eql (.t 66) (.t 69))]) (.cond (.t 70) (.seq (.ops false [oP 71 (.fa 2 (.t 3)), oP 72 (.ld 1 false (.t 71)), oP 73 (.bin .eql (.t 72) (cI 0)), oP 4 (.mv (.t 73))]) .ret) .skip)) c96_7)
def c96_9 : C := (.seq (.ops false [oP 5 (.mv (cI (-1)))]) (.seq (.seq (.ops false [oP 20 (.fa 0 (.t 3)), oP 21 (.ld 1 false (.t 20)), oP 22 (.len (.t 21)), oP 23 (.mv (cI 0))]) (.block 0 (.loop c96_6))) (.weak c96_8)))
def c96 : C := (.seq (.ops false [oP 2 (.box 6 (.t 0)), oP 3 (.box 3 (.t 1)), oP 4 (.mv (cB false))]) (.seq (.seq (.ops false [oP 10 (.fa 0 (.t 3)), oP 11 (.ld 1 false (.t 10)), oP 12 (.len (.t 11)), oP 13 (.bin .lss (.t 12) (cI 1)), oP 14 (.mv (.t 13)), oG 15 14 false (.fa 0 (.t 3)), oG 16 14 false (.ld 1 false (.t 15)), oG 17 14 false (.len (.t 16)), oG 18 14 false (.bin .gtr (.t 17) (cI 32)),
  oP 19 (.pick (.t 14) (cB true) (.t 18))]) (.cond (.t 19) (.seq (.ops false [oP 4 (.mv (cB false))]) .ret) .skip)) c96_9))
def r96 : List RV := [(.tmp 4)]
theorem c96_ok : ∃ code, Try.f96.body = some code ∧ compC Try.prog Try.f96.ntmps code = some (C.strip c96) := ⟨_, rfl, by kernel_rfl⟩
theorem r96_ok : compRes Try.prog Try.f96.results.toList = some r96 := by kernel_rfl
theorem f96_ok : fnOk Try.prog 96 = true := by kernel_rfl
def c102_1 : C := (.ops false [oP 25 (.bin .add (.t 13) (cI 1)), oP 13 (.mv (.t 25))])
def c102_2 : C := (.seq (.block 1 (.seq (.ops false [oP 15 (.mv (.t 13)), oP 5 (.mv (.t 15))]) (.seq (.ops true [oP 16 (.mv (.t 0)), oP 17 (.mv (.t 5)), oA 18 (.iaS 2 (.t 16) (.t 17)) [1, 0], oA 19 (.ld 2 true (.t 18)) [0, 1, 2], oP 20 (.mv (.t 1)), oP 21 (.mv (.t 5)), oA 22 (.iaS 2 (.t 20) (.t 21)) [5, 4], oA 23 (.ld 2 true (.t 22)) [4, 5, 6], oA 24 (.eqa true [0, 1] (.t 19) (.t 23)) [6, 5, 4, 2, 1, 0, 7, 3]])
  (.cond (.t 24) (.seq (.ops false [oP 4 (.mv (cB false))]) .ret) .skip)))) c102_1)
def c102_3 : C := (.seq (.ops false [oP 14 (.bin .lss (.t 13) (.t 12))]) (.seq (.cond (.t 14) .skip (.exit 0)) c102_2))
def c102_4 : C := (.seq (.ops false [oP 4 (.mv (cB true))]) .ret)
def c102_5 : C := (.seq (.seq (.ops false [oP 11 (.mv (.t 0)), oP 12 (.len (.t 11)), oP 13 (.mv (cI 0))]) (.block 0 (.loop c102_3))) c102_4)
def c102 : C := (.seq (.ops false [oP 4 (.mv (cB false))]) (.seq (.seq (.ops false [oP 6 (.mv (.t 0)), oP 7 (.len (.t 6)), oP 8 (.mv (.t 1)), oP 9 (.len (.t 8)), oP 10 (.bin .neq (.t 7) (.t 9))]) (.cond (.t 10) (.seq (.ops false [oP 4 (.mv (cB false))]) .ret) .skip)) c102_5))
def r102 : List RV := [(.tmp 4)]
theorem c102_ok : ∃ code, Try.f102.body = some code ∧ compC Try.prog Try.f102.ntmps code = some (C.strip c102) := ⟨_, rfl, by kernel_rfl⟩
theorem r102_ok : compRes Try.prog Try.f102.results.toList = some r102 := by kernel_rfl
theorem f102_ok : fnOk Try.prog 102 = true := by kernel_rfl
def c125 : C := (.seq (.ops false [oP 4 (.mv (cB false))]) (.seq (.ops false [oP 5 (.mv (.t 0)), oP 6 (.mv (.t 1)), oB 7 (.call 155 [(.t 5), (.t 6)]), oP 8 (.bin .geq (.t 7) (cI 0)), oP 4 (.mv (.t 8))]) .ret))
def r125 : List RV := [(.tmp 4)]
theorem c125_ok : ∃ code, Try.f125.body = some code ∧ compC Try.prog Try.f125.ntmps code = some (C.strip c125) := ⟨_, rfl, by kernel_rfl⟩
theorem r125_ok : compRes Try.prog Try.f125.results.toList = some r125 := by kernel_rfl
theorem f125_ok : fnOk Try.prog 125 = true := by kernel_rfl
def c126 : C := (.seq (.ops false [oP 2 (.box 3 (.t 0)), oP 3 (.mv (cB false))]) (.seq (.ops false [oP 4 (.ld 6 true (.t 1)), oP 5 (.ld 3 true (.t 2)), oB 6 (.call 96 [(.t 4), (.t 5)]), oP 7 (.not (.t 6)), oP 3 (.mv (.t 7))]) .ret))
def r126 : List RV := [(.tmp 3)]
theorem c126_ok : ∃ code, Try.f126.body = some code ∧ compC Try.prog Try.f126.ntmps code = some (C.strip c126) := ⟨_, rfl, by kernel_rfl⟩
theorem r126_ok : compRes Try.prog Try.f126.results.toList = some r126 := by kernel_rfl
theorem f126_ok : fnOk Try.prog 126 = true := by kernel_rfl
def c155_1 : C := (.ops false [oP 18 (.bin .add (.t 8) (cI 1)), oP 8 (.mv (.t 18))])
def c155_2 : C := (.seq (.block 1 (.seq (.ops false [oP 10 (.mv (.t 8)), oP 5 (.mv (.t 10))]) (.seq (.ops false [oP 11 (.mv (.t 1)), oP 12 (.mv (.t 0)), oP 13 (.mv (.t 5)), oP 14 (.iaS 3 (.t 12) (.t 13)), oP 15 (.ld 3 true (.t 14)), oP 16 (.callv (.t 11) [(.t 15)])]) (.cond (.t 16) (.seq (.ops false [oP 17 (.mv (.t 5)), oP 4 (.mv (.t 17))]) .ret) .skip)))) c155_1)
def c155_3 : C := (.seq (.ops false [oP 9 (.bin .lss (.t 8) (.t 7))]) (.seq (.cond (.t 9) .skip (.exit 0)) c155_2))
def c155_4 : C := (.seq (.ops false [oP 4 (.mv (cI (-1)))]) .ret)
def c155 : C := (.seq (.ops false [oP 4 (.mv (cI 0))]) (.seq (.seq (.ops false [oP 6 (.mv (.t 0)), oP 7 (.len (.t 6)), oP 8 (.mv (cI 0))]) (.block 0 (.loop c155_3))) c155_4))
def r155 : List RV := [(.tmp 4)]
theorem c155_ok : ∃ code, Try.f155.body = some code ∧ compC Try.prog Try.f155.ntmps code = some (C.strip c155) := ⟨_, rfl, by kernel_rfl⟩
theorem r155_ok : compRes Try.prog Try.f155.results.toList = some r155 := by kernel_rfl
theorem f155_ok : fnOk Try.prog 155 = true := by kernel_rfl
set_option maxHeartbeats 4000000 in
theorem idxF_O (q : D → Bool) (g : FuncId) (l rows : List (List D)) (h : QOk Try.prog true 3 q g l rows) (nn : Nm) : CallsA Try.prog 155 [.sl rows, .clo g [] (ips l)] Hp.none nn (Pu (outI (fun r => q (elV true r)) rows) Hp.none) := by
  obtain ⟨hg, hl, hq⟩ := h
  obtain ⟨code, h1, h2⟩ := c155_ok
  refine callsA_of (tc_q (q := q) hg (T0_ok _)) mixed (N := fun t => (0, t)) Try.func155 h1 h2 r155_ok [] false js_nil js_nil' (by simp [Try.f155]) ?_
  unfold outI
  simp (maxSteps:=500000) only [↓vp, vv, ↓reduceIte, simprocAttr, c155]
  rw [vc_loop]
  refine ⟨fun m s => ∃ j : Nat, j + m = rows.length ∧ idxOf (fun r => q (elV true r)) 0 rows = idxOf (fun r => q (elV true r)) j (rows.drop j) ∧ s = ⟨fr [(0, .sl rows), (1, .clo g [] (ips l)), (7, di rows.length), (8, di j)], Hp.none⟩, ⟨rows.length, _, (weak_eq [] [] [(0, .sl rows), (1, .clo g [] (ips l)), (7, di rows.length), (8, di 0)] (by simp (maxSteps:=500000) only [↓vp, vv, ↓reduceIte, simprocAttr, coverS]) (by simp (maxSteps:=500000) only [↓vp, vv, ↓reduceIte, simprocAttr, refsF, ips_refs]) (by simp (maxSteps:=500000) only [↓vp, vv, ↓reduceIte, simprocAttr, ]) (by simp) (by simp (maxSteps:=500000) only [↓vp, vv, ↓reduceIte, simprocAttr, ]; try rfl)), ⟨0, by omega, rfl, rfl⟩⟩, ?_⟩
  rintro m s ⟨j, hj, he, rfl⟩
  by_cases hlt : j < rows.length
  · have hlt' : (j : Int) < rows.length := by omega
    have h0 : (0 : Int) ≤ j := by omega
    obtain ⟨r, hr⟩ : ∃ r, rows[j]? = some r := ⟨_, get_lt hlt⟩
    have hg' : rows.getD j [] = r := by rw [List.getD_eq_getElem?_getD, hr]; rfl
    obtain ⟨hr1, hr2, hr0, hr3⟩ := hq r (List.mem_of_getElem? hr)
    rw [idxOf_drop _ _ _ _ hr] at he
    have w1 : IntKind.i64.wrap ((j : Int) + 1) = ((j + 1 : Nat) : Int) := by rw [wrap_i (by omega)]; rfl
    have ht : r.take 3 = r := List.take_of_length_le (by omega)
    have d1 := fun H => (doneR H [] hr2).1
    have d2 := fun H => (doneR H [] hr2).2.1
    have d3 := fun H => (doneR H [] hr2).2.2.1
    have d4 := (doneR Hp.none [] hr2).2.2.2.1
    have d5 := fun js => (doneR Hp.none js hr2).2.2.2.2
    have hc : ∀ nn, CallsA Try.prog g ((.agg r) :: ips l) Hp.none nn (Pu (db (q (.agg r))) Hp.none) := hr3
    have he2 : idxOf (fun r => q (elV true r)) 0 rows = if q (.agg r) = true then (j : Int) else idxOf (fun r => q (elV true r)) (j + 1 : Nat) (rows.drop (j + 1)) := he
    cases hb : q (.agg r) with
    | true =>
      rw [hb, if_pos rfl] at he2
      have hcT : ∀ nn, CallsA Try.prog g ((.agg r) :: ips l) Hp.none nn (Pu (db true) Hp.none) = True := fun nn => eq_true (by have := hc nn; rwa [hb] at this)
      simp (maxSteps:=500000) only [↓vp, vv, ↓reduceIte, simprocAttr, c155, r155, c155_1, c155_2, c155_3, c155_4, hlt', h0, Int.toNat_natCast, hg', hr1, ht, d1, d2, d3, d4, d5, ips_nms, ips_lend, ips_lendNm, ips_ok, ips_refs, rowQ, hb, he2, Pu, addNm, cellNms, hcT]
    | false =>
      rw [hb, if_neg (by simp)] at he2
      have hcT : ∀ nn, CallsA Try.prog g ((.agg r) :: ips l) Hp.none nn (Pu (db false) Hp.none) = True := fun nn => eq_true (by have := hc nn; rwa [hb] at this)
      simp (maxSteps:=500000) only [↓vp, vv, ↓reduceIte, simprocAttr, c155, r155, c155_1, c155_2, c155_3, c155_4, hlt', h0, Int.toNat_natCast, hg', hr1, ht, d1, d2, d3, d4, d5, ips_nms, ips_lend, ips_lendNm, ips_ok, ips_refs, rowQ, hb, addNm, cellNms, hcT]
      exact ⟨m - 1, _, by omega, weak_eq [] [] [(0, .sl rows), (1, .clo g [] (ips l)), (7, di rows.length), (8, di ((j + 1 : Nat) : Int))] (by simp (maxSteps:=500000) only [↓vp, vv, ↓reduceIte, simprocAttr, coverS, w1]) (by simp (maxSteps:=500000) only [↓vp, vv, ↓reduceIte, simprocAttr, refsF, ips_refs]) (by simp (maxSteps:=500000) only [↓vp, vv, ↓reduceIte, simprocAttr, ]) (by simp) (by simp (maxSteps:=500000) only [↓vp, vv, ↓reduceIte, simprocAttr, ]; try rfl), ⟨j + 1, by omega, he2, rfl⟩⟩
  · have hlt' : ¬ (j : Int) < rows.length := by omega
    rw [List.drop_of_length_le (by omega)] at he
    have he2 : idxOf (fun r => q (elV true r)) 0 rows = -1 := he
    simp (maxSteps:=500000) only [↓vp, vv, ↓reduceIte, simprocAttr, c155, r155, c155_1, c155_2, c155_3, c155_4, hlt', he2, Pu]
set_option maxHeartbeats 4000000 in
theorem hasF_O (q : D → Bool) (g : FuncId) (l rows : List (List D)) (h : QOk Try.prog true 3 q g l rows) (nn : Nm) : CallsA Try.prog 125 [.sl rows, .clo g [] (ips l)] Hp.none nn (Pu (outC (fun r => q (elV true r)) rows) Hp.none) := by
  obtain ⟨code, h1, h2⟩ := c125_ok
  refine callsA_of (T := tc 155 (rowPu (selQ Try.prog true 3 (fun g' l' d => q d) outI)) T0) (tc_pu f155_ok (fun args pre d hs hp nn => ?_) (T0_ok _)) mixed (N := fun t => (0, t)) Try.func125 h1 h2 r125_ok [] false js_nil js_nil' (by simp [Try.f125]) ?_
  · unfold selQ at hs
    split at hs
    · split at hs
      · rename_i hi
        cases hs
        rw [ipsOf_eq hi]
        exact idxF_O _ _ _ _ hp nn
      · cases hs
    · cases hs
  · have ha := idxOf_any (fun r => q (elV true r)) rows 0 (Int.le_refl _)
    have hv : decide (0 ≤ idxOf (fun r => q (elV true r)) 0 rows) = rows.any (fun r => q (elV true r)) := by
      rw [Bool.eq_iff_iff, decide_eq_true_eq]; exact ha
    simp (maxSteps:=500000) only [↓vp, vv, ↓reduceIte, simprocAttr, c125, r125, selQ, ipsOf_ips, h, ips_nms, ips_lend, ips_lendNm, ips_ok, ips_refs, outI, outC, addNm, cellNms, hv, Pu]
end Go.Proofs.Ytadjhfjiimgddaa
