/- ToolStays: Fw4 Pl1 CodePL Pl2 CodeFO FlE CodeRF. -/
import Derived.Test.YtadjhfjiimgddaaKw12
import Derived.Test.YtadjhfjiimgddaaKw11
import Derived.Test.YtadjhfjiimgddaaKw3
import Derived.Test.YtadjhfjiimgddaaProg
import Derived.Test.YtadjhfjiimgddaaKw7
set_option linter.unusedSimpArgs false
set_option linter.unusedVariables false
set_option maxRecDepth 100000

/- Flow: Check. -/
/- Flow: Check. -/
namespace Go.Proofs.Ytadjhfjiimgddaa
open Go
structure NetV (n : Net) : Prop where
 nl : 1 ≤ n.nodes.length ∧ n.nodes.length ≤ 24
 sl : n.segs.length ≤ 32
 ql : n.ports.length ≤ 24
 tl : n.sts.length ≤ 12
 se : ∀ s ∈ n.segs, (0 ≤ s.fr ∧ s.fr < n.nodes.length) ∧ (0 ≤ s.to ∧ s.to < n.nodes.length) ∧ s.fr ≠ s.to ∧ 1 ≤ s.cap ∧ s.cap ≤ 1000000
 pe : ∀ x ∈ n.ports, 0 ≤ x.node ∧ x.node < n.nodes.length
 te : ∀ x ∈ n.sts, 0 ≤ x.node ∧ x.node < n.nodes.length
theorem any_f {α : Type} {p : α → Bool} {l : List α} (h : l.any p = false) {x : α} (hx : x ∈ l) : p x = false := by
 cases e : p x with
 | false => rfl
 | true => rw [List.any_eq_true.2 ⟨x, hx, e⟩] at h; cases h
theorem inB_of {a b c : Int} (h : inB a b c = true) : b ≤ a ∧ a ≤ c := by
 unfold inB at h
 split at h
 ·rename_i h1; exact ⟨by simpa using h1, by simpa using h⟩
 ·cases h
theorem check0 {n : Net} (h : checkI n = 0) : NetV n := by
 unfold checkI at h
 split at h
 ·rename_i hl
  split at h
  ·cases h
  ·split at h
   ·cases h
   ·split at h
    ·rename_i hk
     split at h
     ·rename_i hp
      unfold limB at hl
      split at hl; · cases hl
      split at hl; · cases hl
      split at hl; · cases hl
      split at hl; · cases hl
      split at hl; · cases hl
      unfold knB at hk
      have hk2 : (allIx n).any (unk n) = false := by simpa using hk
      have inN : ∀ k ∈ allIx n, 0 ≤ k ∧ k < n.nodes.length := fun k hk => by
       have := any_f hk2 hk
       unfold unk at this
       split at this
       ·cases this
       ·rename_i h1
        simp at h1 this
        omega
      unfold prB at hp
      split at hp; · cases hp
      rename_i hs
      have hs2 : n.segs.any segBad = false := by simpa using hs
      refine ⟨by omega, by omega, by omega, by omega, fun s hm => ⟨inN _ ?_, inN _ ?_, ?_⟩, fun x hm => inN _ ?_, fun x hm => inN _ ?_⟩
      ·exact List.mem_append_left _ (List.mem_append_left _ (List.mem_flatMap.2 ⟨s, hm, by simp [endsOf]⟩))
      ·exact List.mem_append_left _ (List.mem_append_left _ (List.mem_flatMap.2 ⟨s, hm, by simp [endsOf]⟩))
      ·have := any_f hs2 hm
       unfold segBad at this
       have hp : pipeB s = true := by simpa using this
       unfold pipeB at hp
       split at hp; · cases hp
       rename_i h1
       split at hp
       ·rename_i h2
        exact ⟨by simpa using h1, inB_of h2⟩
       ·cases hp
      ·exact List.mem_append_left _ (List.mem_append_right _ (List.mem_map.2 ⟨x, hm, rfl⟩))
      ·exact List.mem_append_right _ (List.mem_map.2 ⟨x, hm, rfl⟩)
     ·cases h
    ·cases h
 ·cases h
def most (s : Seg) : Int := if s.cap < 1000 then s.cap else 1000
def rateBad (x : Seg × Int) : Bool := !(withB x.2 (most x.1))
def portBadR (r : Int) : Bool := !(withB r 1000)
def lenBad (n : Net) (p : Pln) : Bool := if ((p.rates.length : Int) != n.segs.length) = true then true else if ((p.ports.length : Int) != n.ports.length) = true then true else ((p.pumps.length : Int) != n.sts.length)
def fckI (n : Net) (p : Pln) : Int := if checkI n = 0 then (if lenBad n p = true then 9 else if (n.segs.zip p.rates).any rateBad = true then 1 else if p.ports.any portBadR = true then 1 else if amt comeOf (flowsOf n p) = amt leaveOf (flowsOf n p) then (if (ordB n p).length < n.nodes.length then 13 else 0) else 12) else checkI n
structure PlnSz (p : Pln) : Prop where
 rates : p.rates.length ≤ 1000000
 ports : p.ports.length ≤ 1000000
 pumps : p.pumps.length ≤ 1000000
theorem withB_of {r m : Int} (h : withB r m = true) : -m ≤ r ∧ r ≤ m := by
 unfold withB at h
 split at h
 ·rename_i h1; exact ⟨h1, by simpa using h⟩
 ·cases h
theorem len_ok {n : Net} {p : Pln} (h : lenBad n p = false) : p.rates.length = n.segs.length ∧ p.ports.length = n.ports.length ∧ p.pumps.length = n.sts.length := by
 unfold lenBad at h
 split at h
 ·cases h
 ·rename_i h1
  split at h
  ·cases h
  ·rename_i h2
   simp at h1 h2 h
   omega
theorem fl_ok {n : Net} {p : Pln} (hv : NetV n) (h1 : p.rates.length = n.segs.length) (h2 : p.ports.length = n.ports.length) (h3 : (n.segs.zip p.rates).any rateBad = false) (h4 : p.ports.any portBadR = false) : FlOk n p := by
 refine ⟨hv.sl, hv.ql, h1, h2, fun t ht => ?_⟩
 have hn := hv.nl
 rcases List.mem_append.1 ht with ht | ht
 ·rw [← List.map_uncurry_zip_eq_zipWith] at ht
  obtain ⟨x, hx, rfl⟩ := List.mem_map.1 ht
  have a := any_f h3 hx
  unfold rateBad at a
  have b := withB_of (by simpa using a)
  have c := hv.se x.1 (List.of_mem_zip hx).1
  unfold most at b
  refine ⟨?_, ?_, ?_⟩
  ·show -1 ≤ x.1.fr ∧ x.1.fr < 24
   omega
  ·show -1 ≤ x.1.to ∧ x.1.to < 24
   omega
  ·show -1000 ≤ x.2 ∧ x.2 ≤ 1000
   split at b <;> omega
 ·rw [← List.map_uncurry_zip_eq_zipWith] at ht
  obtain ⟨x, hx, rfl⟩ := List.mem_map.1 ht
  have a := any_f h4 (List.of_mem_zip hx).2
  unfold portBadR at a
  have b := withB_of (by simpa using a)
  have c := hv.pe x.1 (List.of_mem_zip hx).1
  refine ⟨?_, ?_, ?_⟩
  ·show -1 ≤ (-1 : Int) ∧ (-1 : Int) < 24
   omega
  ·show -1 ≤ x.1.node ∧ x.1.node < 24
   omega
  ·show -1000 ≤ x.2 ∧ x.2 ≤ 1000
   omega
theorem edge_ok {n : Net} (p : Pln) (hv : NetV n) : EdgeIn (n.segs.zip p.rates) n.nodes.length := fun x hx => by
 have := hv.se x.1 (List.of_mem_zip hx).1
 omega
def selWithin : List D → Option (Prop × D)
 | [.v (.int .i64 r), .v (.int .i64 m)] => some (-1000000 ≤ m ∧ m ≤ 1000000, db (withB r m))
 | _ => Option.none
def TFw : Tbl := tc 151 (rowPu selWithin) T0
theorem TFw_ok : TblOk Try.prog TFw := by
 refine tc_pu f151_ok (fun args pre d h hp nn => ?_) (T0_ok _)
 unfold selWithin at h
 split at h <;> cases h
 exact within_c _ _ hp nn
set_option maxHeartbeats 1000000 in
theorem fck1_c (r : Int) (nn : Nm) : CallsA Try.prog 152 [di r] Hp.none nn (Pu (db (portBadR r)) Hp.none) := by
 obtain ⟨code, h1, h2⟩ := c152_ok
 refine callsA_of TFw_ok mixed (N := fun t => (0, t)) Try.func152 h1 h2 r152_ok [] false js_nil js_nil' (by simp [Try.f152]) ?_
 simp (maxSteps:=500000) only [↓vp, vv, ↓reduceIte, simprocAttr, c152, r152, TFw, selWithin, portBadR, Pu]
def selNP (pre : Net → Pln → Prop) (out : Net → Pln → D) : List D → Option (Prop × D)
 | [.agg a, .agg b] => match netOf1 a, plnOf1 b with
  | some n, some p => some (pre n p, out n p)
  | _, _ => Option.none
 | _ => Option.none
theorem tc_np {f : FuncId} {pre : Net → Pln → Prop} {out : Net → Pln → D} {T : Tbl} (hf : fnOk Try.prog f = true) (h : ∀ n p, pre n p → ∀ nn, CallsA Try.prog f [n.enc, p.enc] Hp.none nn (Pu (out n p) Hp.none)) (hT : TblOk Try.prog T) : TblOk Try.prog (tc f (rowPu (selNP pre out)) T) :=
 tc_pu hf (fun args pr d hs hp nn => by
  unfold selNP at hs
  split at hs
  ·split at hs
   ·rename_i e1 e2
    cases hs
    rw [netOf1_eq e1, plnOf1_eq e2]
    exact h _ _ hp nn
   ·cases hs
  ·cases hs) hT
def OrdPre (n : Net) (p : Pln) : Prop := n.nodes.length ≤ 1000000 ∧ n.segs.length ≤ 1000000 ∧ p.rates.length = n.segs.length ∧ EdgeIn (n.segs.zip p.rates) n.nodes.length
def TCf (P : Program) : Tbl := tc 95 (rowPu (selNet fun n => di (checkI n))) (tc 145 (rowPu (selQ P false 1 (fun g l => qRow intOf1 portBadR) outC)) (tc 153 (rowPu (selNP FlOk fun n p => .agg ((amtM (flowsOf n p)).map di))) (tc 154 (rowPu (selNP OrdPre fun n p => .sl ((ordB n p).map nRow))) TFw)))
theorem TCf_ok : TblOk Try.prog (TCf Try.prog) := tc_netf f95_ok check_c (tc_cf f145_ok (fun q g l rows h nn => hasF_I q g l rows h nn) (tc_np f153_ok sums_c (tc_np f154_ok (fun n p h nn => order_c n p h.1 h.2.1 h.2.2.1 h.2.2.2 nn) TFw_ok)))
theorem eqL_di : ∀ (A B : List Int), A.length = B.length → eqL (List.replicate A.length 0) (A.map di) (B.map di) = some (decide (A = B))
 | [], [], _ => by simp [eqL]
 | a :: A, b :: B, h => by
  have := eqL_di A B (by simpa using h)
  simp only [List.length_cons, List.replicate_succ, List.map_cons, eqL, eqOne, this, if_true]
  by_cases h1 : a = b <;> by_cases h2 : A = B <;> simp [h1, h2]
theorem flat_di : ∀ M : List Int, flatL (M.map di) = true
 | [] => rfl
 | x :: M => by rw [List.map_cons, flatL, flat_di M]; rfl
theorem amt_len (f : Int → Fl → Int) (T : List Fl) : (amt f T).length = 24 := by simp [amt]
theorem eqL_amt (T : List Fl) : eqL [0, 0, 0, 0, 0, 0, 0, 0, 0, 0, 0, 0, 0, 0, 0, 0, 0, 0, 0, 0, 0, 0, 0, 0] ((amt comeOf T).map di) ((amt leaveOf T).map di) = some (decide (amt comeOf T = amt leaveOf T)) := by
 have := eqL_di (amt comeOf T) (amt leaveOf T) (by rw [amt_len, amt_len])
 rw [amt_len] at this
 exact this
theorem amt_take (T : List Fl) : ((amtM T).map di).take 24 = (amt comeOf T).map di := by
 unfold amtM
 rw [List.map_append, List.take_append_of_le_length (by rw [List.length_map, amt_len]; exact Nat.le_refl _), List.take_of_length_le (by rw [List.length_map, amt_len]; exact Nat.le_refl _)]
theorem amt_drop (T : List Fl) : (((amtM T).map di).drop 24).take 24 = (amt leaveOf T).map di := by
 unfold amtM
 rw [List.map_append, List.drop_append_of_le_length (by rw [List.length_map, amt_len]; exact Nat.le_refl _), List.drop_of_length_le (by rw [List.length_map, amt_len]; exact Nat.le_refl _), List.nil_append, List.take_of_length_le (by rw [List.length_map, amt_len]; exact Nat.le_refl _)]
def HF (n : Net) (p : Pln) : Hp := (Hp.none.put (0, 3) ⟨0, 3, [plnD p]⟩).put (0, 2) ⟨0, 6, [netD n]⟩
set_option maxHeartbeats 16000000 in
theorem fcheck_c (n : Net) (p : Pln) (hz : NetSz n) (hq : PlnSz p) (nn : Nm) : CallsA Try.prog 124 [n.enc, p.enc] Hp.none nn (Pu (di (fckI n p)) Hp.none) := by
 obtain ⟨code, h1, h2⟩ := c124_ok
 refine callsA_of TCf_ok mixed (N := fun t => (0, t)) Try.func124 h1 h2 r124_ok [] false js_nil js_nil' (by simp [Try.f124]) ?_
 have hn1 := netOf1_x n
 have hp1 := plnOf1_x p
 by_cases a0 : checkI n = 0
 ·have b0 : (checkI n != 0) = false := by simp [a0]
  have hv := check0 a0
  cases a1 : lenBad n p with
  | true =>
   have hc : fckI n p = 9 := by unfold fckI; rw [if_pos a0, if_pos a1]
   unfold lenBad at a1
   cases c1 : ((p.rates.length : Int) != n.segs.length) with
   | true => simp (maxSteps:=500000) only [↓vp, vv, ↓reduceIte, simprocAttr, c124, r124, c124_1, c124_2, c124_3, c124_4, c124_5, c124_6, c124_7, c124_8, c124_9, TCf, selNet, Net.enc, Pln.enc, netD, plnD, hn1, hz, a0, bne_self_eq_false, c1, hc, Pu]
   | false =>
    rw [c1] at a1
    cases c2 : ((p.ports.length : Int) != n.ports.length) with
    | true => simp (maxSteps:=500000) only [↓vp, vv, ↓reduceIte, simprocAttr, c124, r124, c124_1, c124_2, c124_3, c124_4, c124_5, c124_6, c124_7, c124_8, c124_9, TCf, selNet, Net.enc, Pln.enc, netD, plnD, hn1, hz, a0, bne_self_eq_false, c1, c2, hc, Pu]
    | false =>
     rw [c2] at a1
     have c3 : ((p.pumps.length : Int) != n.sts.length) = true := by simpa using a1
     simp (maxSteps:=500000) only [↓vp, vv, ↓reduceIte, simprocAttr, c124, r124, c124_1, c124_2, c124_3, c124_4, c124_5, c124_6, c124_7, c124_8, c124_9, TCf, selNet, Net.enc, Pln.enc, netD, plnD, hn1, hz, a0, bne_self_eq_false, c1, c2, c3, hc, Pu]
  | false =>
   obtain ⟨l1, l2, l3⟩ := len_ok a1
   have c1 : ((p.rates.length : Int) != n.segs.length) = false := by simp [l1]
   have c2 : ((p.ports.length : Int) != n.ports.length) = false := by simp [l2]
   have c3 : ((p.pumps.length : Int) != n.sts.length) = false := by simp [l3]
   generalize hb : (n.segs.zip p.rates).any rateBad = b
   have hc : fckI n p = if b = true then 1 else if p.ports.any portBadR = true then 1 else if amt comeOf (flowsOf n p) = amt leaveOf (flowsOf n p) then (if (ordB n p).length < n.nodes.length then 13 else 0) else 12 := by unfold fckI; rw [if_pos a0, a1, hb]; rfl
   simp (maxSteps:=500000) only [↓vp, vv, ↓reduceIte, simprocAttr, c124, r124, c124_1, c124_2, c124_3, c124_4, c124_5, c124_6, c124_7, c124_8, c124_9, TCf, selNet, Net.enc, Pln.enc, netD, plnD, hn1, hz, a0, bne_self_eq_false, c1, c2, c3]
   refine rng_loop n.segs.length (fun j => ⟨fr [(2, .ptr (0, 2) 0 0 0), (3, .ptr (0, 3) 0 0 0), (40, .sl (n.segs.map Seg.row)), (41, di n.segs.length), (42, di j)], HF n p⟩) (fun j => ((n.segs.zip p.rates).drop j).any rateBad = b) (weak_eqA [] [(0, 2), (0, 3)] [(2, .ptr (0, 2) 0 0 0), (3, .ptr (0, 3) 0 0 0), (40, .sl (n.segs.map Seg.row)), (41, di n.segs.length), (42, di 0)] (by refine ⟨?_, ?_, ?_, by simp, ?_⟩ <;> (simp only [↓vp, vv, ↓reduceIte, simprocAttr, coverS, refsF, HF, netD, plnD] <;> try rfl))) hb (fun j hj he => ?_) (fun he => ?_)
   ·have hj' : (j : Int) < n.segs.length := by omega
    have hn := idx_nn j
    have hsl := hv.sl
    have w1 := idx_next (j := j) (by omega)
    have hr : j < p.rates.length := by omega
    have hr' : (j : Int) < p.rates.length := by omega
    have hg := getD_map Seg.row n.segs j hj
    have hg2 := iRow_at p.rates j hr
    have hzl : j < (n.segs.zip p.rates).length := by rw [List.length_zip]; omega
    obtain ⟨hf, ht⟩ := drop_any hzl he
    have hx : (n.segs.zip p.rates)[j] = (n.segs[j], p.rates[j]) := List.getElem_zip
    rw [hx] at hf ht
    have hcp := hv.se _ (List.getElem_mem hj)
    generalize n.segs[j] = s at hg hf ht hcp
    generalize p.rates[j] = r at hg2 hf ht
    have hm : -1000000 ≤ most s ∧ most s ≤ 1000000 := by unfold most; constructor <;> split <;> omega
    have hm2 : (if s.cap < 1000 then s.cap else 1000) = most s := rfl
    cases d : withB r (most s) with
    | false =>
     have e1 := hf (by unfold rateBad; rw [d]; rfl)
     rw [e1] at hc
     have hc3 : fckI n p = 1 := hc
     simp (maxSteps:=500000) only [↓vp, vv, ↓reduceIte, simprocAttr, c124, r124, c124_1, c124_2, c124_3, c124_4, c124_5, c124_6, c124_7, c124_8, c124_9, TCf, TFw, selWithin, HF, netD, plnD, hj', hr', hn, Int.toNat_natCast, hg, hg2, Seg.row, hm2, hm, d, hc3, Pu]
    | true =>
     simp (maxSteps:=500000) only [↓vp, vv, ↓reduceIte, simprocAttr, c124, r124, c124_1, c124_2, c124_3, c124_4, c124_5, c124_6, c124_7, c124_8, c124_9, TCf, TFw, selWithin, HF, netD, plnD, hj', hr', hn, Int.toNat_natCast, hg, hg2, Seg.row, hm2, hm, d, w1]
     exact rng_next hj (weak_eqA [] [(0, 2), (0, 3)] [(2, .ptr (0, 2) 0 0 0), (3, .ptr (0, 3) 0 0 0), (40, .sl (n.segs.map Seg.row)), (41, di n.segs.length), (42, di (j + 1 : Nat))] (by refine ⟨?_, ?_, ?_, by simp, ?_⟩ <;> (simp only [↓vp, vv, ↓reduceIte, simprocAttr, coverS, refsF, HF, netD, plnD, w1, Seg.row] <;> try rfl))) (ht (by unfold rateBad; rw [d]; rfl))
   ·have e1 : b = false := drop_any_end (by rw [List.length_zip]; omega) he
    rw [e1] at hc hb
    simp only [Bool.false_eq_true, if_false] at hc
    have hq : QOk Try.prog false 1 (qRow intOf1 portBadR) 152 [] (p.ports.map iRow) := by
     refine ⟨f152_ok, by simp; have := hq.ports; omega, fun r hr => ?_⟩
     obtain ⟨x, _, rfl⟩ := List.mem_map.1 hr
     exact ⟨rfl, rfl, fun _ => ⟨_, rfl⟩, fun nn => fck1_c x nn⟩
    have ho : outC (fun r => qRow intOf1 portBadR (elV false r)) (p.ports.map iRow) = db (p.ports.any portBadR) := by
     unfold outC
     rw [List.any_map]
     rfl
    cases a4 : p.ports.any portBadR with
    | true =>
     rw [a4] at ho hc
     have hc3 : fckI n p = 1 := hc
     simp (maxSteps:=500000) only [↓vp, vv, ↓reduceIte, simprocAttr, c124, r124, c124_1, c124_2, c124_3, c124_4, c124_5, c124_6, c124_7, c124_8, c124_9, TCf, selQ, ipsOf, HF, netD, plnD, Int.lt_irrefl, hq, ho, hc3, Pu]
    | false =>
     rw [a4] at ho hc
     simp only [Bool.false_eq_true, if_false] at hc
     have hfl := fl_ok hv l1 l2 hb a4
     have hord : OrdPre n p := ⟨by have := hv.nl; omega, by have := hv.sl; omega, l1, edge_ok p hv⟩
     have hl := amtM_len (flowsOf n p)
     by_cases a5 : amt comeOf (flowsOf n p) = amt leaveOf (flowsOf n p)
     ·rw [if_pos a5] at hc
      have a5e := eqL_amt (flowsOf n p)
      rw [decide_eq_true a5] at a5e
      by_cases a6 : (ordB n p).length < n.nodes.length
      ·rw [if_pos a6] at hc
       have a6' : ((ordB n p).length : Int) < n.nodes.length := by omega
       simp (maxSteps:=500000) only [↓vp, vv, ↓reduceIte, simprocAttr, c124, r124, c124_1, c124_2, c124_3, c124_4, c124_5, c124_6, c124_7, c124_8, c124_9, TCf, selQ, ipsOf, selNP, HF, netD, plnD, Int.lt_irrefl, hq, ho, hn1, hp1, hfl, hord, hl, put_all, amt_take, amt_drop, a5e, a6', refs_di, nms_di, di_done, flat_di, hc, Pu]
      ·rw [if_neg a6] at hc
       have a6' : ¬ ((ordB n p).length : Int) < n.nodes.length := by omega
       simp (maxSteps:=500000) only [↓vp, vv, ↓reduceIte, simprocAttr, c124, r124, c124_1, c124_2, c124_3, c124_4, c124_5, c124_6, c124_7, c124_8, c124_9, TCf, selQ, ipsOf, selNP, HF, netD, plnD, Int.lt_irrefl, hq, ho, hn1, hp1, hfl, hord, hl, put_all, amt_take, amt_drop, a5e, a6', refs_di, nms_di, di_done, flat_di, hc, Pu]
     ·rw [if_neg a5] at hc
      have a5e := eqL_amt (flowsOf n p)
      rw [decide_eq_false a5] at a5e
      simp (maxSteps:=500000) only [↓vp, vv, ↓reduceIte, simprocAttr, c124, r124, c124_1, c124_2, c124_3, c124_4, c124_5, c124_6, c124_7, c124_8, c124_9, TCf, selQ, ipsOf, selNP, HF, netD, plnD, Int.lt_irrefl, hq, ho, hn1, hp1, hfl, hl, put_all, amt_take, amt_drop, a5e, refs_di, nms_di, di_done, flat_di, hc, Pu, decide_true, decide_false]
 ·have b0 : (checkI n != 0) = true := by simp [a0]
  have hc : fckI n p = checkI n := by unfold fckI; rw [if_neg a0]
  simp (maxSteps:=500000) only [↓vp, vv, ↓reduceIte, simprocAttr, c124, r124, c124_1, c124_2, c124_3, c124_4, c124_5, c124_6, c124_7, c124_8, c124_9, TCf, selNet, Net.enc, Pln.enc, netD, plnD, hn1, hz, b0, hc, Pu]
structure PlnV (n : Net) (p : Pln) : Prop where
 net : NetV n
 ck : checkI n = 0
 rl : p.rates.length = n.segs.length
 pl : p.ports.length = n.ports.length
 ul : p.pumps.length = n.sts.length
 rb : ∀ x ∈ n.segs.zip p.rates, withB x.2 (most x.1) = true
 pb : ∀ r ∈ p.ports, -1000 ≤ r ∧ r ≤ 1000
 fl : FlOk n p
 bal : amt comeOf (flowsOf n p) = amt leaveOf (flowsOf n p)
 ord : OrdPre n p
 all : n.nodes.length ≤ (ordB n p).length
theorem fck0 {n : Net} {p : Pln} (h : fckI n p = 0) : PlnV n p := by
 unfold fckI at h
 split at h
 ·rename_i a0
  have hv := check0 a0
  cases a1 : lenBad n p with
  | true => rw [a1] at h; simp at h
  | false =>
   obtain ⟨l1, l2, l3⟩ := len_ok a1
   rw [a1] at h
   cases a2 : (n.segs.zip p.rates).any rateBad with
   | true => rw [a2] at h; simp at h
   | false =>
    rw [a2] at h
    cases a3 : p.ports.any portBadR with
    | true => rw [a3] at h; simp at h
    | false =>
     rw [a3] at h
     simp only [Bool.false_eq_true, if_false] at h
     split at h
     ·rename_i a5
      split at h
      ·cases h
      ·rename_i a6
       refine ⟨hv, a0, l1, l2, l3, fun x hx => ?_, fun r hr => ?_, fl_ok hv l1 l2 a2 a3, a5, ⟨by have := hv.nl; omega, by have := hv.sl; omega, l1, edge_ok p hv⟩, by omega⟩
       ·have := any_f a2 hx
        unfold rateBad at this
        simpa using this
       ·have := any_f a3 hr
        unfold portBadR at this
        exact withB_of (by simpa using this)
     ·cases h
 ·rename_i h1; exact absurd h h1
def ordR (n : Net) (p : Pln) : List Nat := if fckI n p = 0 then ordB n p else []
def FckPre (n : Net) (p : Pln) : Prop := NetSz n ∧ PlnSz p
def posI (r : Int) : Int := if 0 < r then r else 0
def negI (r : Int) : Int := if 0 < -r then -r else 0
theorem zip_at {α β : Type} : ∀ {l : List α} {m : List β} {x : α × β}, x ∈ l.zip m → ∃ k : Nat, l[k]? = some x.1 ∧ m[k]? = some x.2
 | [], m, x, h => by cases h
 | a :: l, [], x, h => by cases h
 | a :: l, b :: m, x, h => by
  rw [List.zip_cons_cons] at h
  rcases List.mem_cons.1 h with h | h
  ·subst h; exact ⟨0, rfl, rfl⟩
  ·obtain ⟨k, h1, h2⟩ := zip_at h
   exact ⟨k + 1, by simpa using h1, by simpa using h2⟩
theorem zip_of {α β : Type} : ∀ {l : List α} {m : List β} {k : Nat} {a : α} {b : β}, l[k]? = some a → m[k]? = some b → (a, b) ∈ l.zip m
 | [], m, k, a, b, h, _ => by simp at h
 | x :: l, [], k, a, b, _, h => by simp at h
 | x :: l, y :: m, 0, a, b, h1, h2 => by simp at h1 h2; subst h1; subst h2; exact List.mem_cons_self ..
 | x :: l, y :: m, k + 1, a, b, h1, h2 => List.mem_cons_of_mem _ (zip_of (by simpa using h1) (by simpa using h2))
def minC (c : Int) : Int := if 1000 < c then 1000 else c
def RateIn (x : Seg × Int) : Prop := -(minC x.1.cap) ≤ x.2 ∧ x.2 ≤ minC x.1.cap
structure PR (n : Net) (R : List Int) : Prop where
 rl : R.length = n.segs.length
 rb : ∀ x ∈ n.segs.zip R, RateIn x
 up : ∀ x ∈ n.segs.zip R, UpOk x
def segD (n : Net) (rate : Int) (k : Nat) : Fl := match n.segs[k]? with
 | some s => (s.fr, s.to, if s.fr < s.to then rate else -rate)
 | none => (-1, -1, 0)
def absI (n : Int) : Int := if n < -n then -n else n
def Room (n : Net) (rate : Int) (R : List Int) (k : Nat) : Prop := ∃ s r, n.segs[k]? = some s ∧ R[k]? = some r ∧ s.fr ≠ s.to ∧ absI r + rate ≤ minC s.cap
structure Way (n : Net) (R : List Int) (rate at0 at' : Int) (W : List Nat) : Prop where
 room : ∀ k ∈ W, Room n rate R k
 low : ∀ k ∈ W, ∃ s, n.segs[k]? = some s ∧ (s.fr < at' ∨ s.to < at')  ∧ (s.fr < at' → s.to ≤ at') ∧ (s.to < at' → s.fr ≤ at')
 nd : W.Nodup
 net : ∀ v : Int, sumI (fun k => netOf v (segD n rate k)) W = (if at' = v then rate else 0) - (if at0 = v then rate else 0)
theorem Way.nil (n : Net) (R : List Int) (rate at0 : Int) : Way n R rate at0 at0 [] := ⟨fun k h => (by cases h), fun k h => (by cases h), List.nodup_nil, fun v => by rw [sumI]; omega⟩
theorem Way.add {n : Net} {R : List Int} {rate at0 at' : Int} {W : List Nat} (h : Way n R rate at0 at' W) {k : Nat} {s : Seg} {r : Int} (hs : n.segs[k]? = some s) (hR : R[k]? = some r) (he : s.fr = at' ∨ s.to = at') (hup : at' < s.fr + s.to - at') (hroom : absI r + rate ≤ minC s.cap) :
  Way n R rate at0 (s.fr + s.to - at') (W ++ [k]) := by
 have hk : k ∉ W := fun hk => by
  obtain ⟨s', h1, h2, h3, h4⟩ := h.low k hk
  rw [hs] at h1
  cases h1
  omega
 refine ⟨fun j hj => ?_, fun j hj => ?_, ?_, fun v => ?_⟩
 ·rcases List.mem_append.1 hj with hj | hj
  ·exact h.room j hj
  ·rw [List.mem_singleton.1 hj]
   exact ⟨s, r, hs, hR, by omega, hroom⟩
 ·rcases List.mem_append.1 hj with hj | hj
  ·obtain ⟨s', h1, h2, h3, h4⟩ := h.low j hj
   exact ⟨s', h1, by omega, by omega, by omega⟩
  ·rw [List.mem_singleton.1 hj]
   exact ⟨s, hs, by omega, by omega, by omega⟩
 ·rw [List.nodup_append]
  exact ⟨h.nd, by simp, fun a ha b hb => by rw [List.mem_singleton.1 hb]; exact fun e => hk (e ▸ ha)⟩
 ·rw [sumI_snoc, h.net v]
  unfold segD
  rw [hs]
  unfold netOf
  dsimp only
  have neg : ∀ (c : Prop) [Decidable c], (if c then -rate else 0) = -(if c then rate else 0) := fun c _ => by split <;> omega
  rcases he with he | he
  ·subst he
   rw [if_pos (by omega : s.fr < s.to), show s.fr + s.to - s.fr = s.to by omega]
   omega
  ·subst he
   rw [if_neg (by omega : ¬ s.fr < s.to), show s.fr + s.to - s.to = s.fr by omega, neg, neg]
   omega
structure PG (n : Net) (R Q : List Int) : Prop where
 pr : PR n R
 ql : Q.length = n.ports.length
 qb : ∀ r ∈ Q, -1000 ≤ r ∧ r ≤ 1000
 bal : ∀ v : Nat, sumI (netOf (v : Int)) (flowsOf n ⟨R, Q, []⟩) = 0
structure PlanOk (n : Net) (p : Pln) : Prop where
 rl : p.rates.length = n.segs.length
 ql : p.ports.length = n.ports.length
 ul : p.pumps.length = n.sts.length
 rb : ∀ x ∈ n.segs.zip p.rates, RateIn x
 qb : ∀ r ∈ p.ports, -1000 ≤ r ∧ r ≤ 1000
 bal : ∀ v : Nat, sumI (netOf (v : Int)) (flowsOf n p) = 0
 mono : (∀ x ∈ n.segs.zip p.rates, UpOk x) ∨ ∀ x ∈ n.segs.zip p.rates, DownOk x
theorem PG.ok {n : Net} {R Q : List Int} (h : PG n R Q) {U : List Bool} (hu : U.length = n.sts.length) : PlanOk n ⟨R, Q, U⟩ := ⟨h.pr.rl, h.ql, hu, h.pr.rb, h.qb, h.bal, .inl h.pr.up⟩
def negP (p : Pln) : Pln := ⟨p.rates.map (- ·), p.ports.map (- ·), p.pumps⟩
theorem sum_neg {α : Type} (v : Int) (g : α → Int → Fl) (hg : ∀ a r, netOf v (g a (-r)) = - netOf v (g a r)) : ∀ (l : List α) (m : List Int), sumI (netOf v) (List.zipWith g l (m.map (- ·))) = - sumI (netOf v) (List.zipWith g l m)
 | [], m => by simp [sumI]
 | a :: l, [] => by simp [sumI]
 | a :: l, r :: m => by
  have := sum_neg v g hg l m
  have := hg a r
  simp only [List.map_cons, List.zipWith_cons_cons, sumI]
  omega
theorem PlanOk.neg {n : Net} {p : Pln} (h : PlanOk n p) : PlanOk n (negP p) := by
 have mem : ∀ x, x ∈ n.segs.zip (p.rates.map (- ·)) → (x.1, -x.2) ∈ n.segs.zip p.rates := fun x hx => by
  obtain ⟨k, h1, h2⟩ := zip_at hx
  rw [List.getElem?_map] at h2
  cases e : p.rates[k]? with
  | none => rw [e] at h2; cases h2
  | some r =>
   rw [e] at h2
   have : x.2 = -r := by simp at h2; omega
   rw [this, Int.neg_neg]
   exact zip_of h1 e
 have tu : ∀ x, UpOk (x.1, -x.2) → DownOk x := fun x hx hz => by
  have := hx (by dsimp only; omega)
  unfold frOf toOf at this ⊢
  dsimp only at this
  split at this <;> split <;> omega
 have td : ∀ x, DownOk (x.1, -x.2) → UpOk x := fun x hx hz => by
  have := hx (by dsimp only; omega)
  unfold frOf toOf at this ⊢
  dsimp only at this
  split at this <;> split <;> omega
 refine ⟨by simp [negP]; exact h.rl, by simp [negP]; exact h.ql, h.ul, fun x hx => ?_, fun r hr => ?_, fun v => ?_, ?_⟩
 ·have := h.rb _ (mem x hx)
  unfold RateIn at this ⊢
  dsimp only at this
  omega
 ·obtain ⟨q, hq, rfl⟩ := List.mem_map.1 hr
  have := h.qb q hq
  omega
 ·have := h.bal v
  unfold flowsOf at this ⊢
  rw [sumI_app] at this ⊢
  dsimp only [negP]
  rw [sum_neg v segFl (fun a r => by unfold segFl netOf; dsimp only; split <;> split <;> omega), sum_neg v portFl (fun a r => by unfold portFl netOf; dsimp only; split <;> split <;> omega)]
  omega
 ·rcases h.mono with hm | hm
  ·exact .inr fun x hx => tu x (hm _ (mem x hx))
  ·exact .inl fun x hx => td x (hm _ (mem x hx))
end Go.Proofs.Ytadjhfjiimgddaa

/- Plans out of a source: Negated, abs; what the loops keep. -/
/- Plans out of a source: Negated, abs; what the loops keep. -/
namespace Go.Proofs.Ytadjhfjiimgddaa
open Go
def selAbs : List D → Option (Prop × D)
 | [.v (.int .i64 x)] => some (-1000000 ≤ x ∧ x ≤ 1000000, di (absI x))
 | _ => Option.none
end Go.Proofs.Ytadjhfjiimgddaa
/- Compiled code of some functions (printed by a program), each checked by the kernel. -/
namespace Go.Proofs.Ytadjhfjiimgddaa
open Go
def c83_1 : C := (.seq (.ops true [oP 12 (.fa 1 (.t 2)), oA 13 (.ld 1 false (.t 12)) [0], oP 14 (.fa 2 (.t 2)), oA 15 (.ld 1 false (.t 14)) [2], oA 4 (.mv (.t 13)) [0, 1], oA 5 (.mv (.t 15)) [2, 1, 0, 4, 3]]) .ret)
def c83 : C := (.seq (.ops false [oP 2 (.box 7 (.t 0)), oP 4 (.mv (cI 0)), oP 5 (.mv (cI 0))]) (.seq (.seq (.ops false [oM 6 1, oP 7 (.bin .lss (.t 6) (cI 0))]) (.cond (.t 7) (.seq (.ops true [oP 8 (.fa 2 (.t 2)), oA 9 (.ld 1 false (.t 8)) [0], oP 10 (.fa 1 (.t 2)), oA 11 (.ld 1 false (.t 10)) [2], oA 4 (.mv (.t 9)) [0, 1], oA 5 (.mv (.t 11)) [2, 1, 0, 4, 3]]) .ret) .skip)) c83_1))
def r83 : List RV := [(.tmp 4), (.tmp 5)]
theorem c83_ok : ∃ code, Try.f83.body = some code ∧ compC Try.prog Try.f83.ntmps code = some (C.strip c83) := ⟨_, rfl, by kernel_rfl⟩
theorem r83_ok : compRes Try.prog Try.f83.results.toList = some r83 := by kernel_rfl
theorem f83_ok : fnOk Try.prog 83 = true := by kernel_rfl
def c84 : C := (.seq (.ops false [oP 2 (.mv (cI 0))]) (.seq (.ops false [oM 3 0, oM 4 0, oP 5 (.neg (.t 4)), oP 6 (.mnx true (.t 3) (.t 5)), oM 2 6]) .ret))
def r84 : List RV := [(.tmp 2)]
theorem c84_ok : ∃ code, Try.f84.body = some code ∧ compC Try.prog Try.f84.ntmps code = some (C.strip c84) := ⟨_, rfl, by kernel_rfl⟩
theorem r84_ok : compRes Try.prog Try.f84.results.toList = some r84 := by kernel_rfl
theorem f84_ok : fnOk Try.prog 84 = true := by kernel_rfl
set_option maxHeartbeats 4000000 in
theorem rends_c (s : Seg) (r : Int) (nn : Nm) : CallsA Try.prog 83 [.agg s.row, di r] Hp.none nn (Pu (.tup [di (frOf (s, r)), di (toOf (s, r))]) Hp.none) := by
 obtain ⟨code, h1, h2⟩ := c83_ok
 refine callsA_of (T0_ok _) mixed (N := fun t => (0, t)) Try.func83 h1 h2 r83_ok [] false js_nil js_nil' (by simp [Try.f83]) ?_
 by_cases a1 : r < 0 <;> simp (maxSteps:=500000) only [↓vp, vv, ↓reduceIte, simprocAttr, c83, r83, c83_1, Seg.row, a1, Pu, frOf, toOf]
set_option maxHeartbeats 1000000 in
theorem rabs_c (x : Int) (h : -1000000 ≤ x ∧ x ≤ 1000000) (nn : Nm) : CallsA Try.prog 84 [di x] Hp.none nn (Pu (di (absI x)) Hp.none) := by
 obtain ⟨code, h1, h2⟩ := c84_ok
 refine callsA_of (T0_ok _) mixed (N := fun t => (0, t)) Try.func84 h1 h2 r84_ok [] false js_nil js_nil' (by simp [Try.f84]) ?_
 have w1 : IntKind.i64.wrap (0 - x) = -x := by rw [wrap_i (by omega)]; omega
 have e : (if x < -x then -x else x) = absI x := rfl
 simp (maxSteps:=500000) only [↓vp, vv, ↓reduceIte, simprocAttr, c84, r84, w1, e, Pu]
theorem tc_rends {T : Tbl} (hT : TblOk Try.prog T) : TblOk Try.prog (tc 83 (rowPu selEnds) T) :=
 tc_pu f83_ok (fun args pre d h hp nn => by
  unfold selEnds at h
  split at h
  ·split at h
   ·rename_i hs
    cases h
    rw [segOf1_eq hs]
    exact rends_c _ _ nn
   ·cases h
  ·cases h) hT
theorem tc_rabs {T : Tbl} (hT : TblOk Try.prog T) : TblOk Try.prog (tc 84 (rowPu selAbs) T) :=
 tc_pu f84_ok (fun args pre d h hp nn => by
  unfold selAbs at h
  split at h <;> cases h
  exact rabs_c _ hp nn) hT
def c82_1 : C := (.seq (.ops false [oP 13 (.ld 6 true (.t 2)), oP 14 (.ld 3 true (.t 3)), oP 15 (.call 128 [(.t 13), (.t 14)]), oM 4 15, oP 5 (.mv (cI 0))]) .ret)
def c82 : C := (.seq (.ops false [oP 2 (.box 6 (.t 0)), oP 3 (.box 3 (.t 1)), oP 4 (.mv (.c .mt)), oP 5 (.mv (cI 0))]) (.seq (.seq (.ops false [oP 7 (.ld 6 true (.t 2)), oP 8 (.ld 3 true (.t 3)), oB 9 (.call 100 [(.t 7), (.t 8)]), oM 6 9]) (.seq (.ops false [oM 10 6, oP 11 (.bin .neq (.t 10) (cI 0))]) (.cond (.t 11) (.seq (.ops false [oM 12 6, oP 4 (.mv (.c .mt)),
 oM 5 12]) .ret) .skip))) c82_1))
def r82 : List RV := [(.tmp 4), (.tmp 5)]
theorem c82_ok : ∃ code, Try.f82.body = some code ∧ compC Try.prog Try.f82.ntmps code = some (C.strip c82) := ⟨_, rfl, by kernel_rfl⟩
theorem r82_ok : compRes Try.prog Try.f82.results.toList = some r82 := by kernel_rfl
theorem f82_ok : fnOk Try.prog 82 = true := by kernel_rfl
def c100_1 : C := (.ops false [oP 68 (.bin .add (.t 47) (cI 1)), oM 47 68])
def c100_2 : C := (.seq (.block 1 (.seq (.ops false [oM 49 47, oP 50 (.iaS 1 (.t 45) (.t 47)), oP 51 (.ld 1 false (.t 50)), oM 6 49, oM 7 51]) (.seq (.ops false [oP 52 (.fa 1 (.t 2)), oP 53 (.ld 1 false (.t 52)), oM 54 6, oP 55 (.iaS 7 (.t 53) (.t 54)), oP 56 (.fa 3 (.t 55)), oP 57 (.ld 1 false (.t 56)), oP 58 (.mnx false (cI 1000) (.t 57)), oM 8 58])
 (.seq (.ops false [oM 59 7, oM 60 8, oP 61 (.neg (.t 60)), oP 62 (.bin .lss (.t 59) (.t 61)), oM 63 62, oG 64 63 false (.mv (.t 7)), oG 65 63 false (.mv (.t 8)), oG 66 63 false (.bin .gtr (.t 64) (.t 65)), oP 67 (.pick (.t 63) (cB true) (.t 66))]) (.cond (.t 67) (.seq (.ops false [oP 4 (.mv (cI 1))]) .ret) .skip))))) c100_1)
def c100_3 : C := (.seq (.ops false [oP 48 (.bin .lss (.t 47) (.t 46))]) (.seq (.cond (.t 48) .skip (.exit 0)) c100_2))
def c100_4 : C := (.ops false [oP 82 (.bin .add (.t 72) (cI 1)), oM 72 82])
def c100_5 : C := (.seq (.block 3 (.seq (.ops false [oP 74 (.iaS 1 (.t 70) (.t 72)), oP 75 (.ld 1 false (.t 74)), oM 10 75]) (.seq (.ops false [oM 76 10, oP 77 (.bin .lss (.t 76) (cI (-1000))), oM 78 77, oG 79 78 false (.mv (.t 10)), oG 80 78 false (.bin .gtr (.t 79) (cI 1000)), oP 81 (.pick (.t 78) (cB true) (.t 80))]) (.cond (.t 81) (.seq (.ops false [oP 4 (.mv (cI 1))]) .ret)
 .skip)))) c100_4)
def c100_6 : C := (.seq (.ops false [oP 73 (.bin .lss (.t 72) (.t 71))]) (.seq (.cond (.t 73) .skip (.exit 2)) c100_5))
def c100_7 : C := (.ops false [oP 99 (.bin .add (.t 86) (cI 1)), oM 86 99])
def c100_8 : C := (.seq (.block 5 (.seq (.ops false [oM 88 86, oM 11 88]) (.seq (.ops false [oP 90 (.ld 6 true (.t 2)), oP 91 (.ld 3 true (.t 3)), oM 92 11, oB 93 (.call 144 [(.t 90), (.t 91), (.t 92)]), oM 89 93, oP 94 (.ext (.t 89) 0), oP 95 (.ext (.t 89) 1), oM 12 94, oM 13 95]) (.seq (.ops false [oM 96 12, oM 97 13,
 oP 98 (.bin .neq (.t 96) (.t 97))]) (.cond (.t 98) (.seq (.ops false [oP 4 (.mv (cI 12))]) .ret) .skip))))) c100_7)
def c100_9 : C := (.seq (.ops false [oP 87 (.bin .lss (.t 86) (.t 85))]) (.seq (.cond (.t 87) .skip (.exit 4)) c100_8))
def c100_10 : C := (.seq (.ops false [oP 4 (.mv (cI 0))]) .ret)
def c100_11 : C := (.seq (.seq (.ops true [oP 100 (.ld 6 true (.t 2)), oP 101 (.ld 3 true (.t 3)), oA 102 (.call 128 [(.t 100), (.t 101)]) [1, 0], oA 103 (.len (.t 102)) [0, 1, 2], oP 104 (.fa 0 (.t 2)), oA 105 (.ld 1 false (.t 104)) [4], oA 106 (.len (.t 105)) [4, 5], oA 107 (.bin .neq (.t 103) (.t 106)) [5, 4, 2, 1, 0, 6, 3]]) (.cond (.t 107) (.seq (.ops false [oP 4 (.mv (cI 13))]) .ret) .skip)) c100_10)
def c100_12 : C := (.seq (.seq (.ops false [oP 83 (.fa 0 (.t 2)), oP 84 (.ld 1 false (.t 83)), oP 85 (.len (.t 84)), oP 86 (.mv (cI 0))]) (.block 4 (.loop c100_9))) c100_11)
def c100_13 : C := (.seq (.seq (.ops false [oP 69 (.fa 1 (.t 3)), oP 70 (.ld 1 false (.t 69)), oP 71 (.len (.t 70)), oP 72 (.mv (cI 0))]) (.block 2 (.loop c100_6))) c100_12)
def c100_14 : C := (.seq (.seq (.ops false [oP 44 (.fa 0 (.t 3)), oP 45 (.ld 1 false (.t 44)), oP 46 (.len (.t 45)), oP 47 (.mv (cI 0))]) (.block 0 (.loop c100_3))) c100_13)
def c100_15 : C := (.seq (.seq (.ops false [oP 19 (.fa 0 (.t 3)), oP 20 (.ld 1 false (.t 19)), oP 21 (.len (.t 20)), oP 22 (.fa 1 (.t 2)), oP 23 (.ld 1 false (.t 22)), oP 24 (.len (.t 23)), oP 25 (.bin .neq (.t 21) (.t 24)), oM 26 25, oG 27 26 false (.fa 1 (.t 3)), oG 28 26 false (.ld 1 false (.t 27)), oG 29 26 false (.len (.t 28)), oG 30 26 false (.fa 2 (.t 2)), oG 31 26 false (.ld 1 false (.t 30)),
 oG 32 26 false (.len (.t 31)), oG 33 26 false (.bin .neq (.t 29) (.t 32)), oP 34 (.pick (.t 26) (cB true) (.t 33)), oM 35 34, oG 36 35 false (.fa 2 (.t 3)), oG 37 35 false (.ld 1 false (.t 36)), oG 38 35 false (.len (.t 37)), oG 39 35 false (.fa 3 (.t 2)), oG 40 35 false (.ld 1 false (.t 39)), oG 41 35 false (.len (.t 40)), oG 42 35 false (.bin .neq (.t 38) (.t 41)),
 oP 43 (.pick (.t 35) (cB true) (.t 42))]) (.cond (.t 43) (.seq (.ops false [oP 4 (.mv (cI 9))]) .ret) .skip)) c100_14)
def c100 : C := (.seq (.ops false [oP 2 (.box 6 (.t 0)), oP 3 (.box 3 (.t 1)), oP 4 (.mv (cI 0))]) (.seq (.seq (.ops false [oP 14 (.ld 6 true (.t 2)), oB 15 (.call 97 [(.t 14)]), oM 5 15]) (.seq (.ops false [oM 16 5, oP 17 (.bin .neq (.t 16) (cI 0))]) (.cond (.t 17) (.seq (.ops false [oM 18 5, oM 4 18]) .ret) .skip))) c100_15))
def r100 : List RV := [(.tmp 4)]
theorem c100_ok : ∃ code, Try.f100.body = some code ∧ compC Try.prog Try.f100.ntmps code = some (C.strip c100) := ⟨_, rfl, by kernel_rfl⟩
theorem r100_ok : compRes Try.prog Try.f100.results.toList = some r100 := by kernel_rfl
theorem f100_ok : fnOk Try.prog 100 = true := by kernel_rfl
def c128_1 : C := (.ops false [oP 65 (.bin .add (.t 32) (cI 1)), oM 32 65])
def c128_2 : C := (.seq (.block 5 (.seq (.ops false [oM 34 32, oP 35 (.iaS 7 (.t 30) (.t 32)), oP 36 (.ld 7 true (.t 35)), oP 11 (.new [(.v (.string ({ data := #[] }))), (.v (.int .i64 0)), (.v (.int .i64 0)), (.v (.int .i64 0)), (.v (.int .i64 0)), (.v (.int .i64 0)), .mt]), oM 10 34, oS (.st 7 (.t 11) (.t 36))]) (.seq (.ops false [oP 37 (.fa 0 (.t 3)), oP 38 (.ld 1 false (.t 37)),
 oM 39 10, oP 40 (.iaS 1 (.t 38) (.t 39)), oP 41 (.ld 1 false (.t 40)), oP 42 (.bin .neq (.t 41) (cI 0))]) (.cond (.t 42) (.seq (.ops true [oP 44 (.ld 7 true (.t 11)), oP 45 (.fa 0 (.t 3)), oA 46 (.ld 1 false (.t 45)) [1], oM 47 10, oA 48 (.iaS 1 (.t 46) (.t 47)) [1, 3, 2], oA 49 (.ld 1 false (.t 48)) [2, 3, 1, 4], oE 50 (.call 83 [(.t 44), (.t 49)]) [4, 1, 3, 2, 5, 0],
 oA 43 (.mv (.t 50)) [0, 5, 2, 3, 1, 4, 6], oA 51 (.ext (.t 43) 0) [6, 4, 1, 3, 2, 5, 0, 7], oA 52 (.ext (.t 43) 1) [6, 4, 1, 3, 2, 5, 0, 7], oA 12 (.mv (.t 51)) [7, 5, 4, 3, 2, 1, 0, 6, 8], oA 13 (.mv (.t 52)) [8, 7, 6, 5, 4, 3, 2, 1, 0, 10, 9]]) (.ops false [oM 53 9, oM 54 53, oG 55 54 true (.mv (.t 13)), oG 56 54 true (.mv (.t 8)), oG 57 54 true (.bin .neq (.t 55) (.t 56)),
 oG 58 54 true (.mv (.t 57)), oG 59 58 false (.mv (.t 6)), oG 60 58 false (.mv (.t 12)), oG 61 58 false (.iaS 1 (.t 59) (.t 60)), oG 62 58 false (.ld 1 false (.t 61)), oG 63 54 true (.pick (.t 58) (cB true) (.t 62)), oP 64 (.pick (.t 54) (.t 63) (cB false)), oM 9 64])) .skip)))) c128_1)
def c128_3 : C := (.seq (.ops false [oP 33 (.bin .lss (.t 32) (.t 31))]) (.seq (.cond (.t 33) .skip (.exit 4)) c128_2))
def c128_4 : C := (.seq (.ops false [oM 66 9, oM 67 66, oG 68 67 true (.mv (.t 7)), oG 69 67 true (.bin .lss (.t 68) (cI 0)), oP 70 (.pick (.t 67) (.t 69) (cB false))]) (.cond (.t 70) (.ops false [oM 71 8, oM 7 71]) .skip))
def c128_5 : C := (.ops false [oP 72 (.bin .add (.t 21) (cI 1)), oM 21 72])
def c128_6 : C := (.seq (.block 3 (.seq (.ops false [oM 23 21, oM 8 23]) (.seq (.ops false [oM 24 6, oM 25 8, oP 26 (.iaS 1 (.t 24) (.t 25)), oP 27 (.ld 1 false (.t 26)), oP 28 (.not (.t 27)), oM 9 28]) (.seq (.seq (.ops false [oP 29 (.fa 1 (.t 2)), oP 30 (.ld 1 false (.t 29)), oP 31 (.len (.t 30)), oP 32 (.mv (cI 0))]) (.block 4 (.loop c128_3))) c128_4))))
 c128_5)
def c128_7 : C := (.seq (.ops false [oP 22 (.bin .lss (.t 21) (.t 20))]) (.seq (.cond (.t 22) .skip (.exit 2)) c128_6))
def c128_8 : C := (.seq (.ops false [oM 76 5, oM 77 7, oP 78 (.bsl 1 1 [(.v (.int .i64 0))] [(0, (.t 77))]), oP 79 (.app 1 8 (.t 76) (.t 78)), oM 5 79]) (.ops false [oM 80 6, oM 81 7, oP 82 (.iaS 1 (.t 80) (.t 81)), oS (.st 1 (.t 82) (cB true))]))
def c128_9 : C := (.seq (.seq (.ops false [oM 73 7, oP 74 (.bin .lss (.t 73) (cI 0))]) (.cond (.t 74) (.seq (.ops false [oM 75 5, oM 4 75]) .ret) .skip)) c128_8)
def c128_10 : C := (.block 1 (.seq (.ops false [oP 7 (.mv (cI (-1)))]) (.seq (.seq (.ops false [oP 18 (.fa 0 (.t 2)), oP 19 (.ld 1 false (.t 18)), oP 20 (.len (.t 19)), oP 21 (.mv (cI 0))]) (.block 2 (.loop c128_7))) c128_9)))
def c128 : C := (.seq (.ops false [oP 2 (.box 6 (.t 0)), oP 3 (.box 3 (.t 1)), oP 4 (.mv (.c .mt))]) (.seq (.ops false [oP 5 (.mv (.c .mt))]) (.seq (.ops false [oP 14 (.fa 0 (.t 2)), oP 15 (.ld 1 false (.t 14)), oP 16 (.len (.t 15)), oP 17 (.mks 1 1 [(.v (.bool false))] (.t 16)), oM 6 17]) (.block 0 (.loop c128_10)))))
def r128 : List RV := [(.tmp 4)]
theorem c128_ok : ∃ code, Try.f128.body = some code ∧ compC Try.prog Try.f128.ntmps code = some (C.strip c128) := ⟨_, rfl, by kernel_rfl⟩
theorem r128_ok : compRes Try.prog Try.f128.results.toList = some r128 := by kernel_rfl
theorem f128_ok : fnOk Try.prog 128 = true := by kernel_rfl
def c144_1 : C := (.seq (.ops false [oM 51 13, oM 52 2, oP 53 (.bin .eql (.t 51) (.t 52))]) (.cond (.t 53) (.ops false [oM 54 8, oP 55 (.fa 0 (.t 4)), oP 56 (.ld 1 false (.t 55)), oM 57 10, oP 58 (.iaS 1 (.t 56) (.t 57)), oP 59 (.ld 1 false (.t 58)), oB 60 (.call 84 [(.t 59)]), oP 61 (.bin .add (.t 54) (.t 60)), oM 8 61]) .skip))
def c144_2 : C := (.seq (.ops true [oP 31 (.ld 7 true (.t 11)), oP 32 (.fa 0 (.t 4)), oA 33 (.ld 1 false (.t 32)) [1], oM 34 10, oA 35 (.iaS 1 (.t 33) (.t 34)) [1, 3, 2], oA 36 (.ld 1 false (.t 35)) [2, 3, 1, 4], oE 37 (.call 83 [(.t 31), (.t 36)]) [4, 1, 3, 2, 5, 0], oA 30 (.mv (.t 37)) [0, 5, 2, 3, 1, 4, 6], oA 38 (.ext (.t 30) 0) [6, 4, 1, 3, 2, 5, 0, 7], oA 39 (.ext (.t 30) 1) [6, 4, 1, 3, 2, 5, 0,
 7], oA 12 (.mv (.t 38)) [7, 5, 4, 3, 2, 1, 0, 6, 8], oA 13 (.mv (.t 39)) [8, 7, 6, 5, 4, 3, 2, 1, 0, 10, 9]]) (.seq (.seq (.ops false [oM 40 12, oM 41 2, oP 42 (.bin .eql (.t 40) (.t 41))]) (.cond (.t 42) (.ops false [oM 43 9, oP 44 (.fa 0 (.t 4)), oP 45 (.ld 1 false (.t 44)), oM 46 10, oP 47 (.iaS 1 (.t 45) (.t 46)), oP 48 (.ld 1 false (.t 47)),
 oB 49 (.call 84 [(.t 48)]), oP 50 (.bin .add (.t 43) (.t 49)), oM 9 50]) .skip)) c144_1))
def c144_3 : C := (.ops false [oP 62 (.bin .add (.t 19) (cI 1)), oM 19 62])
def c144_4 : C := (.seq (.block 1 (.seq (.ops false [oM 21 19, oP 22 (.iaS 7 (.t 17) (.t 19)), oP 23 (.ld 7 true (.t 22)), oP 11 (.new [(.v (.string ({ data := #[] }))), (.v (.int .i64 0)), (.v (.int .i64 0)), (.v (.int .i64 0)), (.v (.int .i64 0)), (.v (.int .i64 0)), .mt]), oM 10 21, oS (.st 7 (.t 11) (.t 23))]) (.seq (.seq (.ops false [oP 24 (.fa 0 (.t 4)), oP 25 (.ld 1 false (.t 24)),
 oM 26 10, oP 27 (.iaS 1 (.t 25) (.t 26)), oP 28 (.ld 1 false (.t 27)), oP 29 (.bin .eql (.t 28) (cI 0))]) (.cond (.t 29) (.exit 1) .skip)) c144_2))) c144_3)
def c144_5 : C := (.seq (.ops false [oP 20 (.bin .lss (.t 19) (.t 18))]) (.seq (.cond (.t 20) .skip (.exit 0)) c144_4))
def c144_6 : C := (.ops false [oP 92 (.bin .add (.t 66) (cI 1)), oM 66 92])
def c144_7 : C := (.seq (.block 3 (.seq (.ops false [oM 68 66, oP 69 (.iaS 3 (.t 64) (.t 66)), oP 70 (.ld 3 true (.t 69)), oP 15 (.new [(.v (.string ({ data := #[] }))), (.v (.int .i64 0)), (.v (.int .i64 0))]), oM 14 68, oS (.st 3 (.t 15) (.t 70))]) (.seq (.ops false [oP 71 (.fa 1 (.t 15)), oP 72 (.ld 1 false (.t 71)), oM 73 2, oP 74 (.bin .eql (.t 72) (.t 73))]) (.cond (.t 74)
 (.ops true [oM 75 8, oP 76 (.fa 1 (.t 4)), oA 77 (.ld 1 false (.t 76)) [1], oM 78 14, oA 79 (.iaS 1 (.t 77) (.t 78)) [1, 3, 2], oA 80 (.ld 1 false (.t 79)) [2, 3, 1, 4], oA 81 (.mnx true (cI 0) (.t 80)) [4, 1, 3, 2, 5], oA 82 (.bin .add (.t 75) (.t 81)) [5, 2, 3, 1, 4, 6, 0], oM 83 9, oP 84 (.fa 1 (.t 4)), oA 85 (.ld 1 false (.t 84)) [9], oM 86 14,
 oA 87 (.iaS 1 (.t 85) (.t 86)) [9, 11, 10], oA 88 (.ld 1 false (.t 87)) [10, 11, 9, 12], oA 89 (.neg (.t 88)) [12, 9, 11, 10, 13], oA 90 (.mnx true (cI 0) (.t 89)) [13, 10, 11, 9, 12, 14], oA 91 (.bin .add (.t 83) (.t 90)) [14, 12, 9, 11, 10, 13, 15, 8], oA 8 (.mv (.t 82)) [6, 5, 4, 3, 2, 1, 0, 7], oA 9 (.mv (.t 91)) [15, 14, 13, 12, 11, 10, 9, 8, 7, 6, 5, 4, 3, 2, 1, 0, 17, 16]]) .skip))))
 c144_6)
def c144_8 : C := (.seq (.ops false [oP 67 (.bin .lss (.t 66) (.t 65))]) (.seq (.cond (.t 67) .skip (.exit 2)) c144_7))
def c144_9 : C := (.seq (.ops false [oM 93 8, oM 94 9, oM 6 93, oM 7 94]) .ret)
def c144_10 : C := (.seq (.seq (.ops false [oP 63 (.fa 2 (.t 3)), oP 64 (.ld 1 false (.t 63)), oP 65 (.len (.t 64)), oP 66 (.mv (cI 0))]) (.block 2 (.loop c144_8))) c144_9)
def c144 : C := (.seq (.ops false [oP 3 (.box 6 (.t 0)), oP 4 (.box 3 (.t 1)), oP 6 (.mv (cI 0)), oP 7 (.mv (cI 0))]) (.seq (.ops false [oP 8 (.mv (cI 0)), oP 9 (.mv (cI 0))]) (.seq (.seq (.ops false [oP 16 (.fa 1 (.t 3)), oP 17 (.ld 1 false (.t 16)), oP 18 (.len (.t 17)), oP 19 (.mv (cI 0))]) (.block 0 (.loop c144_5))) c144_10)))
def r144 : List RV := [(.tmp 6), (.tmp 7)]
theorem c144_ok : ∃ code, Try.f144.body = some code ∧ compC Try.prog Try.f144.ntmps code = some (C.strip c144) := ⟨_, rfl, by kernel_rfl⟩
theorem r144_ok : compRes Try.prog Try.f144.results.toList = some r144 := by kernel_rfl
theorem f144_ok : fnOk Try.prog 144 = true := by kernel_rfl
end Go.Proofs.Ytadjhfjiimgddaa
