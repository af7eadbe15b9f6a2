
/- FlowTurns: the plain law; keep.Added. -/
import Derived.Test.YtfkhjkkhdfcnjaaFlP
import Derived.Test.YtfkhjkkhdfcnjaaCodeFT
import Derived.Test.YtfkhjkkhdfcnjaaRkA
import Derived.Test.YtfkhjkkhdfcnjaaBridge
/- FlowTurns: the plain law; keep.Added. -/
namespace Go.Proofs.Ytfkhjkkhdfcnjaa
open Go
set_option linter.unusedVariables false
set_option linter.unusedSimpArgs false
set_option maxRecDepth 100000

def addP (p q : Pln) : Pln := ⟨List.zipWith (· + ·) p.rates q.rates, List.zipWith (· + ·) p.ports q.ports, p.pumps⟩
theorem sum_addz {α : Type} (v : Int) (g : α → Int → Fl) (hg : ∀ a r d, netOf v (g a (r + d)) = netOf v (g a r) + netOf v (g a d)) : ∀ (l : List α) (m k : List Int), m.length = l.length → k.length = l.length → sumI (netOf v) (List.zipWith g l (List.zipWith (· + ·) m k)) = sumI (netOf v) (List.zipWith g l m) + sumI (netOf v) (List.zipWith g l k)
  | [], m, k, h1, h2 => by
    rw [List.length_eq_zero_iff.1 h1, List.length_eq_zero_iff.1 h2]
    rfl
  | a :: l, [], k, h1, _ => by simp at h1
  | a :: l, r :: m, [], _, h2 => by simp at h2
  | a :: l, r :: m, d :: k, h1, h2 => by
    have := sum_addz v g hg l m k (by simpa using h1) (by simpa using h2)
    have := hg a r d
    simp only [List.zipWith_cons_cons, sumI]
    omega
theorem add_bal {n : Net} {p q : Pln} (hp : PlanOk n p) (hq : PlanOk n q) (v : Nat) : sumI (netOf (v : Int)) (flowsOf n (addP p q)) = 0 := by
  have h1 := hp.bal v
  have h2 := hq.bal v
  unfold flowsOf at *
  rw [sumI_app] at *
  dsimp only [addP]
  rw [sum_addz v segFl (fun a r d => net_lin ..) _ _ _ hp.rl hq.rl, sum_addz v portFl (fun a r d => net_lin ..) _ _ _ hp.ql hq.ql]
  omega
theorem add_chk {n : Net} {p q : Pln} (hck : checkI n = 0) (hp : PlanOk n p) (hq : PlanOk n q) : fckI n (addP p q) = 0 ∨ fckI n (addP p q) = 1 ∨ fckI n (addP p q) = 13 := by
  have hr : (addP p q).rates.length = n.segs.length := by have := hp.rl; have := hq.rl; simp only [addP, List.length_zipWith]; omega
  have hl : (addP p q).ports.length = n.ports.length := by have := hp.ql; have := hq.ql; simp only [addP, List.length_zipWith]; omega
  unfold fckI
  rw [if_pos hck, len_f hr hl (show (addP p q).pumps.length = _ from hp.ul)]
  rw [if_neg (by simp)]
  split
  · exact .inr (.inl rfl)
  · split
    · exact .inr (.inl rfl)
    · rw [if_pos ((bal_iff _).2 fun v _ => add_bal hp hq v)]
      split
      · exact .inr (.inr rfl)
      · exact .inl rfl
theorem feed_neg {n : Net} {p : Pln} (h1 : fckI n p = 0) (h2 : fckI n (negP p) = 0) : feedI n (negP p) = ((feedI n p).2, (feedI n p).1) := by
  unfold feedI
  rw [if_pos h1, if_pos h2]
  have e1 : sumI posI (negP p).ports = sumI negI p.ports := sumI_map posI (- ·) p.ports
  have e2 : sumI negI (negP p).ports = sumI posI p.ports := by
    refine (sumI_map negI (- ·) p.ports).trans (sumI_congr fun r _ => ?_)
    unfold negI posI
    rw [Int.neg_neg]
  rw [e1, e2]
end Go.Proofs.Ytfkhjkkhdfcnjaa
/- keep.Added. -/
namespace Go.Proofs.Ytfkhjkkhdfcnjaa
open Go
set_option linter.unusedVariables false
set_option linter.unusedSimpArgs false
set_option maxRecDepth 100000

def AddS (p q : Pln) (r s : List Int) : Hp := ((((((Hp.none.put (0, 1002) ⟨s.length, 1, s.map iRow⟩).put (0, 1001) ⟨r.length, 1, r.map iRow⟩).put (0, 8) ⟨1, 1, p.pumps.map bRow⟩).put (0, 5) ⟨0, 3, [[.own (0, 1001) r.length 0 r.length, .own (0, 1002) s.length 0 s.length, .own (0, 8) 1 0 p.pumps.length]]⟩).put (0, 4) ⟨0, 3, [[.mt, .mt, .mt]]⟩).put (0, 3) ⟨0, 3, [plnD q]⟩).put (0, 2) ⟨0, 3, [plnD p]⟩
def AddF (l : List (Nat × D)) : List (Nat × D) := (2, .ptr (0, 2) 0 0 0) :: (3, .ptr (0, 3) 0 0 0) :: (4, .ptr (0, 4) 0 0 0) :: (5, .ptr (0, 5) 0 0 0) :: l
def addL (R S : List Int) (j : Nat) : List Int := List.zipWith (· + ·) (R.take j) (S.take j)
theorem addL_len {R S : List Int} {j : Nat} (h : j ≤ R.length) (h2 : S.length = R.length) : (addL R S j).length = j := by unfold addL; rw [List.length_zipWith, List.length_take, List.length_take]; omega
theorem add_take (R S : List Int) (j : Nat) (h : j < R.length) (h2 : j < S.length) : addL R S (j + 1) = addL R S j ++ [R[j] + S[j]] := by
  unfold addL
  rw [← List.take_append_getElem h, ← List.take_append_getElem h2, List.zipWith_append (by simp; omega)]; rfl
set_option maxHeartbeats 16000000 in
theorem added_c (p q : Pln) (h1 : SmI p.rates) (h2 : SmI p.ports) (h3 : p.pumps.length ≤ 1000000) (g1 : SmI q.rates) (g2 : SmI q.ports) (e1 : q.rates.length = p.rates.length) (e2 : q.ports.length = p.ports.length) (nn : Nm) : CallsA Try.prog 33 [p.enc, q.enc] Hp.none nn (Pu (addP p q).enc Hp.none) := by
  obtain ⟨code, k1, k2⟩ := c33_ok
  refine callsA_of (T0_ok _) mixed (N := fun t => (0, t)) Try.func33 k1 k2 r33_ok [] false js_nil js_nil' (by simp [Try.f33]) ?_
  obtain ⟨l1, b1⟩ := h1
  obtain ⟨l2, b2⟩ := h2
  obtain ⟨l3, b3⟩ := g1
  obtain ⟨l4, b4⟩ := g2
  have z1 : p.pumps.length * 1 ≤ 140737488355328 := by omega
  have z2 : p.pumps.length ≤ 4611686018427387904 := by omega
  have hb : ∀ b ∈ p.pumps, (bRow b).length = 1 := fun _ _ => rfl
  simp (config := { maxSteps := 500000 }) only [↓vp, vv, implies_true, forall_const, undef, InI, ↓reduceIte, simprocAttr, c33, c33_7, Pln.enc, plnD, z1, z2, hb, e1, e2, bne_self_eq_false]
  refine ⟨hb, rng_loop p.rates.length (fun j => ⟨fr (AddF [(32, di p.rates.length), (33, di j)]), AddS p q (addL p.rates q.rates j) []⟩) (fun _ => True) ((weak_ownC (0, 5) 0 3 [] [.mt, .own (0, 8) 1 0 p.pumps.length] (0, 1001) 1 (by simp (config := { maxSteps := 500000 }) only [↓vp, vv, implies_true, forall_const, undef, InI, ↓reduceIte, simprocAttr, ]) (by simp (config := { maxSteps := 500000 }) only [↓vp, vv, implies_true, forall_const, undef, InI, ↓reduceIte, simprocAttr, ])).trans ((weak_ownC (0, 5) 0 3 [.own (0, 1001) 0 0 0] [.own (0, 8) 1 0 p.pumps.length] (0, 1002) 1 (by simp (config := { maxSteps := 500000 }) only [↓vp, vv, implies_true, forall_const, undef, InI, ↓reduceIte, simprocAttr, ]) (by simp (config := { maxSteps := 500000 }) only [↓vp, vv, implies_true, forall_const, undef, InI, ↓reduceIte, simprocAttr, ])).trans (weak_eq [] [(0, 2), (0, 3), (0, 4), (0, 5), (0, 8), (0, 1001), (0, 1002)] (AddF [(32, di p.rates.length), (33, di 0)]) (by simp (config := { maxSteps := 500000 }) only [↓vp, vv, implies_true, forall_const, undef, InI, ↓reduceIte, simprocAttr, coverS, AddF, AddS, plnD, iRow, bRow, addL, List.take_zero, List.zipWith_nil_left]) (by simp (config := { maxSteps := 500000 }) only [↓vp, vv, implies_true, forall_const, undef, InI, ↓reduceIte, simprocAttr, refsF, AddF, AddS, plnD, iRow, bRow, addL, List.take_zero, List.zipWith_nil_left]) (by simp (config := { maxSteps := 500000 }) only [↓vp, vv, implies_true, forall_const, undef, InI, ↓reduceIte, simprocAttr, AddF, AddS, plnD, iRow, bRow, addL, List.take_zero, List.zipWith_nil_left]) (by simp) (by simp (config := { maxSteps := 500000 }) only [↓vp, vv, implies_true, forall_const, undef, InI, ↓reduceIte, simprocAttr, AddF, AddS, plnD, iRow, bRow, addL, List.take_zero, List.zipWith_nil_left]; try rfl)))) trivial (fun j hj _ => ?_) (fun _ => ?_)⟩
  · have hj' : (j : Int) < p.rates.length := by omega
    have hj2 : j < q.rates.length := by omega
    have hjq : (j : Int) < q.rates.length := by omega
    have hn := idx_nn j
    have w1 := idx_next (j := j) (by omega)
    have hg := iRow_at p.rates j hj
    have hg2 := iRow_at q.rates j hj2
    have ht := add_take p.rates q.rates j hj hj2
    have hr := b1 _ (List.getElem_mem hj)
    have hr2 := b3 _ (List.getElem_mem hj2)
    generalize p.rates[j] = r at hg ht hr
    generalize q.rates[j] = s at hg2 ht hr2
    have w2 : IntKind.i64.wrap (r + s) = r + s := by rw [wrap_i (by omega)]
    have hl : (addL p.rates q.rates j).length = j := addL_len (by omega) (by omega)
    have hl3 : (addL p.rates q.rates (j + 1)).length = j + 1 := addL_len (by omega) (by omega)
    have y1 : (j + 1) * 8 ≤ 140737488355328 := by omega
    have y2 : j + 1 ≤ 4611686018427387904 := by omega
    simp (config := { maxSteps := 500000 }) only [↓vp, vv, implies_true, forall_const, undef, InI, ↓reduceIte, simprocAttr, c33, r33, c33_1, c33_2, c33_3, c33_4, c33_5, c33_6, c33_7, AddF, AddS, plnD, hj', hjq, hn, Int.toNat_natCast, hg, hg2, w1, w2, hl, y1, y2]
    exact rng_next hj (weak_eq [] [(0, 2), (0, 3), (0, 4), (0, 5), (0, 8), (0, 1001), (0, 1002)] (AddF [(32, di p.rates.length), (33, di (j + 1 : Nat))]) (by simp (config := { maxSteps := 500000 }) only [↓vp, vv, implies_true, forall_const, undef, InI, ↓reduceIte, simprocAttr, coverS, AddF, AddS, plnD, iRow, bRow, w1, ht, hl, hl3, List.map_append]) (by simp (config := { maxSteps := 500000 }) only [↓vp, vv, implies_true, forall_const, undef, InI, ↓reduceIte, simprocAttr, refsF, AddF, AddS, plnD, iRow, bRow, w1, ht, hl, hl3, List.map_append]) (by simp (config := { maxSteps := 500000 }) only [↓vp, vv, implies_true, forall_const, undef, InI, ↓reduceIte, simprocAttr, AddF, AddS, plnD, iRow, bRow, w1, ht, hl, hl3, List.map_append]) (by simp) (by simp (config := { maxSteps := 500000 }) only [↓vp, vv, implies_true, forall_const, undef, InI, ↓reduceIte, simprocAttr, AddF, AddS, plnD, iRow, bRow, w1, ht, hl, hl3, List.map_append]; try rfl)) trivial
  · unfold addL
    rw [List.take_length, show q.rates.take p.rates.length = q.rates by rw [← e1]; exact List.take_length]
    have hl1 : (List.zipWith (· + ·) p.rates q.rates).length = p.rates.length := by rw [List.length_zipWith]; omega
    have e : addP p q = ⟨List.zipWith (· + ·) p.rates q.rates, List.zipWith (· + ·) p.ports q.ports, p.pumps⟩ := rfl
    rw [e]
    generalize List.zipWith (· + ·) p.rates q.rates = R at hl1
    simp (config := { maxSteps := 500000 }) only [↓vp, vv, implies_true, forall_const, undef, InI, ↓reduceIte, simprocAttr, c33, r33, c33_1, c33_2, c33_3, c33_4, c33_5, c33_6, c33_7, AddF, AddS, plnD, Int.lt_irrefl]
    refine rng_loop p.ports.length (fun j => ⟨fr (AddF [(55, di p.ports.length), (56, di j)]), AddS p q R (addL p.ports q.ports j)⟩) (fun _ => True) (weak_eq [] [(0, 2), (0, 3), (0, 4), (0, 5), (0, 8), (0, 1001), (0, 1002)] (AddF [(55, di p.ports.length), (56, di 0)]) (by simp (config := { maxSteps := 500000 }) only [↓vp, vv, implies_true, forall_const, undef, InI, ↓reduceIte, simprocAttr, coverS, AddF, AddS, plnD, iRow, bRow, addL, List.take_zero, List.zipWith_nil_left]) (by simp (config := { maxSteps := 500000 }) only [↓vp, vv, implies_true, forall_const, undef, InI, ↓reduceIte, simprocAttr, refsF, AddF, AddS, plnD, iRow, bRow, addL, List.take_zero, List.zipWith_nil_left]) (by simp (config := { maxSteps := 500000 }) only [↓vp, vv, implies_true, forall_const, undef, InI, ↓reduceIte, simprocAttr, AddF, AddS, plnD, iRow, bRow, addL, List.take_zero, List.zipWith_nil_left]) (by simp) (by simp (config := { maxSteps := 500000 }) only [↓vp, vv, implies_true, forall_const, undef, InI, ↓reduceIte, simprocAttr, AddF, AddS, plnD, iRow, bRow, addL, List.take_zero, List.zipWith_nil_left]; try rfl)) trivial (fun j hj _ => ?_) (fun _ => ?_)
    · have hj' : (j : Int) < p.ports.length := by omega
      have hj2 : j < q.ports.length := by omega
      have hjq : (j : Int) < q.ports.length := by omega
      have hn := idx_nn j
      have w1 := idx_next (j := j) (by omega)
      have hg := iRow_at p.ports j hj
      have hg2 := iRow_at q.ports j hj2
      have ht := add_take p.ports q.ports j hj hj2
      have hr := b2 _ (List.getElem_mem hj)
      have hr2 := b4 _ (List.getElem_mem hj2)
      generalize p.ports[j] = r at hg ht hr
      generalize q.ports[j] = s at hg2 ht hr2
      have w2 : IntKind.i64.wrap (r + s) = r + s := by rw [wrap_i (by omega)]
      have hl : (addL p.ports q.ports j).length = j := addL_len (by omega) (by omega)
      have hl3 : (addL p.ports q.ports (j + 1)).length = j + 1 := addL_len (by omega) (by omega)
      have y1 : (j + 1) * 8 ≤ 140737488355328 := by omega
      have y2 : j + 1 ≤ 4611686018427387904 := by omega
      simp (config := { maxSteps := 500000 }) only [↓vp, vv, implies_true, forall_const, undef, InI, ↓reduceIte, simprocAttr, c33, r33, c33_1, c33_2, c33_3, c33_4, c33_5, c33_6, c33_7, AddF, AddS, plnD, hj', hjq, hn, Int.toNat_natCast, hg, hg2, w1, w2, hl, y1, y2]
      exact rng_next hj (weak_eq [] [(0, 2), (0, 3), (0, 4), (0, 5), (0, 8), (0, 1001), (0, 1002)] (AddF [(55, di p.ports.length), (56, di (j + 1 : Nat))]) (by simp (config := { maxSteps := 500000 }) only [↓vp, vv, implies_true, forall_const, undef, InI, ↓reduceIte, simprocAttr, coverS, AddF, AddS, plnD, iRow, bRow, w1, ht, hl, hl3, List.map_append]) (by simp (config := { maxSteps := 500000 }) only [↓vp, vv, implies_true, forall_const, undef, InI, ↓reduceIte, simprocAttr, refsF, AddF, AddS, plnD, iRow, bRow, w1, ht, hl, hl3, List.map_append]) (by simp (config := { maxSteps := 500000 }) only [↓vp, vv, implies_true, forall_const, undef, InI, ↓reduceIte, simprocAttr, AddF, AddS, plnD, iRow, bRow, w1, ht, hl, hl3, List.map_append]) (by simp) (by simp (config := { maxSteps := 500000 }) only [↓vp, vv, implies_true, forall_const, undef, InI, ↓reduceIte, simprocAttr, AddF, AddS, plnD, iRow, bRow, w1, ht, hl, hl3, List.map_append]; try rfl)) trivial
    · unfold addL
      rw [List.take_length, show q.ports.take p.ports.length = q.ports by rw [← e2]; exact List.take_length]
      generalize List.zipWith (· + ·) p.ports q.ports = Q
      simp (config := { maxSteps := 500000 }) only [↓vp, vv, implies_true, forall_const, undef, InI, ↓reduceIte, simprocAttr, c33, r33, c33_1, c33_2, c33_3, c33_4, c33_5, c33_6, c33_7, AddF, AddS, plnD, Int.lt_irrefl, Pu]
      exact ⟨fun _ _ d hd => by rw [List.mem_singleton.1 hd]; rfl, fun _ _ d hd => by rw [List.mem_singleton.1 hd]; rfl, fun _ _ d hd => by rw [List.mem_singleton.1 hd]; rfl⟩
end Go.Proofs.Ytfkhjkkhdfcnjaa
/- FlowTurns: the walk. -/
namespace Go.Proofs.Ytfkhjkkhdfcnjaa
open Go
set_option linter.unusedVariables false
set_option linter.unusedSimpArgs false
set_option maxRecDepth 100000

structure PAddPre (p q : Pln) : Prop where
  a : SmI p.rates
  b : SmI p.ports
  c : p.pumps.length ≤ 1000000
  d : SmI q.rates
  e : SmI q.ports
  f : q.rates.length = p.rates.length
  g : q.ports.length = p.ports.length
def selPAdd : List D → Option (Prop × D)
  | [.agg a, .agg b] => match plnOf1 a, plnOf1 b with
    | some p, some q => some (PAddPre p q, (addP p q).enc)
    | _, _ => Option.none
  | _ => Option.none
theorem tc_neg {T : Tbl} (hT : TblOk Try.prog T) : TblOk Try.prog (tc 31 (rowPu selNeg) T) :=
  tc_pu f31_ok (fun args pre d h hp nn => by
    unfold selNeg at h
    split at h
    · split at h
      · rename_i e
        cases h
        rw [plnOf1_eq e]
        exact negated_c _ hp.1 hp.2.1 hp.2.2 nn
      · cases h
    · cases h) hT
theorem tc_padd {T : Tbl} (hT : TblOk Try.prog T) : TblOk Try.prog (tc 33 (rowPu selPAdd) T) :=
  tc_pu f33_ok (fun args pre d h hp nn => by
    unfold selPAdd at h
    split at h
    · split at h
      · rename_i e1 e2
        cases h
        rw [plnOf1_eq e1, plnOf1_eq e2]
        exact added_c _ _ hp.a hp.b hp.c hp.d hp.e hp.f hp.g nn
      · cases h
    · cases h) hT
theorem tc_rck {T : Tbl} (hT : TblOk Try.prog T) : TblOk Try.prog (tc 34 (rowPu (selNet fun n => di (checkI n))) T) :=
  tc_netf f34_ok (fun n hz nn => rcheck_c n hz nn) hT
def TL2 : Tbl := tc 31 (rowPu selNeg) (tc 33 (rowPu selPAdd) (tc 34 (rowPu (selNet fun n => di (checkI n))) TL1))
theorem TL2_ok : TblOk Try.prog TL2 := tc_neg (tc_padd (tc_rck TL1_ok))
theorem rates_b {n : Net} {p : Pln} (hp : PlanOk n p) : ∀ r ∈ p.rates, -1000 ≤ r ∧ r ≤ 1000 := fun r hr => by
  obtain ⟨k, hk⟩ := List.getElem?_of_mem hr
  have hl : k < p.rates.length := by
    rcases Nat.lt_or_ge k p.rates.length with h | h
    · exact h
    · rw [List.getElem?_eq_none h] at hk; cases hk
  have hrl := hp.rl
  have hx : (n.segs[k]'(by omega), r) ∈ n.segs.zip p.rates := zip_of (List.getElem?_eq_getElem (by omega)) hk
  have := hp.rb _ hx
  unfold RateIn at this
  have := @minC_b (n.segs[k]'(by omega)).cap
  dsimp only at *
  omega
theorem plan_sm {n : Net} {p : Pln} (hv : NetV n) (hp : PlanOk n p) : SmI p.rates ∧ SmI p.ports ∧ p.pumps.length ≤ 1000000 := by
  have := hv.sl
  have := hv.ql
  have := hv.tl
  have := hp.rl
  have := hp.ql
  have := hp.ul
  refine ⟨⟨by omega, fun r hr => ?_⟩, ⟨by omega, fun r hr => ?_⟩, by omega⟩
  · have := rates_b hp r hr; omega
  · have := hp.qb r hr; omega
set_option maxHeartbeats 16000000 in
theorem FT_c (ns : List Int) (hns : ∀ n ∈ ns, InI n) (nn : Nm) : CallsA Try.prog 5 [.sl (ns.map fun n => [di n])] Hp.none nn (Pu (db true) Hp.none) := by
  obtain ⟨code, h1, h2⟩ := c5_ok
  refine callsA_of TL2_ok mixed (N := fun t => (0, t)) Try.func5 h1 h2 r5_ok [] false js_nil js_nil' (by simp [Try.f5]) ?_
  have ho : SrcOk ((ns.map fun n => [di n]).take 2000) 0 := src_new ns hns
  simp (config := { maxSteps := 500000 }) only [↓vp, vv, implies_true, forall_const, undef, InI, ↓reduceIte, simprocAttr, c5, TL2, TL1, rowNew, sel0, ho, Net.enc]
  intro a1 n hn
  have hck := check_ok hn
  have hv := check0 hck
  have hnl := hv.nl
  have hpp := ports1 hn
  have hn1 : netOf1 [D.sl (n.nodes.map nmRow), .sl (n.segs.map Seg.row), .sl (n.ports.map Port.row), .sl (n.sts.map Stn.row), di n.vap, di n.set] = some n := netOf1_row n
  simp (config := { maxSteps := 500000 }) only [↓vp, vv, implies_true, forall_const, undef, InI, ↓reduceIte, simprocAttr, TL2, TL1, selPlan, hn1, hv, hpp, a1.2, Pln.enc, plnD]
  intro a2 p hp
  intro a3 q hq
  have hz := plan_sz hn hp
  have f0 := plan0 hck hp
  have hnp := hp.neg
  have hzn := plan_sz hn hnp
  have fn := plan0 hck hnp
  have hfn := feed_neg f0 fn
  have s1 := plan_sm hv hp
  have s2 := plan_sm hv hq
  have hap : PAddPre p q := ⟨s1.1, s1.2.1, s1.2.2, s2.1, s2.2.1, by rw [hq.rl, hp.rl], by rw [hq.ql, hp.ql]⟩
  have hza : FckPre n (addP p q) := by
    have := hv.sl
    have := hv.ql
    have := hv.tl
    have := hp.rl
    have := hp.ql
    have := hp.ul
    exact ⟨net_sz hn, ⟨by simp only [addP, List.length_zipWith]; omega, by simp only [addP, List.length_zipWith]; omega, by simp only [addP]; omega⟩⟩
  have hp1 : plnOf1 [D.sl (p.rates.map iRow), .sl (p.ports.map iRow), .sl (p.pumps.map bRow)] = some p := plnOf1_row p
  have hq1 : plnOf1 [D.sl (q.rates.map iRow), .sl (q.ports.map iRow), .sl (q.pumps.map bRow)] = some q := plnOf1_row q
  have hm1 : plnOf1 [D.sl ((negP p).rates.map iRow), .sl ((negP p).ports.map iRow), .sl ((negP p).pumps.map bRow)] = some (negP p) := plnOf1_row (negP p)
  have ha1 : plnOf1 [D.sl ((addP p q).rates.map iRow), .sl ((addP p q).ports.map iRow), .sl ((addP p q).pumps.map bRow)] = some (addP p q) := plnOf1_row (addP p q)
  have hnz := net_sz hn
  rcases add_chk hck hp hq with hg | hg | hg <;> simp (config := { maxSteps := 500000 }) only [↓vp, vv, implies_true, forall_const, undef, InI, ↓reduceIte, simprocAttr, c5, r5, TL2, TL1, selNP, selNeg, selPAdd, selNet, selAw, hn1, hp1, hq1, hm1, ha1, hz, hzn, hza, hap, s1, f0, fn, hfn, hg, hck, hnz, netD, plnD, Pln.enc, beq_self_eq_true, Pu]
theorem FlowTurns_law (a : Option Addr) (len cap : Nat) (w : World) (h : ArgInts w a len cap) :
    Calls Try.prog 5 #[.slice a len cap] w (Ret (.bool true) w) :=
  law_ints (us := []) h fun ns hns => FT_c ns hns (0, 0)
end Go.Proofs.Ytfkhjkkhdfcnjaa
