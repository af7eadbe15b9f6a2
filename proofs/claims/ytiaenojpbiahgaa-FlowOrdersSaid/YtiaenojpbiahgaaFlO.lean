
/- FlowOrders: the plain law and the walk. -/
import Derived.Test.YtiaenojpbiahgaaFlP
import Derived.Test.YtiaenojpbiahgaaBridge
namespace Go.Proofs.Ytiaenojpbiahgaa
open Go
set_option linter.unusedVariables false
set_option linter.unusedSimpArgs false
set_option maxRecDepth 100000

structure OrdGood (n : Net) (p : Pln) : Prop where
  len : (ordB n p).length = n.nodes.length
  nd : (ordB n p).Nodup
  lt : ∀ v ∈ ordB n p, v < n.nodes.length
  all : ∀ v, v < n.nodes.length → v ∈ ordB n p
  good : ∀ q k : Nat, (ordB n p)[q]? = some k → ∀ x ∈ n.segs.zip p.rates, x.2 ≠ 0 → toOf x = (k : Int) → ∃ q' k' : Nat, q' < q ∧ (ordB n p)[q']? = some k' ∧ frOf x = (k' : Int)
theorem ord_good {n : Net} {p : Pln} (hv : NetV n) (h : PlanOk n p) : OrdGood n p := by
  have hE := edge_ok p hv
  obtain ⟨th, hI, hp⟩ := ord_inv hE
  have ha := ord_all hI hp hE h.mono
  have hc := cntF_all ha
  have hcnt := hI.cnt
  refine ⟨by unfold ordB; omega, hI.nd, fun v hm => hI.lt hm, fun v hv' => (hI.mem v).1 ?_, hI.good⟩
  have := ha v
  have hl : v < th.length := by rw [hI.len]; exact hv'
  rw [List.getD_eq_getElem?_getD, List.getElem?_eq_getElem hl] at this ⊢
  exact this
def posA (o : List Nat) (j v : Nat) : Int := if v ∈ o.take j then ((o.idxOf v : Nat) : Int) else -1
structure AtOk (o : List Nat) (N j : Nat) (A : List Int) : Prop where
  len : A.length = N
  at' : ∀ v, v < N → A.getD v 0 = posA o j v
theorem take_mem_succ {o : List Nat} {j : Nat} (hj : j < o.length) (v : Nat) : v ∈ o.take (j + 1) ↔ v ∈ o.take j ∨ v = o[j] := by
  rw [← List.take_append_getElem hj, List.mem_append, List.mem_singleton]
theorem idx_at {o : List Nat} (hn : o.Nodup) {j : Nat} (hj : j < o.length) : o.idxOf o[j] = j := List.Nodup.idxOf_getElem hn j hj
theorem not_before {o : List Nat} (hn : o.Nodup) {j : Nat} (hj : j < o.length) : o[j] ∉ o.take j := fun h => by
  obtain ⟨q, hq, he⟩ := List.mem_take_iff_getElem.1 h
  have a := idx_at hn (j := q) (by omega)
  have b := idx_at hn hj
  rw [he] at a
  omega
theorem AtOk.step {o : List Nat} {N j : Nat} {A : List Int} (h : AtOk o N j A) (hn : o.Nodup) (hj : j < o.length) (hl : o[j] < N) : AtOk o N (j + 1) (A.set o[j] j) ∧ A.getD o[j] 0 = -1 := by
  refine ⟨⟨by rw [List.length_set]; exact h.len, fun v hv => ?_⟩, ?_⟩
  · rw [getD_set A _ _ _ (by rw [h.len]; exact hl)]
    unfold posA
    by_cases e : o[j] = v
    · rw [if_pos e, if_pos ((take_mem_succ hj v).2 (.inr e.symm)), ← e, idx_at hn hj]
    · rw [if_neg e, h.at' v hv]
      unfold posA
      by_cases c : v ∈ o.take j
      · rw [if_pos c, if_pos ((take_mem_succ hj v).2 (.inl c))]
      · rw [if_neg c, if_neg (fun k => ((take_mem_succ hj v).1 k).elim c fun k => e k.symm)]
  · rw [h.at' _ hl]
    unfold posA
    rw [if_neg (not_before hn hj)]
theorem rep_step (N j : Nat) (h : j < N) (x y : Int) : (List.replicate j x ++ List.replicate (N - j) y).set j x = List.replicate (j + 1) x ++ List.replicate (N - (j + 1)) y := by
  rw [List.set_append_right _ _ (by simp), List.length_replicate, Nat.sub_self, show N - j = (N - (j + 1)) + 1 by omega, List.replicate_succ, List.set_cons_zero, List.replicate_succ', List.append_assoc]
  rfl
def OF (l : List (Nat × D)) : List (Nat × D) := (4, .ptr (0, 4) 0 0 0) :: (5, .ptr (0, 5) 0 0 0) :: l
def OH (n : Net) (p : Pln) (A : List Int) : Hp := ((Hp.none.put (0, 42) ⟨0, 1, A.map iRow⟩).put (0, 5) ⟨0, 3, [plnD p]⟩).put (0, 4) ⟨0, 6, [netD n]⟩
theorem rep_i0 (k : Nat) : List.replicate k [di 0] = (List.replicate k 0).map iRow := by rw [List.map_replicate]; rfl
theorem iRow_set' (R : List Int) (k : Nat) (x : Int) : (R.map iRow).set k [di x] = (R.set k x).map iRow := (List.map_set ..).symm
theorem iset_len (R : List Int) (k : Nat) (x : Int) : (R.set k x).length = R.length := List.length_set
set_option maxHeartbeats 16000000 in
theorem FO_c (ns : List Int) (hns : ∀ n ∈ ns, InI n) (nn : Nm) : CallsA Try.prog 6 [.sl (ns.map fun n => [di n])] Hp.none nn (Pu (db true) Hp.none) := by
  obtain ⟨code, h1, h2⟩ := c6_ok
  refine callsA_of TL1_ok mixed (N := fun t => (0, t)) Try.func6 h1 h2 r6_ok [] false js_nil js_nil' (by simp [Try.f6]) ?_
  have ho : SrcOk ((ns.map fun n => [di n]).take 2000) 0 := src_new ns hns
  simp (config := { maxSteps := 500000 }) only [↓vp, vv, implies_true, forall_const, undef, InI, ↓reduceIte, simprocAttr, c6, TL1, rowNew, sel0, ho, Net.enc]
  intro a1 n hn
  have hck := check_ok hn
  have hv := check0 hck
  have hnl := hv.nl
  have hpp := ports1 hn
  have hn1 : netOf1 [D.sl (n.nodes.map nmRow), .sl (n.segs.map Seg.row), .sl (n.ports.map Port.row), .sl (n.sts.map Stn.row), di n.vap, di n.set] = some n := netOf1_row n
  have sa := fun L (a : SA L) => sa_ok a
  simp (config := { maxSteps := 500000 }) only [↓vp, vv, implies_true, forall_const, undef, InI, ↓reduceIte, simprocAttr, TL1, selPlan, hn1, hv, hpp, a1.2, Pln.enc, plnD]
  intro a2 p hp
  have hz := plan_sz hn hp
  have f0 := plan0 hck hp
  have hg := ord_good hv hp
  have o0 : ordR n p = ordB n p := if_pos f0
  have hp1 : plnOf1 [D.sl (p.rates.map iRow), .sl (p.ports.map iRow), .sl (p.pumps.map bRow)] = some p := plnOf1_row p
  have hol := hg.len
  have z1 : (8 : Int) * n.nodes.length ≤ 281474976710656 := by omega
  have z2 : (n.nodes.length : Int) ≤ 4611686018427387904 := by omega
  have z3 := idx_nn n.nodes.length
  have hlt := hg.lt
  have hnd := hg.nd
  have hall := hg.all
  have hgood := hg.good
  generalize hO : ordB n p = o at o0 hol hlt hnd hall hgood
  simp (config := { maxSteps := 500000 }) only [↓vp, vv, implies_true, forall_const, undef, InI, ↓reduceIte, simprocAttr, c6, r6, c6_1, c6_10, c6_11, c6_12, c6_13, c6_14, c6_2, c6_3, c6_4, c6_5, c6_6, c6_7, c6_8, c6_9, TL1, selNP, hn1, hp1, hz, f0, o0, hol, bne_self_eq_false, z1, z2, z3, Int.toNat_natCast, rep_i0]
  refine rng_loop n.nodes.length (fun j => ⟨fr (OF [(6, .sl (o.map nRow)), (8, .own (0, 42) 0 0 n.nodes.length), (44, di n.nodes.length), (45, di (j : Nat))]), OH n p (List.replicate j (-1) ++ List.replicate (n.nodes.length - j) 0)⟩) (fun _ => True) (weak_eq [] [(0, 4), (0, 5), (0, 42)] (OF [(6, .sl (o.map nRow)), (8, .own (0, 42) 0 0 n.nodes.length), (44, di n.nodes.length), (45, di 0)]) (by simp (config := { maxSteps := 500000 }) only [↓vp, vv, implies_true, forall_const, undef, InI, ↓reduceIte, simprocAttr, coverS, OF, OH, netD, plnD, iRow, Nat.sub_zero]) (by simp (config := { maxSteps := 500000 }) only [↓vp, vv, implies_true, forall_const, undef, InI, ↓reduceIte, simprocAttr, refsF, OF, OH, netD, plnD, iRow, Nat.sub_zero]) (by simp (config := { maxSteps := 500000 }) only [↓vp, vv, implies_true, forall_const, undef, InI, ↓reduceIte, simprocAttr, OF, OH, netD, plnD, iRow, Nat.sub_zero]) (by simp) (by simp (config := { maxSteps := 500000 }) only [↓vp, vv, implies_true, forall_const, undef, InI, ↓reduceIte, simprocAttr, OF, OH, netD, plnD, iRow, Nat.sub_zero]; try rfl)) trivial (fun j hj _ => ?_) (fun _ => ?_)
  · have hj' : (j : Int) < n.nodes.length := by omega
    have hjn := idx_nn j
    have w1 := idx_next (j := j) (by omega)
    have hs := rep_step n.nodes.length j hj (-1) 0
    have hl : (List.replicate j (-1 : Int) ++ List.replicate (n.nodes.length - j) 0).length = n.nodes.length := by simp; omega
    generalize List.replicate j (-1 : Int) ++ List.replicate (n.nodes.length - j) 0 = A at hs hl
    have hg2 := iRow_at A j (by omega)
    have hjA : j < A.length := by omega
    simp (config := { maxSteps := 500000 }) only [↓vp, vv, implies_true, forall_const, undef, InI, ↓reduceIte, simprocAttr, c6, r6, c6_1, c6_10, c6_11, c6_12, c6_13, c6_14, c6_2, c6_3, c6_4, c6_5, c6_6, c6_7, c6_8, c6_9, OF, OH, netD, plnD, hj, hj', hjn, hjA, Int.toNat_natCast, hg2, hl, w1, iRow_set']
    exact rng_next hj (weak_eq [] [(0, 4), (0, 5), (0, 42)] (OF [(6, .sl (o.map nRow)), (8, .own (0, 42) 0 0 n.nodes.length), (44, di n.nodes.length), (45, di (j + 1 : Nat))]) (by simp (config := { maxSteps := 500000 }) only [↓vp, vv, implies_true, forall_const, undef, InI, ↓reduceIte, simprocAttr, coverS, OF, OH, netD, plnD, iRow, w1, hs]) (by simp (config := { maxSteps := 500000 }) only [↓vp, vv, implies_true, forall_const, undef, InI, ↓reduceIte, simprocAttr, refsF, OF, OH, netD, plnD, iRow, w1, hs]) (by simp (config := { maxSteps := 500000 }) only [↓vp, vv, implies_true, forall_const, undef, InI, ↓reduceIte, simprocAttr, OF, OH, netD, plnD, iRow, w1, hs]) (by simp) (by simp (config := { maxSteps := 500000 }) only [↓vp, vv, implies_true, forall_const, undef, InI, ↓reduceIte, simprocAttr, OF, OH, netD, plnD, iRow, w1, hs]; try rfl)) trivial
  · rw [Nat.sub_self, show List.replicate 0 (0 : Int) = [] from rfl, List.append_nil]
    simp (config := { maxSteps := 500000 }) only [↓vp, vv, implies_true, forall_const, undef, InI, ↓reduceIte, simprocAttr, c6, r6, c6_1, c6_10, c6_11, c6_12, c6_13, c6_14, c6_2, c6_3, c6_4, c6_5, c6_6, c6_7, c6_8, c6_9, OF, OH, netD, plnD, Int.lt_irrefl, hol]
    rw [vc_loop]
    refine ⟨fun m s => ∃ A j, j + m = n.nodes.length ∧ AtOk o n.nodes.length j A ∧ s = ⟨fr (OF [(8, .own (0, 42) 0 0 n.nodes.length), (52, .sl (o.map nRow)), (53, di n.nodes.length), (54, di (j : Nat))]), OH n p A⟩, ⟨n.nodes.length, _, (weak_eq [] [(0, 4), (0, 5), (0, 42)] (OF [(8, .own (0, 42) 0 0 n.nodes.length), (52, .sl (o.map nRow)), (53, di n.nodes.length), (54, di 0)]) (by simp (config := { maxSteps := 500000 }) only [↓vp, vv, implies_true, forall_const, undef, InI, ↓reduceIte, simprocAttr, coverS, OF, OH, netD, plnD, iRow]) (by simp (config := { maxSteps := 500000 }) only [↓vp, vv, implies_true, forall_const, undef, InI, ↓reduceIte, simprocAttr, refsF, OF, OH, netD, plnD, iRow]) (by simp (config := { maxSteps := 500000 }) only [↓vp, vv, implies_true, forall_const, undef, InI, ↓reduceIte, simprocAttr, OF, OH, netD, plnD, iRow]) (by simp) (by simp (config := { maxSteps := 500000 }) only [↓vp, vv, implies_true, forall_const, undef, InI, ↓reduceIte, simprocAttr, OF, OH, netD, plnD, iRow]; try rfl)), List.replicate n.nodes.length (-1), 0, by omega, ⟨List.length_replicate, fun v hv => by rw [List.getD_eq_getElem?_getD, List.getElem?_replicate, if_pos hv]; rfl⟩, rfl⟩, ?_⟩
    rintro m s ⟨A, j, hm, hA, rfl⟩
    by_cases hj : j < n.nodes.length
    · have hj' : (j : Int) < n.nodes.length := by omega
      have hjn := idx_nn j
      have w1 := idx_next (j := j) (by omega)
      have hjo : j < o.length := by omega
      have hjo' : (j : Int) < o.length := by omega
      have hgo := nRow_at o j hjo
      have hx := hlt _ (List.getElem_mem hjo)
      obtain ⟨hA2, hA3⟩ := hA.step hnd hjo hx
      have hAl := hA.len
      generalize o[j] = x at hgo hx hA2 hA3
      have hx0 := idx_nn x
      have hx1 : ¬ (x : Int) < 0 := by omega
      have hx2 : ¬ (n.nodes.length : Int) ≤ x := by omega
      have hx3 : (x : Int) < n.nodes.length := by omega
      have hxA : x < A.length := by omega
      have hg2 := iRow_at A x hxA
      have hA4 : A[x] = -1 := by rw [List.getD_eq_getElem?_getD, List.getElem?_eq_getElem hxA] at hA3; exact hA3
      rw [hA4] at hg2
      simp (config := { maxSteps := 500000 }) only [↓vp, vv, implies_true, forall_const, undef, InI, ↓reduceIte, simprocAttr, c6, r6, c6_1, c6_10, c6_11, c6_12, c6_13, c6_14, c6_2, c6_3, c6_4, c6_5, c6_6, c6_7, c6_8, c6_9, OF, OH, netD, plnD, hj', hjn, hjo, hjo', hx, Int.toNat_natCast, hgo, hx0, hx1, hx2, hx3, hxA, hg2, w1, hAl, iRow_set', decide_true, decide_false]
      exact ⟨m - 1, _, by omega, (weak_eq [] [(0, 4), (0, 5), (0, 42)] (OF [(8, .own (0, 42) 0 0 n.nodes.length), (52, .sl (o.map nRow)), (53, di n.nodes.length), (54, di (j + 1 : Nat))]) (by simp (config := { maxSteps := 500000 }) only [↓vp, vv, implies_true, forall_const, undef, InI, ↓reduceIte, simprocAttr, coverS, OF, OH, netD, plnD, iRow, w1]) (by simp (config := { maxSteps := 500000 }) only [↓vp, vv, implies_true, forall_const, undef, InI, ↓reduceIte, simprocAttr, refsF, OF, OH, netD, plnD, iRow, w1]) (by simp (config := { maxSteps := 500000 }) only [↓vp, vv, implies_true, forall_const, undef, InI, ↓reduceIte, simprocAttr, OF, OH, netD, plnD, iRow, w1]) (by simp) (by simp (config := { maxSteps := 500000 }) only [↓vp, vv, implies_true, forall_const, undef, InI, ↓reduceIte, simprocAttr, OF, OH, netD, plnD, iRow, w1]; try rfl)), A.set x j, j + 1, by omega, hA2, rfl⟩
    · have hjN : j = n.nodes.length := by omega
      have hj' : ¬ (j : Int) < n.nodes.length := by omega
      have hA3 : ∀ v, v < n.nodes.length → A.getD v 0 = ((o.idxOf v : Nat) : Int) := fun v hv2 => by
        rw [hA.at' v hv2]
        unfold posA
        rw [hjN, ← hol, List.take_length, if_pos (hall v hv2)]
      have hAl := hA.len
      have hE := edge_ok p hv
      have hsl := hv.sl
      have hrl := hp.rl
      simp (config := { maxSteps := 500000 }) only [↓vp, vv, implies_true, forall_const, undef, InI, ↓reduceIte, simprocAttr, c6, r6, c6_1, c6_10, c6_11, c6_12, c6_13, c6_14, c6_2, c6_3, c6_4, c6_5, c6_6, c6_7, c6_8, c6_9, OF, OH, netD, plnD, hj']
      refine rng_loop n.segs.length (fun j => ⟨fr [(5, .ptr (0, 5) 0 0 0), (8, .own (0, 42) 0 0 n.nodes.length), (80, .sl (n.segs.map Seg.row)), (81, di n.segs.length), (82, di (j : Nat))], (Hp.none.put (0, 42) ⟨0, 1, A.map iRow⟩).put (0, 5) ⟨0, 3, [plnD p]⟩⟩) (fun _ => True) (weak_eq [] [(0, 5), (0, 42)] [(5, .ptr (0, 5) 0 0 0), (8, .own (0, 42) 0 0 n.nodes.length), (80, .sl (n.segs.map Seg.row)), (81, di n.segs.length), (82, di 0)] (by simp (config := { maxSteps := 500000 }) only [↓vp, vv, implies_true, forall_const, undef, InI, ↓reduceIte, simprocAttr, coverS, netD, plnD, iRow]) (by simp (config := { maxSteps := 500000 }) only [↓vp, vv, implies_true, forall_const, undef, InI, ↓reduceIte, simprocAttr, refsF, netD, plnD, iRow]) (by simp (config := { maxSteps := 500000 }) only [↓vp, vv, implies_true, forall_const, undef, InI, ↓reduceIte, simprocAttr, netD, plnD, iRow]) (by simp) (by simp (config := { maxSteps := 500000 }) only [↓vp, vv, implies_true, forall_const, undef, InI, ↓reduceIte, simprocAttr, netD, plnD, iRow]; try rfl)) trivial (fun i hi _ => ?_) (fun _ => ?_)
      · have hi' : (i : Int) < n.segs.length := by omega
        have hin := idx_nn i
        have w2 := idx_next (j := i) (by omega)
        have hir : i < p.rates.length := by omega
        have hir' : (i : Int) < p.rates.length := by omega
        have hgs := getD_map Seg.row n.segs i hi
        have hgr := iRow_at p.rates i hir
        have hx := zip_get hi hir
        generalize n.segs[i] = s at hgs hx
        generalize p.rates[i] = r at hgr hx
        have hmem : (s, r) ∈ n.segs.zip p.rates := List.mem_of_getElem? hx
        have hfr := fr_in hE hmem
        have hto : 0 ≤ toOf (s, r) ∧ toOf (s, r) < n.nodes.length := by have := hE _ hmem; unfold toOf; split <;> omega
        have hs1 : segOf1 [ds s.name, di s.fr, di s.to, di s.cap, di s.resist, di s.wave, .sl (s.points.map Pt.row)] = some s := segOf1_row s
        cases c1 : (r == (0 : Int)) with
        | true =>
          simp (config := { maxSteps := 500000 }) only [↓vp, vv, implies_true, forall_const, undef, InI, ↓reduceIte, simprocAttr, c6, r6, c6_1, c6_10, c6_11, c6_12, c6_13, c6_14, c6_2, c6_3, c6_4, c6_5, c6_6, c6_7, c6_8, c6_9, TL1, netD, plnD, hi', hin, hir', Int.toNat_natCast, hgs, hgr, Seg.row, c1, w2]
          exact rng_next hi (weak_eq [] [(0, 5), (0, 42)] [(5, .ptr (0, 5) 0 0 0), (8, .own (0, 42) 0 0 n.nodes.length), (80, .sl (n.segs.map Seg.row)), (81, di n.segs.length), (82, di (i + 1 : Nat))] (by simp (config := { maxSteps := 500000 }) only [↓vp, vv, implies_true, forall_const, undef, InI, ↓reduceIte, simprocAttr, coverS, netD, plnD, iRow, w2, Seg.row]) (by simp (config := { maxSteps := 500000 }) only [↓vp, vv, implies_true, forall_const, undef, InI, ↓reduceIte, simprocAttr, refsF, netD, plnD, iRow, w2, Seg.row]) (by simp (config := { maxSteps := 500000 }) only [↓vp, vv, implies_true, forall_const, undef, InI, ↓reduceIte, simprocAttr, netD, plnD, iRow, w2, Seg.row]) (by simp) (by simp (config := { maxSteps := 500000 }) only [↓vp, vv, implies_true, forall_const, undef, InI, ↓reduceIte, simprocAttr, netD, plnD, iRow, w2, Seg.row]; try rfl)) trivial
        | false =>
          have hr0 : r ≠ 0 := by simpa using c1
          obtain ⟨tn, htn⟩ : ∃ tn : Nat, toOf (s, r) = tn := ⟨(toOf (s, r)).toNat, by omega⟩
          have htN : tn < n.nodes.length := by omega
          have hmt := hall tn htN
          have hq : o[o.idxOf tn]? = some tn := by
            obtain ⟨q, hq⟩ := List.getElem?_of_mem hmt
            have hql : q < o.length := by
              rcases Nat.lt_or_ge q o.length with h | h
              · exact h
              · rw [List.getElem?_eq_none h] at hq; cases hq
            have e : o[q] = tn := by rw [List.getElem?_eq_getElem hql] at hq; cases hq; rfl
            have := idx_at hnd hql
            rw [e] at this
            rw [this]
            exact hq
          obtain ⟨q', k', hq1, hq2, hq3⟩ := hgood _ tn hq (s, r) hmem hr0 htn
          have hk' : k' < n.nodes.length := hlt k' (List.mem_of_getElem? hq2)
          have hq'l : q' < o.length := by
            rcases Nat.lt_or_ge q' o.length with h | h
            · exact h
            · rw [List.getElem?_eq_none h] at hq2; cases hq2
          have hik : o.idxOf k' = q' := by
            have := idx_at hnd hq'l
            have e : o[q'] = k' := by rw [List.getElem?_eq_getElem hq'l] at hq2; cases hq2; rfl
            rwa [e] at this
          have g1 := iRow_at A k' (by omega)
          have g2 := iRow_at A tn (by omega)
          have e1 : A[k']'(by omega) = (q' : Int) := by have := hA3 k' hk'; rw [List.getD_eq_getElem?_getD, List.getElem?_eq_getElem (by omega : k' < A.length)] at this; rw [hik] at this; exact this
          have e2 : A[tn]'(by omega) = ((o.idxOf tn : Nat) : Int) := by have := hA3 tn htN; rw [List.getD_eq_getElem?_getD, List.getElem?_eq_getElem (by omega : tn < A.length)] at this; exact this
          rw [e1] at g1
          rw [e2] at g2
          have k0 := idx_nn k'
          have k1 : (k' : Int) < n.nodes.length := by omega
          have t0 := idx_nn tn
          have t1 : (tn : Int) < n.nodes.length := by omega
          have lt1 : ¬ ((o.idxOf tn : Nat) : Int) ≤ (q' : Int) := by omega
          have kA : k' < A.length := by omega
          have tA : tn < A.length := by omega
          simp (config := { maxSteps := 500000 }) only [↓vp, vv, implies_true, forall_const, undef, InI, ↓reduceIte, simprocAttr, c6, r6, c6_1, c6_10, c6_11, c6_12, c6_13, c6_14, c6_2, c6_3, c6_4, c6_5, c6_6, c6_7, c6_8, c6_9, TL1, selEnds, netD, plnD, hi', hin, hir', Int.toNat_natCast, hgs, hgr, Seg.row, hs1, c1, hq3, htn, k0, k1, t0, t1, hk', htN, g1, g2, hAl, lt1, w2, decide_true, decide_false]
          exact rng_next hi (weak_eq [] [(0, 5), (0, 42)] [(5, .ptr (0, 5) 0 0 0), (8, .own (0, 42) 0 0 n.nodes.length), (80, .sl (n.segs.map Seg.row)), (81, di n.segs.length), (82, di (i + 1 : Nat))] (by simp (config := { maxSteps := 500000 }) only [↓vp, vv, implies_true, forall_const, undef, InI, ↓reduceIte, simprocAttr, coverS, netD, plnD, iRow, w2, Seg.row]) (by simp (config := { maxSteps := 500000 }) only [↓vp, vv, implies_true, forall_const, undef, InI, ↓reduceIte, simprocAttr, refsF, netD, plnD, iRow, w2, Seg.row]) (by simp (config := { maxSteps := 500000 }) only [↓vp, vv, implies_true, forall_const, undef, InI, ↓reduceIte, simprocAttr, netD, plnD, iRow, w2, Seg.row]) (by simp) (by simp (config := { maxSteps := 500000 }) only [↓vp, vv, implies_true, forall_const, undef, InI, ↓reduceIte, simprocAttr, netD, plnD, iRow, w2, Seg.row]; try rfl)) trivial
      · simp (config := { maxSteps := 500000 }) only [↓vp, vv, implies_true, forall_const, undef, InI, ↓reduceIte, simprocAttr, c6, r6, c6_1, c6_10, c6_11, c6_12, c6_13, c6_14, c6_2, c6_3, c6_4, c6_5, c6_6, c6_7, c6_8, c6_9, TL1, selAw, netD, plnD, Int.lt_irrefl, Pu]
theorem FlowOrders_law (a : Option Addr) (len cap : Nat) (w : World) (h : ArgInts w a len cap) :
    Calls Try.prog 6 #[.slice a len cap] w (Ret (.bool true) w) :=
  law_ints (us := []) h fun ns hns => FO_c ns hns (0, 0)
end Go.Proofs.Ytiaenojpbiahgaa
