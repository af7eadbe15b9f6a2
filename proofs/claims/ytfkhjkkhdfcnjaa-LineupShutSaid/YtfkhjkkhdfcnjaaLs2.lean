
/- LineupShut: the walk. -/
import Derived.Test.YtfkhjkkhdfcnjaaLs1
import Derived.Test.YtfkhjkkhdfcnjaaLu5
namespace Go.Proofs.Ytfkhjkkhdfcnjaa
open Go
set_option linter.unusedVariables false
set_option linter.unusedSimpArgs false
set_option maxRecDepth 100000

structure ShPre (n : Net) (l : Lnp) : Prop where
  z : NetSz n
  ck : checkI n = 0
  v : lvB n l = true
def TLs : Tbl := tc 50 (rowPu (selNL ShPre fun n l => .tup [.sl ((l.segs.map (fun b => !b)).map bRow), di 0])) (tc 51 (rowPu (selDs RchPre fun n c k => .tup [.sl ((reachL n c k.toNat).map nRow), di 0])) TL24)
theorem TLs_ok : TblOk Try.prog TLs := tc_nl f50_ok (fun n l h nn => shut_c n h.z l h.ck h.v nn) (tc_ds f51_ok (fun n c k h nn => Reach13_c n c k h nn) TL24_ok)
def LsF (l : List (Nat × D)) : List (Nat × D) := (4, .ptr (0, 4) 0 0 0) :: (5, .ptr (0, 5) 0 0 0) :: (6, .ptr (0, 6) 0 0 0) :: (7, .ptr (0, 7) 0 0 0) :: l
def LsH (n : Net) (p : Pln) (U V : List Bool) : Hp := (((((Hp.none.put (0, 5035) ⟨n.ports.length, 1, V.map bRow⟩).put (0, 35) ⟨n.segs.length, 1, U.map bRow⟩).put (0, 7) ⟨0, 2, [[.sl ((needL p).segs.map bRow), .sl ((needL p).ports.map bRow)]]⟩).put (0, 6) ⟨0, 2, [[.own (0, 35) n.segs.length 0 n.segs.length, .own (0, 5035) n.ports.length 0 n.ports.length]]⟩).put (0, 5) ⟨0, 3, [plnD p]⟩).put (0, 4) ⟨0, 6, [netD n]⟩
theorem cov_set {S U : List Bool} {j : Nat} (hj : j < U.length) (h : ∀ i, i < j → S.getD i false = true → U.getD i false = true) {v : Bool} (hv : S.getD j false = true → v = true) : ∀ i, i < j + 1 → S.getD i false = true → (U.set j v).getD i false = true := fun i hi hs => by
  rw [getD_setB _ _ _ _ hj]
  split
  · rename_i e; subst e; exact hv hs
  · exact h i (by omega) hs
def LsG (n : Net) (p : Pln) : Hp := (Hp.none.put (0, 5) ⟨0, 3, [plnD p]⟩).put (0, 4) ⟨0, 6, [netD n]⟩
def LsE (C : List Bool) (l : List (Nat × D)) : List (Nat × D) := (4, .ptr (0, 4) 0 0 0) :: (5, .ptr (0, 5) 0 0 0) :: (13, .sl (C.map bRow)) :: l
def hit1 (v : Nat) (x : Port × Int) : Bool := if decide (x.2 < 0) = true then x.1.node == (v : Int) else false
theorem any_tk {α : Type} (f : α → Bool) {l : List α} {j : Nat} {x : α} (h : l[j]? = some x) : (l.take (j + 1)).any f = ((l.take j).any f || f x) := by
  have hj : j < l.length := by
    rcases Nat.lt_or_ge j l.length with h1 | h1
    · exact h1
    · rw [List.getElem?_eq_none h1] at h; cases h
  rw [← List.take_append_getElem hj, List.any_append]
  rw [List.getElem?_eq_getElem hj] at h
  cases h
  simp
set_option maxHeartbeats 16000000 in
theorem ls_end (n : Net) (p : Pln) (hn : NetOk n) (hpl : PlanOk n p) (C : List Bool) (hCl : C.length = n.segs.length) (hc0 : ∀ (k : Nat) (r : Int), p.rates[k]? = some r → r ≠ 0 → C[k]? = some false) (F : Fr) (H : Hp)
    (hw : Weak [] ⟨F, H⟩ ⟨fr (LsE C []), LsG n p⟩) : vc TLs (fun t => (0, t)) [] (.weak c8_20) (finQ r8 [] false (Pu (db true) Hp.none)) ⟨F, H⟩ := by
  have hck := check_ok hn
  have hv := check0 hck
  have hnz := net_sz hn
  have hsl := hn.slen
  have hnl := hn.nlen
  have hql := hn.ports.len
  have hrl := hpl.rl
  have hpq := hpl.ql
  have hn1 : netOf1 [D.sl (n.nodes.map nmRow), .sl (n.segs.map Seg.row), .sl (n.ports.map Port.row), .sl (n.sts.map Stn.row), di n.vap, di n.set] = some n := netOf1_row n
  have hb1 : lsOf boolOf1 (C.map bRow) = some C := lsOf_map boolOf1_row C
  refine vc_wk hw ?_
  simp (config := { maxSteps := 500000 }) only [↓vp, vv, implies_true, forall_const, undef, InI, ↓reduceIte, simprocAttr, c8_20, LsE, LsG, netD, plnD]
  refine rng_loop C.length (fun j => ⟨fr (LsE C [(15, di (j : Nat))]), LsG n p⟩) (fun _ => True) (weak_eq [] [(0, 4), (0, 5)] (LsE C [(15, di 0)]) (by simp (config := { maxSteps := 500000 }) only [↓vp, vv, implies_true, forall_const, undef, InI, ↓reduceIte, simprocAttr, coverS, LsE, LsG, netD, plnD]) (by simp (config := { maxSteps := 500000 }) only [↓vp, vv, implies_true, forall_const, undef, InI, ↓reduceIte, simprocAttr, refsF, LsE, LsG, netD, plnD]) (by simp (config := { maxSteps := 500000 }) only [↓vp, vv, implies_true, forall_const, undef, InI, ↓reduceIte, simprocAttr, LsE, LsG, netD, plnD]) (by simp) (by simp (config := { maxSteps := 500000 }) only [↓vp, vv, implies_true, forall_const, undef, InI, ↓reduceIte, simprocAttr, LsE, LsG, netD, plnD]; try rfl)) trivial (fun j hj _ => ?_) (fun _ => ?_)
  · have hj' : (j : Int) < C.length := by omega
    have hjn := idx_nn j
    have w1 := idx_next (j := j) (by omega)
    have hjr : j < p.rates.length := by omega
    have hjr' : (j : Int) < p.rates.length := by omega
    have hgC := bRow_g C j hj
    have hgR := iRow_at p.rates j hjr
    have hcj := hc0 j _ (List.getElem?_eq_getElem hjr)
    rw [List.getElem?_eq_getElem hj] at hcj
    cases hb : C[j] with
    | false =>
      rw [hb] at hgC
      simp (config := { maxSteps := 500000 }) only [↓vp, vv, implies_true, forall_const, undef, InI, ↓reduceIte, simprocAttr, c8_7, c8_6, c8_5, LsE, LsG, netD, plnD, hj', hjn, Int.toNat_natCast, hgC, w1]
      exact rng_next hj (weak_eq [] [(0, 4), (0, 5)] (LsE C [(15, di (j + 1 : Nat))]) (by simp (config := { maxSteps := 500000 }) only [↓vp, vv, implies_true, forall_const, undef, InI, ↓reduceIte, simprocAttr, coverS, LsE, LsG, netD, plnD, w1]) (by simp (config := { maxSteps := 500000 }) only [↓vp, vv, implies_true, forall_const, undef, InI, ↓reduceIte, simprocAttr, refsF, LsE, LsG, netD, plnD, w1]) (by simp (config := { maxSteps := 500000 }) only [↓vp, vv, implies_true, forall_const, undef, InI, ↓reduceIte, simprocAttr, LsE, LsG, netD, plnD, w1]) (by simp) (by simp (config := { maxSteps := 500000 }) only [↓vp, vv, implies_true, forall_const, undef, InI, ↓reduceIte, simprocAttr, LsE, LsG, netD, plnD, w1]; try rfl)) trivial
    | true =>
      rw [hb] at hgC hcj
      have hr0 : (p.rates[j] != 0) = false := by
        rcases Decidable.em (p.rates[j] = 0) with h | h
        · rw [h]; rfl
        · have := hcj h; cases this
      generalize p.rates[j] = r at hgR hr0
      simp (config := { maxSteps := 500000 }) only [↓vp, vv, implies_true, forall_const, undef, InI, ↓reduceIte, simprocAttr, c8_7, c8_6, c8_5, LsE, LsG, netD, plnD, hj', hjn, hjr', Int.toNat_natCast, hgC, hgR, hr0, w1]
      exact rng_next hj (weak_eq [] [(0, 4), (0, 5)] (LsE C [(15, di (j + 1 : Nat))]) (by simp (config := { maxSteps := 500000 }) only [↓vp, vv, implies_true, forall_const, undef, InI, ↓reduceIte, simprocAttr, coverS, LsE, LsG, netD, plnD, w1]) (by simp (config := { maxSteps := 500000 }) only [↓vp, vv, implies_true, forall_const, undef, InI, ↓reduceIte, simprocAttr, refsF, LsE, LsG, netD, plnD, w1]) (by simp (config := { maxSteps := 500000 }) only [↓vp, vv, implies_true, forall_const, undef, InI, ↓reduceIte, simprocAttr, LsE, LsG, netD, plnD, w1]) (by simp) (by simp (config := { maxSteps := 500000 }) only [↓vp, vv, implies_true, forall_const, undef, InI, ↓reduceIte, simprocAttr, LsE, LsG, netD, plnD, w1]; try rfl)) trivial
  · simp (config := { maxSteps := 500000 }) only [↓vp, vv, implies_true, forall_const, undef, InI, ↓reduceIte, simprocAttr, c8_7, c8_19, LsE, LsG, netD, plnD, Int.lt_irrefl]
    refine rng_loop n.ports.length (fun i => ⟨fr (LsE C [(16, di (i : Nat))]), LsG n p⟩) (fun _ => True) (weak_eq [] [(0, 4), (0, 5)] (LsE C [(16, di 0)]) (by simp (config := { maxSteps := 500000 }) only [↓vp, vv, implies_true, forall_const, undef, InI, ↓reduceIte, simprocAttr, coverS, LsE, LsG, netD, plnD]) (by simp (config := { maxSteps := 500000 }) only [↓vp, vv, implies_true, forall_const, undef, InI, ↓reduceIte, simprocAttr, refsF, LsE, LsG, netD, plnD]) (by simp (config := { maxSteps := 500000 }) only [↓vp, vv, implies_true, forall_const, undef, InI, ↓reduceIte, simprocAttr, LsE, LsG, netD, plnD]) (by simp) (by simp (config := { maxSteps := 500000 }) only [↓vp, vv, implies_true, forall_const, undef, InI, ↓reduceIte, simprocAttr, LsE, LsG, netD, plnD]; try rfl)) trivial (fun i hi _ => ?_) (fun _ => ?_)
    · have hi' : (i : Int) < n.ports.length := by omega
      have hin := idx_nn i
      have wi := idx_next (j := i) (by omega)
      have hiq : i < p.ports.length := by omega
      have hiq' : (i : Int) < p.ports.length := by omega
      have hgQ := iRow_at p.ports i hiq
      have hgP : (n.ports.map Port.row).getD i [] = Port.row n.ports[i] := getD_map Port.row n.ports i hi
      have hx := zip_get hi hiq
      have hpe := hv.pe _ (List.getElem_mem hi)
      generalize n.ports[i] = pt at hgP hx hpe
      generalize p.ports[i] = q at hgQ hx
      by_cases hq : q ≤ 0
      · simp (config := { maxSteps := 500000 }) only [↓vp, vv, implies_true, forall_const, undef, InI, ↓reduceIte, simprocAttr, c8_17, c8_16, c8_15, LsE, LsG, netD, plnD, hi', hin, hiq', Int.toNat_natCast, hgQ, hq, wi]
        exact rng_next hi (weak_eq [] [(0, 4), (0, 5)] (LsE C [(16, di (i + 1 : Nat))]) (by simp (config := { maxSteps := 500000 }) only [↓vp, vv, implies_true, forall_const, undef, InI, ↓reduceIte, simprocAttr, coverS, LsE, LsG, netD, plnD, wi]) (by simp (config := { maxSteps := 500000 }) only [↓vp, vv, implies_true, forall_const, undef, InI, ↓reduceIte, simprocAttr, refsF, LsE, LsG, netD, plnD, wi]) (by simp (config := { maxSteps := 500000 }) only [↓vp, vv, implies_true, forall_const, undef, InI, ↓reduceIte, simprocAttr, LsE, LsG, netD, plnD, wi]) (by simp) (by simp (config := { maxSteps := 500000 }) only [↓vp, vv, implies_true, forall_const, undef, InI, ↓reduceIte, simprocAttr, LsE, LsG, netD, plnD, wi]; try rfl)) trivial
      · have hre := reach_out hv hpl.bal hc0 (List.mem_of_getElem? hx) (show 0 < (pt, q).2 by dsimp only; omega)
        have hrp : RchPre n C pt.node := ⟨hnz, hck, ⟨hv, hCl, hpe⟩, seg_in hv C⟩
        have hRl : (reachL n C pt.node.toNat).length ≤ 24 := by
          unfold reachL
          have := List.length_filter_le (fun k => decide (0 ≤ (distL n C pt.node.toNat).getD k 0)) (List.range n.nodes.length)
          rw [List.length_range] at this
          omega
        dsimp only at hre
        simp (config := { maxSteps := 500000 }) only [↓vp, vv, implies_true, forall_const, undef, InI, ↓reduceIte, simprocAttr, c8_17, c8_16, c8_14, TLs, selDs, LsE, LsG, netD, plnD, hi', hin, hiq', Int.toNat_natCast, hgQ, hgP, Port.row, hq, hn1, hb1, hrp]
        generalize reachL n C pt.node.toNat = N at hre hRl
        have hYl : (n.ports.zip p.ports).length = n.ports.length := by rw [List.length_zip]; omega
        refine rng_loop N.length (fun k => ⟨fr (LsE C [(16, di i), (17, .sl (N.map nRow)), (18, di 0), (19, db ((N.take k).any (hitB n p))), (20, di (k : Nat))]), LsG n p⟩) (fun _ => True) (weak_eq [] [(0, 4), (0, 5)] (LsE C [(16, di i), (17, .sl (N.map nRow)), (18, di 0), (19, db ((N.take 0).any (hitB n p))), (20, di 0)]) (by simp (config := { maxSteps := 500000 }) only [↓vp, vv, implies_true, forall_const, undef, InI, ↓reduceIte, simprocAttr, coverS, LsE, LsG, netD, plnD, List.take_zero, List.any_nil]) (by simp (config := { maxSteps := 500000 }) only [↓vp, vv, implies_true, forall_const, undef, InI, ↓reduceIte, simprocAttr, refsF, LsE, LsG, netD, plnD, List.take_zero, List.any_nil]) (by simp (config := { maxSteps := 500000 }) only [↓vp, vv, implies_true, forall_const, undef, InI, ↓reduceIte, simprocAttr, LsE, LsG, netD, plnD, List.take_zero, List.any_nil]) (by simp) (by simp (config := { maxSteps := 500000 }) only [↓vp, vv, implies_true, forall_const, undef, InI, ↓reduceIte, simprocAttr, LsE, LsG, netD, plnD, List.take_zero, List.any_nil]; try rfl)) trivial (fun k hk _ => ?_) (fun _ => ?_)
        · have hk' : (k : Int) < N.length := by omega
          have hkn := idx_nn k
          have wk := idx_next (j := k) (by omega)
          have hgN := nRow_g N k hk
          have hat := any_tk (hitB n p) (List.getElem?_eq_getElem hk)
          generalize N[k] = v at hgN hat
          generalize (N.take k).any (hitB n p) = f0 at hat
          have hhv : hitB n p v = (n.ports.zip p.ports).any (hit1 v) := rfl
          simp (config := { maxSteps := 500000 }) only [↓vp, vv, implies_true, forall_const, undef, InI, ↓reduceIte, simprocAttr, c8_12, c8_11, LsE, LsG, netD, plnD, hk', hkn]
          refine rng_loop n.ports.length (fun m => ⟨fr (LsE C [(16, di i), (17, .sl (N.map nRow)), (18, di 0), (19, db (f0 || ((n.ports.zip p.ports).take m).any (hit1 v))), (20, di k), (21, di (m : Nat))]), LsG n p⟩) (fun _ => True) (weak_eq [] [(0, 4), (0, 5)] (LsE C [(16, di i), (17, .sl (N.map nRow)), (18, di 0), (19, db (f0 || ((n.ports.zip p.ports).take 0).any (hit1 v))), (20, di k), (21, di 0)]) (by simp (config := { maxSteps := 500000 }) only [↓vp, vv, implies_true, forall_const, undef, InI, ↓reduceIte, simprocAttr, coverS, LsE, LsG, netD, plnD, List.take_zero, List.any_nil, Bool.or_false]) (by simp (config := { maxSteps := 500000 }) only [↓vp, vv, implies_true, forall_const, undef, InI, ↓reduceIte, simprocAttr, refsF, LsE, LsG, netD, plnD, List.take_zero, List.any_nil, Bool.or_false]) (by simp (config := { maxSteps := 500000 }) only [↓vp, vv, implies_true, forall_const, undef, InI, ↓reduceIte, simprocAttr, LsE, LsG, netD, plnD, List.take_zero, List.any_nil, Bool.or_false]) (by simp) (by simp (config := { maxSteps := 500000 }) only [↓vp, vv, implies_true, forall_const, undef, InI, ↓reduceIte, simprocAttr, LsE, LsG, netD, plnD, List.take_zero, List.any_nil, Bool.or_false]; try rfl)) trivial (fun m hm _ => ?_) (fun _ => ?_)
          · have hm' : (m : Int) < n.ports.length := by omega
            have hmn := idx_nn m
            have wm := idx_next (j := m) (by omega)
            have hmq : m < p.ports.length := by omega
            have hmq' : (m : Int) < p.ports.length := by omega
            have hgq := iRow_at p.ports m hmq
            have hgp : (n.ports.map Port.row).getD m [] = Port.row n.ports[m] := getD_map Port.row n.ports m hm
            have hxm := zip_get hm hmq
            generalize n.ports[m] = pm at hgp hxm
            generalize p.ports[m] = qm at hgq hxm
            have hma := any_tk (hit1 v) hxm
            have hh1 : hit1 v (pm, qm) = if decide (qm < 0) = true then pm.node == (v : Int) else false := rfl
            rw [hh1] at hma
            obtain ⟨g, hg⟩ : ∃ g, (f0 || ((n.ports.zip p.ports).take m).any (hit1 v)) = g := ⟨_, rfl⟩
            have hma2 : (f0 || ((n.ports.zip p.ports).take (m + 1)).any (hit1 v)) = (g || if decide (qm < 0) = true then pm.node == (v : Int) else false) := by rw [hma, ← Bool.or_assoc, hg]
            cases g <;> cases hd : decide (qm < 0) <;> cases hq2 : (pm.node == (v : Int)) <;> (simp only [hd, hq2, if_true, if_false, Bool.false_eq_true, Bool.or_false, Bool.or_true, Bool.false_or, Bool.true_or] at hma2; simp (config := { maxSteps := 500000 }) only [↓vp, vv, implies_true, forall_const, undef, InI, ↓reduceIte, simprocAttr, c8_9, c8_8, LsE, LsG, netD, plnD, hg, hm', hmn, hmq', hk', hkn, Int.toNat_natCast, hgq, hgp, hgN, Port.row, hd, hq2, wm]; exact rng_next hm (weak_eq [] [(0, 4), (0, 5)] (LsE C [(16, di i), (17, .sl (N.map nRow)), (18, di 0), (19, db (f0 || ((n.ports.zip p.ports).take (m + 1)).any (hit1 v))), (20, di k), (21, di (m + 1 : Nat))]) (by simp (config := { maxSteps := 500000 }) only [↓vp, vv, implies_true, forall_const, undef, InI, ↓reduceIte, simprocAttr, coverS, LsE, LsG, netD, plnD, wm, hma2]) (by simp (config := { maxSteps := 500000 }) only [↓vp, vv, implies_true, forall_const, undef, InI, ↓reduceIte, simprocAttr, refsF, LsE, LsG, netD, plnD, wm, hma2]) (by simp (config := { maxSteps := 500000 }) only [↓vp, vv, implies_true, forall_const, undef, InI, ↓reduceIte, simprocAttr, LsE, LsG, netD, plnD, wm, hma2]) (by simp) (by simp (config := { maxSteps := 500000 }) only [↓vp, vv, implies_true, forall_const, undef, InI, ↓reduceIte, simprocAttr, LsE, LsG, netD, plnD, wm, hma2]; try rfl)) trivial)
          · rw [← hYl, List.take_length, ← hhv, ← hat]
            simp (config := { maxSteps := 500000 }) only [↓vp, vv, implies_true, forall_const, undef, InI, ↓reduceIte, simprocAttr, c8_9, c8_10, LsE, LsG, netD, plnD, hYl, Int.lt_irrefl, wk]
            exact rng_next hk (weak_eq [] [(0, 4), (0, 5)] (LsE C [(16, di i), (17, .sl (N.map nRow)), (18, di 0), (19, db ((N.take (k + 1)).any (hitB n p))), (20, di (k + 1 : Nat))]) (by simp (config := { maxSteps := 500000 }) only [↓vp, vv, implies_true, forall_const, undef, InI, ↓reduceIte, simprocAttr, coverS, LsE, LsG, netD, plnD, wk]) (by simp (config := { maxSteps := 500000 }) only [↓vp, vv, implies_true, forall_const, undef, InI, ↓reduceIte, simprocAttr, refsF, LsE, LsG, netD, plnD, wk]) (by simp (config := { maxSteps := 500000 }) only [↓vp, vv, implies_true, forall_const, undef, InI, ↓reduceIte, simprocAttr, LsE, LsG, netD, plnD, wk]) (by simp) (by simp (config := { maxSteps := 500000 }) only [↓vp, vv, implies_true, forall_const, undef, InI, ↓reduceIte, simprocAttr, LsE, LsG, netD, plnD, wk]; try rfl)) trivial
        · rw [List.take_length, hre]
          simp (config := { maxSteps := 500000 }) only [↓vp, vv, implies_true, forall_const, undef, InI, ↓reduceIte, simprocAttr, c8_12, c8_13, c8_15, LsE, LsG, netD, plnD, Int.lt_irrefl, wi]
          exact rng_next hi (weak_eq [] [(0, 4), (0, 5)] (LsE C [(16, di (i + 1 : Nat))]) (by simp (config := { maxSteps := 500000 }) only [↓vp, vv, implies_true, forall_const, undef, InI, ↓reduceIte, simprocAttr, coverS, LsE, LsG, netD, plnD, wi]) (by simp (config := { maxSteps := 500000 }) only [↓vp, vv, implies_true, forall_const, undef, InI, ↓reduceIte, simprocAttr, refsF, LsE, LsG, netD, plnD, wi]) (by simp (config := { maxSteps := 500000 }) only [↓vp, vv, implies_true, forall_const, undef, InI, ↓reduceIte, simprocAttr, LsE, LsG, netD, plnD, wi]) (by simp) (by simp (config := { maxSteps := 500000 }) only [↓vp, vv, implies_true, forall_const, undef, InI, ↓reduceIte, simprocAttr, LsE, LsG, netD, plnD, wi]; try rfl)) trivial
    · simp (config := { maxSteps := 500000 }) only [↓vp, vv, implies_true, forall_const, undef, InI, ↓reduceIte, simprocAttr, c8_17, c8_18, r8, TLs, TL24, selAw, LsE, LsG, netD, plnD, Int.lt_irrefl, Pu]
set_option maxHeartbeats 16000000 in
theorem LS_c (ns : List Int) (hns : ∀ n ∈ ns, InI n) (nn : Nm) : CallsA Try.prog 8 [.sl (ns.map fun n => [di n])] Hp.none nn (Pu (db true) Hp.none) := by
  obtain ⟨code, h1, h2⟩ := c8_ok
  refine callsA_of TLs_ok mixed (N := fun t => (0, t)) Try.func8 h1 h2 r8_ok [] false js_nil js_nil' (by simp [Try.f8]) ?_
  have ho : SrcOk ((ns.map fun n => [di n]).take 2000) 0 := src_new ns hns
  cases hf : decide ((ns.length : Int) ≤ 400) with
  | false => simp (config := { maxSteps := 500000 }) only [↓vp, vv, implies_true, forall_const, undef, InI, ↓reduceIte, simprocAttr, c8, r8, TLs, TL24, selFewL, selAw, hf, Pu]
  | true =>
    simp (config := { maxSteps := 500000 }) only [↓vp, vv, implies_true, forall_const, undef, InI, ↓reduceIte, simprocAttr, c8, c8_24, TLs, TL24, selFewL, rowNew, sel0, hf, ho, Net.enc]
    intro a1 n hn
    have hck := check_ok hn
    have hv := check0 hck
    have hpp := ports1 hn
    have hn1 : netOf1 [D.sl (n.nodes.map nmRow), .sl (n.segs.map Seg.row), .sl (n.ports.map Port.row), .sl (n.sts.map Stn.row), di n.vap, di n.set] = some n := netOf1_row n
    have hl1 : ∀ l : Lnp, lnpOf1 [D.sl (l.segs.map bRow), .sl (l.ports.map bRow)] = some l := lnpOf1_row
    have hnz := net_sz hn
    simp (config := { maxSteps := 500000 }) only [↓vp, vv, implies_true, forall_const, undef, InI, ↓reduceIte, simprocAttr, TLs, TL24, selPlan, hn1, hv, hpp, a1.2, Pln.enc, plnD]
    intro a2 p hpl
    have hz := plan_sz hn hpl
    have f0 := plan0 hck hpl
    have hnr : needR n p = needL p := if_pos f0
    have hp1 : plnOf1 [D.sl (p.rates.map iRow), .sl (p.ports.map iRow), .sl (p.pumps.map bRow)] = some p := plnOf1_row p
    simp (config := { maxSteps := 500000 }) only [↓vp, vv, implies_true, forall_const, undef, InI, ↓reduceIte, simprocAttr, TLs, TL24, rowRaw, RawR_all, hn1, hnz, a2.2]
    intro a3 X Y hXY
    obtain ⟨hX, hY⟩ := hXY
    have hsl := hn.slen
    have hnl := hn.nlen
    have hql := hn.ports.len
    have e1 : (needL p).segs.length = n.segs.length := by have := hpl.rl; simp [needL]; omega
    have e2 : (needL p).ports.length = n.ports.length := by have := hpl.ql; simp [needL]; omega
    simp (config := { maxSteps := 500000 }) only [↓vp, vv, implies_true, forall_const, undef, InI, ↓reduceIte, simprocAttr, TLs, TL24, selNP, hn1, hp1, hz, hnr, f0, Lnp.enc, lnpD, e1, e2, bne_self_eq_false, c8_23]
    rw [vc_loop]
    refine ⟨fun k st => ∃ (j : Nat) (U : List Bool), j + k = n.segs.length ∧ U.length = n.segs.length ∧ (∀ i, i < j → (needL p).segs.getD i false = true → U.getD i false = true) ∧ st = ⟨fr (LsF [(9, di j)]), LsH n p U Y⟩, ⟨n.segs.length, _, (weak_eq [] [(0, 4), (0, 5), (0, 6), (0, 7), (0, 35), (0, 5035)] (LsF [(9, di 0)]) (by simp (config := { maxSteps := 500000 }) only [↓vp, vv, implies_true, forall_const, undef, InI, ↓reduceIte, simprocAttr, coverS, LsF, LsH, netD, plnD, bRow]) (by simp (config := { maxSteps := 500000 }) only [↓vp, vv, implies_true, forall_const, undef, InI, ↓reduceIte, simprocAttr, refsF, LsF, LsH, netD, plnD, bRow]) (by simp (config := { maxSteps := 500000 }) only [↓vp, vv, implies_true, forall_const, undef, InI, ↓reduceIte, simprocAttr, LsF, LsH, netD, plnD, bRow]) (by simp) (by simp (config := { maxSteps := 500000 }) only [↓vp, vv, implies_true, forall_const, undef, InI, ↓reduceIte, simprocAttr, LsF, LsH, netD, plnD, bRow]; try rfl)), 0, X, by omega, hX, fun i hi => absurd hi (by omega), rfl⟩, ?_⟩
    rintro m st ⟨j, U, hm, hU, hcU, rfl⟩
    by_cases hj : j < n.segs.length
    · have hj' : (j : Int) < n.segs.length := by omega
      have hjn := idx_nn j
      have w1 := idx_next (j := j) (by omega)
      have gU := bRow_d U j (by omega)
      have gS := bRow_d (needL p).segs j (by omega)
      have hjU : j < U.length := by omega
      have eS : ∀ v, (U.map bRow).set j [db v] = (U.set j v).map bRow := fun v => (List.map_set ..).symm
      have hcov := @cov_set (needL p).segs U j hjU hcU
      cases hu : U.getD j false <;> cases hs : (needL p).segs.getD j false <;> rw [hu] at gU <;> rw [hs] at gS hcov
      all_goals
        simp (config := { maxSteps := 500000 }) only [↓vp, vv, implies_true, forall_const, undef, InI, ↓reduceIte, simprocAttr, c8_2, c8_1, LsF, LsH, netD, plnD, hj, hj', hjn, hjU, Int.toNat_natCast, gU, gS, hU, e1, w1, eS]
      · exact ⟨m - 1, _, by omega, (weak_eq [] [(0, 4), (0, 5), (0, 6), (0, 7), (0, 35), (0, 5035)] (LsF [(9, di (j + 1 : Nat))]) (by simp (config := { maxSteps := 500000 }) only [↓vp, vv, implies_true, forall_const, undef, InI, ↓reduceIte, simprocAttr, coverS, LsF, LsH, netD, plnD, bRow, w1]) (by simp (config := { maxSteps := 500000 }) only [↓vp, vv, implies_true, forall_const, undef, InI, ↓reduceIte, simprocAttr, refsF, LsF, LsH, netD, plnD, bRow, w1]) (by simp (config := { maxSteps := 500000 }) only [↓vp, vv, implies_true, forall_const, undef, InI, ↓reduceIte, simprocAttr, LsF, LsH, netD, plnD, bRow, w1]) (by simp) (by simp (config := { maxSteps := 500000 }) only [↓vp, vv, implies_true, forall_const, undef, InI, ↓reduceIte, simprocAttr, LsF, LsH, netD, plnD, bRow, w1]; try rfl)), j + 1, U.set j false, by omega, by simp [hU], hcov (fun h => by cases h), rfl⟩
      all_goals
        exact ⟨m - 1, _, by omega, (weak_eq [] [(0, 4), (0, 5), (0, 6), (0, 7), (0, 35), (0, 5035)] (LsF [(9, di (j + 1 : Nat))]) (by simp (config := { maxSteps := 500000 }) only [↓vp, vv, implies_true, forall_const, undef, InI, ↓reduceIte, simprocAttr, coverS, LsF, LsH, netD, plnD, bRow, w1]) (by simp (config := { maxSteps := 500000 }) only [↓vp, vv, implies_true, forall_const, undef, InI, ↓reduceIte, simprocAttr, refsF, LsF, LsH, netD, plnD, bRow, w1]) (by simp (config := { maxSteps := 500000 }) only [↓vp, vv, implies_true, forall_const, undef, InI, ↓reduceIte, simprocAttr, LsF, LsH, netD, plnD, bRow, w1]) (by simp) (by simp (config := { maxSteps := 500000 }) only [↓vp, vv, implies_true, forall_const, undef, InI, ↓reduceIte, simprocAttr, LsF, LsH, netD, plnD, bRow, w1]; try rfl)), j + 1, U.set j true, by omega, by simp [hU], hcov (fun _ => rfl), rfl⟩
    · have hj' : ¬ (j : Int) < n.segs.length := by omega
      have hcU2 : ∀ i, (needL p).segs.getD i false = true → U.getD i false = true := fun i hi => by
        rcases Nat.lt_or_ge i j with h | h
        · exact hcU i h hi
        · rw [List.getD_eq_getElem?_getD, List.getElem?_eq_none (by omega)] at hi; cases hi
      simp (config := { maxSteps := 500000 }) only [↓vp, vv, implies_true, forall_const, undef, InI, ↓reduceIte, simprocAttr, c8_2, c8_22, LsF, LsH, netD, plnD, hj']
      rw [vc_loop]
      refine ⟨fun k st => ∃ (j : Nat) (V : List Bool), j + k = n.ports.length ∧ V.length = n.ports.length ∧ (∀ i, i < j → (needL p).ports.getD i false = true → V.getD i false = true) ∧ st = ⟨fr (LsF [(10, di j)]), LsH n p U V⟩, ⟨n.ports.length, _, (weak_eq [] [(0, 4), (0, 5), (0, 6), (0, 7), (0, 35), (0, 5035)] (LsF [(10, di 0)]) (by simp (config := { maxSteps := 500000 }) only [↓vp, vv, implies_true, forall_const, undef, InI, ↓reduceIte, simprocAttr, coverS, LsF, LsH, netD, plnD, bRow]) (by simp (config := { maxSteps := 500000 }) only [↓vp, vv, implies_true, forall_const, undef, InI, ↓reduceIte, simprocAttr, refsF, LsF, LsH, netD, plnD, bRow]) (by simp (config := { maxSteps := 500000 }) only [↓vp, vv, implies_true, forall_const, undef, InI, ↓reduceIte, simprocAttr, LsF, LsH, netD, plnD, bRow]) (by simp) (by simp (config := { maxSteps := 500000 }) only [↓vp, vv, implies_true, forall_const, undef, InI, ↓reduceIte, simprocAttr, LsF, LsH, netD, plnD, bRow]; try rfl)), 0, Y, by omega, hY, fun i hi => absurd hi (by omega), rfl⟩, ?_⟩
      rintro m st ⟨j, V, hm, hV, hcV, rfl⟩
      by_cases hj : j < n.ports.length
      · have hj' : (j : Int) < n.ports.length := by omega
        have hjn := idx_nn j
        have w1 := idx_next (j := j) (by omega)
        have gU := bRow_d V j (by omega)
        have gS := bRow_d (needL p).ports j (by omega)
        have hjU : j < V.length := by omega
        have eS : ∀ v, (V.map bRow).set j [db v] = (V.set j v).map bRow := fun v => (List.map_set ..).symm
        have hcov := @cov_set (needL p).ports V j hjU hcV
        cases hu : V.getD j false <;> cases hs : (needL p).ports.getD j false <;> rw [hu] at gU <;> rw [hs] at gS hcov
        all_goals
          simp (config := { maxSteps := 500000 }) only [↓vp, vv, implies_true, forall_const, undef, InI, ↓reduceIte, simprocAttr, c8_4, c8_3, LsF, LsH, netD, plnD, hj, hj', hjn, hjU, Int.toNat_natCast, gU, gS, hV, e2, w1, eS]
        · exact ⟨m - 1, _, by omega, (weak_eq [] [(0, 4), (0, 5), (0, 6), (0, 7), (0, 35), (0, 5035)] (LsF [(10, di (j + 1 : Nat))]) (by simp (config := { maxSteps := 500000 }) only [↓vp, vv, implies_true, forall_const, undef, InI, ↓reduceIte, simprocAttr, coverS, LsF, LsH, netD, plnD, bRow, w1]) (by simp (config := { maxSteps := 500000 }) only [↓vp, vv, implies_true, forall_const, undef, InI, ↓reduceIte, simprocAttr, refsF, LsF, LsH, netD, plnD, bRow, w1]) (by simp (config := { maxSteps := 500000 }) only [↓vp, vv, implies_true, forall_const, undef, InI, ↓reduceIte, simprocAttr, LsF, LsH, netD, plnD, bRow, w1]) (by simp) (by simp (config := { maxSteps := 500000 }) only [↓vp, vv, implies_true, forall_const, undef, InI, ↓reduceIte, simprocAttr, LsF, LsH, netD, plnD, bRow, w1]; try rfl)), j + 1, V.set j false, by omega, by simp [hV], hcov (fun h => by cases h), rfl⟩
        all_goals
          exact ⟨m - 1, _, by omega, (weak_eq [] [(0, 4), (0, 5), (0, 6), (0, 7), (0, 35), (0, 5035)] (LsF [(10, di (j + 1 : Nat))]) (by simp (config := { maxSteps := 500000 }) only [↓vp, vv, implies_true, forall_const, undef, InI, ↓reduceIte, simprocAttr, coverS, LsF, LsH, netD, plnD, bRow, w1]) (by simp (config := { maxSteps := 500000 }) only [↓vp, vv, implies_true, forall_const, undef, InI, ↓reduceIte, simprocAttr, refsF, LsF, LsH, netD, plnD, bRow, w1]) (by simp (config := { maxSteps := 500000 }) only [↓vp, vv, implies_true, forall_const, undef, InI, ↓reduceIte, simprocAttr, LsF, LsH, netD, plnD, bRow, w1]) (by simp) (by simp (config := { maxSteps := 500000 }) only [↓vp, vv, implies_true, forall_const, undef, InI, ↓reduceIte, simprocAttr, LsF, LsH, netD, plnD, bRow, w1]; try rfl)), j + 1, V.set j true, by omega, by simp [hV], hcov (fun _ => rfl), rfl⟩
      · have hj' : ¬ (j : Int) < n.ports.length := by omega
        have hcV2 : ∀ i, (needL p).ports.getD i false = true → V.getD i false = true := fun i hi => by
          rcases Nat.lt_or_ge i j with h | h
          · exact hcV i h hi
          · rw [List.getD_eq_getElem?_getD, List.getElem?_eq_none (by omega)] at hi; cases hi
        have hl2 : lnpOf1 [D.sl (U.map bRow), .sl (V.map bRow)] = some ⟨U, V⟩ := lnpOf1_row ⟨U, V⟩
        have tU : (U.map bRow).take n.segs.length = U.map bRow := List.take_of_length_le (by simp [hU])
        have tV : (V.map bRow).take n.ports.length = V.map bRow := List.take_of_length_le (by simp [hV])
        have vU : lvB n ⟨U, V⟩ = true := by unfold lvB; rw [if_pos (by simp [hU])]; simp [hV]
        have szU : LnpSz ⟨U, V⟩ := ⟨by show U.length ≤ _; omega, by show V.length ≤ _; omega⟩
        have hpm : prmI n ⟨U, V⟩ p = (true, 0) := by
          unfold prmI
          rw [if_pos hck, vU, if_pos rfl, if_pos f0, show permB (lall (needL p)) (lall ⟨U, V⟩) = true by
            unfold lall
            rw [permB_app _ _ _ _ (by show _ = U.length; omega), permB_of (by show _ = U.length; omega) hcU2, permB_of (by show _ = V.length; omega) hcV2]
            rfl]
        have hpp2 : PrmPre n ⟨U, V⟩ p := ⟨hz, szU⟩
        have hsp : ShPre n ⟨U, V⟩ := ⟨hnz, hck, vU⟩
        have hUr : U.length = p.rates.length := by have := hpl.rl; omega
        simp (config := { maxSteps := 500000 }) only [↓vp, vv, implies_true, forall_const, undef, InI, ↓reduceIte, simprocAttr, c8_4, c8_21, TLs, TL24, selNL, selNLP, LsF, LsH, netD, plnD, hj', hn1, hp1, hl2, tU, tV, hpm, hpp2, hsp, hU, hV, hpl.rl, List.length_map, bne_self_eq_false]
        refine ⟨⟨fun j _ d hd => by rw [List.mem_singleton.1 hd]; rfl, fun j _ d hd => by rw [List.mem_singleton.1 hd]; rfl⟩, ⟨fun j _ d hd => by rw [List.mem_singleton.1 hd]; rfl, fun j _ d hd => by rw [List.mem_singleton.1 hd]; rfl⟩, ?_⟩
        have hCl : (U.map (fun b => !b)).length = n.segs.length := by rw [List.length_map]; exact hU
        have hc0 : ∀ (k : Nat) (r : Int), p.rates[k]? = some r → r ≠ 0 → (U.map (fun b => !b))[k]? = some false := fun k r hk hr => by
          have hkl : k < U.length := by
            rcases Nat.lt_or_ge k p.rates.length with h | h
            · omega
            · rw [List.getElem?_eq_none h] at hk; cases hk
          have := hcU2 k (by
            show ((p.rates.map nz).getD k false) = true
            rw [List.getD_eq_getElem?_getD, List.getElem?_map, hk]
            simpa [nz] using hr)
          rw [List.getD_eq_getElem?_getD, List.getElem?_eq_getElem hkl] at this
          rw [List.getElem?_map, List.getElem?_eq_getElem hkl]
          have h2 : U[k] = true := this
          rw [h2]; rfl
        generalize U.map (fun b => !b) = C at hCl hc0
        exact ls_end n p hn hpl C hCl hc0 _ _ (weak_eq [] [(0, 4), (0, 5)] [(4, .ptr (0, 4) 0 0 0), (5, .ptr (0, 5) 0 0 0), (13, .sl (C.map bRow))] (by simp (config := { maxSteps := 500000 }) only [↓vp, vv, implies_true, forall_const, undef, InI, ↓reduceIte, simprocAttr, coverS, LsG, netD, plnD]) (by simp (config := { maxSteps := 500000 }) only [↓vp, vv, implies_true, forall_const, undef, InI, ↓reduceIte, simprocAttr, refsF, LsG, netD, plnD]) (by simp (config := { maxSteps := 500000 }) only [↓vp, vv, implies_true, forall_const, undef, InI, ↓reduceIte, simprocAttr, LsG, netD, plnD]) (by simp) (by simp (config := { maxSteps := 500000 }) only [↓vp, vv, implies_true, forall_const, undef, InI, ↓reduceIte, simprocAttr, LsG, netD, plnD]; try rfl))
theorem LineupShut_law (a : Option Addr) (len cap : Nat) (w : World) (h : ArgInts w a len cap) :
    Calls Try.prog 8 #[.slice a len cap] w (Ret (.bool true) w) :=
  law_ints (us := []) h fun ns hns => LS_c ns hns (0, 0)
end Go.Proofs.Ytfkhjkkhdfcnjaa
