
/- The reference of flow: sums. -/
import Derived.Test.YtkjibmfggeibjaaFlE
import Derived.Test.YtkjibmfggeibjaaFw4
import Derived.Test.YtkjibmfggeibjaaCodeRF
namespace Go.Proofs.Ytkjibmfggeibjaa
open Go
set_option linter.unusedVariables false
set_option linter.unusedSimpArgs false
set_option maxRecDepth 100000

def sIn (k : Int) (x : Seg × Int) : Int := comeOf k (segFl x.1 x.2)
def sOut (k : Int) (x : Seg × Int) : Int := leaveOf k (segFl x.1 x.2)
def qIn (k : Int) (x : Port × Int) : Int := comeOf k (portFl x.1 x.2)
def qOut (k : Int) (x : Port × Int) : Int := leaveOf k (portFl x.1 x.2)
theorem sIn_eq (k : Int) (s : Seg) (r : Int) : sIn k (s, r) = if toOf (s, r) = k then absI r else 0 := by
  unfold sIn comeOf segFl toOf absI
  dsimp only
  split <;> split <;> (try split) <;> omega
theorem sOut_eq (k : Int) (s : Seg) (r : Int) : sOut k (s, r) = if frOf (s, r) = k then absI r else 0 := by
  unfold sOut leaveOf segFl frOf absI
  dsimp only
  split <;> split <;> (try split) <;> omega
theorem qIn_eq {k : Int} (hk : 0 ≤ k) (x : Port) (q : Int) : qIn k (x, q) = if x.node = k then posI q else 0 := by
  unfold qIn comeOf portFl posI
  dsimp only
  split <;> split <;> (try split) <;> omega
theorem qOut_eq {k : Int} (hk : 0 ≤ k) (x : Port) (q : Int) : qOut k (x, q) = if x.node = k then negI q else 0 := by
  unfold qOut leaveOf portFl negI
  dsimp only
  split <;> split <;> (try split) <;> omega
theorem flows_sum (f : Fl → Int) (n : Net) (p : Pln) : sumI f (flowsOf n p) = sumI (fun x : Seg × Int => f (segFl x.1 x.2)) (n.segs.zip p.rates) + sumI (fun x : Port × Int => f (portFl x.1 x.2)) (n.ports.zip p.ports) := by
  unfold flowsOf
  rw [sumI_app, ← List.map_uncurry_zip_eq_zipWith, ← List.map_uncurry_zip_eq_zipWith, sumI_map, sumI_map]
  rfl
theorem sumI_tkR {α : Type} (f : α → Int) {l : List α} {j : Nat} {x : α} (h : l[j]? = some x) : sumI f (l.take (j + 1)) = sumI f (l.take j) + f x := by
  have hj : j < l.length := by
    rcases Nat.lt_or_ge j l.length with h1 | h1
    · exact h1
    · rw [List.getElem?_eq_none h1] at h; cases h
  rw [← List.take_append_getElem hj, sumI_snoc]
  rw [List.getElem?_eq_getElem hj] at h
  cases h
  rfl
theorem sum_bR {α : Type} {f : α → Int} {l : List α} (h : ∀ x ∈ l, 0 ≤ f x ∧ f x ≤ 1000) (j : Nat) : 0 ≤ sumI f (l.take j) ∧ sumI f (l.take j) ≤ 1000 * j := by
  have a := sumI_nn (f := f) (l := l.take j) fun x hx => (h x (List.mem_of_mem_take hx)).1
  have b := sumI_le (f := f) 1000 (l := l.take j) fun x hx => (h x (List.mem_of_mem_take hx)).2
  rw [List.length_take] at b
  omega
theorem absI_bR {r : Int} (h : -1000 ≤ r ∧ r ≤ 1000) : 0 ≤ absI r ∧ absI r ≤ 1000 := by unfold absI; split <;> omega
def RsF (k : Int) (l : List (Nat × D)) : List (Nat × D) := (2, di k) :: (3, .ptr (0, 3) 0 0 0) :: (4, .ptr (0, 4) 0 0 0) :: l
def RsG (k : Int) (l : List (Nat × D)) : List (Nat × D) := (2, di k) :: (4, .ptr (0, 4) 0 0 0) :: l
def RsH (n : Net) (p : Pln) : Hp := (Hp.none.put (0, 4) ⟨0, 3, [plnD p]⟩).put (0, 3) ⟨0, 6, [netD n]⟩
def RsI (p : Pln) : Hp := Hp.none.put (0, 4) ⟨0, 3, [plnD p]⟩
def TRs : Tbl := tc 92 (rowPu selEnds) (tc 93 (rowPu selAbs) T0)
theorem TRs_ok : TblOk Try.prog TRs := tc_rends (tc_rabs (T0_ok _))
set_option maxHeartbeats 16000000 in
theorem rsums_c (n : Net) (p : Pln) (h : FlOk n p) (k : Int) (hk : 0 ≤ k) (nn : Nm) : CallsA Try.prog 124 [n.enc, p.enc, di k] Hp.none nn (Pu (.tup [di (sumI (comeOf k) (flowsOf n p)), di (sumI (leaveOf k) (flowsOf n p))]) Hp.none) := by
  obtain ⟨code, h1, h2⟩ := c124_ok
  refine callsA_of TRs_ok mixed (N := fun t => (0, t)) Try.func124 h1 h2 r124_ok [] false js_nil js_nil' (by simp [Try.f124]) ?_
  have hsl := h.sl
  have hql := h.ql
  have hrl := h.rl
  have hpl := h.pl
  have rb : ∀ x ∈ n.segs.zip p.rates, -1000 ≤ x.2 ∧ x.2 ≤ 1000 := fun x hx => by
    have : segFl x.1 x.2 ∈ flowsOf n p := by
      unfold flowsOf
      rw [List.mem_append, ← List.map_uncurry_zip_eq_zipWith]
      exact .inl (List.mem_map.2 ⟨x, hx, rfl⟩)
    exact (h.fl _ this).2.2
  have qb : ∀ x ∈ n.ports.zip p.ports, -1000 ≤ x.2 ∧ x.2 ≤ 1000 := fun x hx => by
    have : portFl x.1 x.2 ∈ flowsOf n p := by
      unfold flowsOf
      rw [List.mem_append, ← List.map_uncurry_zip_eq_zipWith, ← List.map_uncurry_zip_eq_zipWith]
      exact .inr (List.mem_map.2 ⟨x, hx, rfl⟩)
    exact (h.fl _ this).2.2
  have bI := fun j => sum_bR (f := sIn k) (l := n.segs.zip p.rates) (fun x hx => ⟨come_nn _ _, come_le (rb x hx)⟩) j
  have bO := fun j => sum_bR (f := sOut k) (l := n.segs.zip p.rates) (fun x hx => ⟨leave_nn _ _, leave_le (rb x hx)⟩) j
  have bQI := fun j => sum_bR (f := qIn k) (l := n.ports.zip p.ports) (fun x hx => ⟨come_nn _ _, come_le (qb x hx)⟩) j
  have bQO := fun j => sum_bR (f := qOut k) (l := n.ports.zip p.ports) (fun x hx => ⟨leave_nn _ _, leave_le (qb x hx)⟩) j
  have hZl : (n.segs.zip p.rates).length = n.segs.length := by rw [List.length_zip]; omega
  have hYl : (n.ports.zip p.ports).length = n.ports.length := by rw [List.length_zip]; omega
  have f1 := flows_sum (comeOf k) n p
  have f2 := flows_sum (leaveOf k) n p
  rw [f1, f2]
  simp (config := { maxSteps := 500000 }) only [↓vp, vv, implies_true, forall_const, undef, InI, ↓reduceIte, simprocAttr, c124, Net.enc, Pln.enc, plnD]
  refine rng_loop n.segs.length (fun j => ⟨fr (RsF k [(8, di (sumI (sIn k) ((n.segs.zip p.rates).take j))), (9, di (sumI (sOut k) ((n.segs.zip p.rates).take j))), (17, .sl (n.segs.map Seg.row)), (18, di n.segs.length), (19, di (j : Nat))]), RsH n p⟩) (fun _ => True) (weak_eq [] [(0, 3), (0, 4)] (RsF k [(8, di 0), (9, di 0), (17, .sl (n.segs.map Seg.row)), (18, di n.segs.length), (19, di 0)]) (by simp (config := { maxSteps := 500000 }) only [↓vp, vv, implies_true, forall_const, undef, InI, ↓reduceIte, simprocAttr, coverS, RsF, RsH, netD, plnD]) (by simp (config := { maxSteps := 500000 }) only [↓vp, vv, implies_true, forall_const, undef, InI, ↓reduceIte, simprocAttr, refsF, RsF, RsH, netD, plnD]) (by simp (config := { maxSteps := 500000 }) only [↓vp, vv, implies_true, forall_const, undef, InI, ↓reduceIte, simprocAttr, RsF, RsH, netD, plnD]) (by simp) (by simp (config := { maxSteps := 500000 }) only [↓vp, vv, implies_true, forall_const, undef, InI, ↓reduceIte, simprocAttr, RsF, RsH, netD, plnD]; try rfl)) trivial (fun j hj _ => ?_) (fun _ => ?_)
  · have hj' : (j : Int) < n.segs.length := by omega
    have hjn := idx_nn j
    have hjr : j < p.rates.length := by omega
    have hjr' : (j : Int) < p.rates.length := by omega
    have w1 := idx_next (j := j) (by omega)
    have hgs : (n.segs.map Seg.row).getD j [] = Seg.row n.segs[j] := getD_map Seg.row n.segs j hj
    have hgr := iRow_at p.rates j hjr
    have hx := zip_get hj hjr
    have hm := rb _ (List.mem_of_getElem? hx)
    have eI := sumI_tkR (sIn k) hx
    have eO := sumI_tkR (sOut k) hx
    have b1 := bI j
    have b2 := bO j
    have b3 := bI (j + 1)
    have b4 := bO (j + 1)
    generalize n.segs[j] = s at hgs hx eI eO hm
    generalize p.rates[j] = r at hgr hx eI eO hm
    rw [sIn_eq] at eI
    rw [sOut_eq] at eO
    have hs1 : segOf1 [ds s.name, di s.fr, di s.to, di s.cap, di s.resist, di s.wave, .sl (s.points.map Pt.row)] = some s := segOf1_row s
    obtain ⟨A, hA⟩ : ∃ A, sumI (sIn k) ((n.segs.zip p.rates).take j) = A := ⟨_, rfl⟩
    obtain ⟨B, hB⟩ : ∃ B, sumI (sOut k) ((n.segs.zip p.rates).take j) = B := ⟨_, rfl⟩
    rw [hA] at eI b1
    rw [hB] at eO b2
    cases c1 : (r == (0 : Int)) with
    | true =>
      have r0 : r = 0 := by simpa using c1
      have a0 : absI r = 0 := by rw [r0]; rfl
      simp only [a0, ite_self, Int.add_zero] at eI eO
      simp (config := { maxSteps := 500000 }) only [↓vp, vv, implies_true, forall_const, undef, InI, ↓reduceIte, simprocAttr, c124_5, c124_4, c124_3, RsF, RsH, netD, plnD, hA, hB, hj', hjn, hjr', Int.toNat_natCast, hgs, hgr, c1, w1, Seg.row]
      exact rng_next hj (weak_eq [] [(0, 3), (0, 4)] (RsF k [(8, di (sumI (sIn k) ((n.segs.zip p.rates).take (j + 1)))), (9, di (sumI (sOut k) ((n.segs.zip p.rates).take (j + 1)))), (17, .sl (n.segs.map Seg.row)), (18, di n.segs.length), (19, di (j + 1 : Nat))]) (by simp (config := { maxSteps := 500000 }) only [↓vp, vv, implies_true, forall_const, undef, InI, ↓reduceIte, simprocAttr, coverS, RsF, RsH, netD, plnD, w1, eI, eO]) (by simp (config := { maxSteps := 500000 }) only [↓vp, vv, implies_true, forall_const, undef, InI, ↓reduceIte, simprocAttr, refsF, RsF, RsH, netD, plnD, w1, eI, eO]) (by simp (config := { maxSteps := 500000 }) only [↓vp, vv, implies_true, forall_const, undef, InI, ↓reduceIte, simprocAttr, RsF, RsH, netD, plnD, w1, eI, eO]) (by simp) (by simp (config := { maxSteps := 500000 }) only [↓vp, vv, implies_true, forall_const, undef, InI, ↓reduceIte, simprocAttr, RsF, RsH, netD, plnD, w1, eI, eO]; try rfl)) trivial
    | false =>
      have hab : -1000000 ≤ r ∧ r ≤ 1000000 := by dsimp only at hm; omega
      have ha := absI_bR (show -1000 ≤ r ∧ r ≤ 1000 from hm)
      have wA : IntKind.i64.wrap (A + absI r) = A + absI r := wrap_i (by omega)
      have wB : IntKind.i64.wrap (B + absI r) = B + absI r := wrap_i (by omega)
      cases c2 : (frOf (s, r) == k) <;> cases c3 : (toOf (s, r) == k)
      all_goals
        have q2 : (frOf (s, r) = k) = (frOf (s, r) == k) := by simp
        have q3 : (toOf (s, r) = k) = (toOf (s, r) == k) := by simp
        simp only [q2, q3, c2, c3, if_true, if_false, Bool.false_eq_true, Int.add_zero] at eI eO
        simp (config := { maxSteps := 500000 }) only [↓vp, vv, implies_true, forall_const, undef, InI, ↓reduceIte, simprocAttr, c124_5, c124_4, c124_3, c124_2, c124_1, TRs, selEnds, selAbs, RsF, RsH, netD, plnD, hA, hB, hj', hjn, hjr', Int.toNat_natCast, hgs, hgr, hs1, c1, c2, c3, hab, wA, wB, w1, Seg.row]
        exact rng_next hj (weak_eq [] [(0, 3), (0, 4)] (RsF k [(8, di (sumI (sIn k) ((n.segs.zip p.rates).take (j + 1)))), (9, di (sumI (sOut k) ((n.segs.zip p.rates).take (j + 1)))), (17, .sl (n.segs.map Seg.row)), (18, di n.segs.length), (19, di (j + 1 : Nat))]) (by simp (config := { maxSteps := 500000 }) only [↓vp, vv, implies_true, forall_const, undef, InI, ↓reduceIte, simprocAttr, coverS, RsF, RsH, netD, plnD, w1, wA, wB, eI, eO]) (by simp (config := { maxSteps := 500000 }) only [↓vp, vv, implies_true, forall_const, undef, InI, ↓reduceIte, simprocAttr, refsF, RsF, RsH, netD, plnD, w1, wA, wB, eI, eO]) (by simp (config := { maxSteps := 500000 }) only [↓vp, vv, implies_true, forall_const, undef, InI, ↓reduceIte, simprocAttr, RsF, RsH, netD, plnD, w1, wA, wB, eI, eO]) (by simp) (by simp (config := { maxSteps := 500000 }) only [↓vp, vv, implies_true, forall_const, undef, InI, ↓reduceIte, simprocAttr, RsF, RsH, netD, plnD, w1, wA, wB, eI, eO]; try rfl)) trivial
  · rw [← hZl, List.take_length]
    have hAb := bI (n.segs.zip p.rates).length
    have hBb := bO (n.segs.zip p.rates).length
    rw [List.take_length] at hAb hBb
    have eA : sumI (fun x : Seg × Int => comeOf k (segFl x.1 x.2)) (n.segs.zip p.rates) = sumI (sIn k) (n.segs.zip p.rates) := rfl
    have eB : sumI (fun x : Seg × Int => leaveOf k (segFl x.1 x.2)) (n.segs.zip p.rates) = sumI (sOut k) (n.segs.zip p.rates) := rfl
    rw [eA, eB]
    generalize sumI (sIn k) (n.segs.zip p.rates) = A at hAb
    generalize sumI (sOut k) (n.segs.zip p.rates) = B at hBb
    simp (config := { maxSteps := 500000 }) only [↓vp, vv, implies_true, forall_const, undef, InI, ↓reduceIte, simprocAttr, c124_5, c124_10, RsF, RsH, netD, plnD, hZl, Int.lt_irrefl]
    refine rng_loop n.ports.length (fun j => ⟨fr (RsG k [(8, di (A + sumI (qIn k) ((n.ports.zip p.ports).take j))), (9, di (B + sumI (qOut k) ((n.ports.zip p.ports).take j))), (64, .sl (n.ports.map Port.row)), (65, di n.ports.length), (66, di (j : Nat))]), RsI p⟩) (fun _ => True) (weak_eq [] [(0, 4)] (RsG k [(8, di (A + sumI (qIn k) ((n.ports.zip p.ports).take 0))), (9, di (B + sumI (qOut k) ((n.ports.zip p.ports).take 0))), (64, .sl (n.ports.map Port.row)), (65, di n.ports.length), (66, di 0)]) (by simp (config := { maxSteps := 500000 }) only [↓vp, vv, implies_true, forall_const, undef, InI, ↓reduceIte, simprocAttr, coverS, RsG, RsI, plnD, List.take_zero, sumI, Int.add_zero]) (by simp (config := { maxSteps := 500000 }) only [↓vp, vv, implies_true, forall_const, undef, InI, ↓reduceIte, simprocAttr, refsF, RsG, RsI, plnD, List.take_zero, sumI, Int.add_zero]) (by simp (config := { maxSteps := 500000 }) only [↓vp, vv, implies_true, forall_const, undef, InI, ↓reduceIte, simprocAttr, RsG, RsI, plnD, List.take_zero, sumI, Int.add_zero]) (by simp) (by simp (config := { maxSteps := 500000 }) only [↓vp, vv, implies_true, forall_const, undef, InI, ↓reduceIte, simprocAttr, RsG, RsI, plnD, List.take_zero, sumI, Int.add_zero]; try rfl)) trivial (fun j hj _ => ?_) (fun _ => ?_)
    · have hj' : (j : Int) < n.ports.length := by omega
      have hjn := idx_nn j
      have hjr : j < p.ports.length := by omega
      have hjr' : (j : Int) < p.ports.length := by omega
      have w1 := idx_next (j := j) (by omega)
      have hgs : (n.ports.map Port.row).getD j [] = Port.row n.ports[j] := getD_map Port.row n.ports j hj
      have hgr := iRow_at p.ports j hjr
      have hx := zip_get hj hjr
      have hm := qb _ (List.mem_of_getElem? hx)
      have eI := sumI_tkR (qIn k) hx
      have eO := sumI_tkR (qOut k) hx
      have b1 := bQI j
      have b2 := bQO j
      have b3 := bQI (j + 1)
      have b4 := bQO (j + 1)
      generalize n.ports[j] = x at hgs hx eI eO hm
      generalize p.ports[j] = q at hgr hx eI eO hm
      rw [qIn_eq hk] at eI
      rw [qOut_eq hk] at eO
      dsimp only at hm
      have wn : IntKind.i64.wrap (0 - q) = -q := by rw [wrap_i (by omega)]; omega
      have ep : (if 0 < q then q else 0) = posI q := rfl
      have en : (if 0 < -q then -q else 0) = negI q := rfl
      have q2 : (x.node = k) = (x.node == k) := by simp
      cases c2 : (x.node == k) with
      | false =>
        simp only [q2, c2, if_true, if_false, Bool.false_eq_true, Int.add_zero] at eI eO
        simp (config := { maxSteps := 500000 }) only [↓vp, vv, implies_true, forall_const, undef, InI, ↓reduceIte, simprocAttr, c124_8, c124_7, c124_6, RsG, RsI, plnD, hj', hjn, hjr', Int.toNat_natCast, hgs, hgr, c2, w1, Port.row]
        exact rng_next hj (weak_eq [] [(0, 4)] (RsG k [(8, di (A + sumI (qIn k) ((n.ports.zip p.ports).take (j + 1)))), (9, di (B + sumI (qOut k) ((n.ports.zip p.ports).take (j + 1)))), (64, .sl (n.ports.map Port.row)), (65, di n.ports.length), (66, di (j + 1 : Nat))]) (by simp (config := { maxSteps := 500000 }) only [↓vp, vv, implies_true, forall_const, undef, InI, ↓reduceIte, simprocAttr, coverS, RsG, RsI, plnD, w1, eI, eO]) (by simp (config := { maxSteps := 500000 }) only [↓vp, vv, implies_true, forall_const, undef, InI, ↓reduceIte, simprocAttr, refsF, RsG, RsI, plnD, w1, eI, eO]) (by simp (config := { maxSteps := 500000 }) only [↓vp, vv, implies_true, forall_const, undef, InI, ↓reduceIte, simprocAttr, RsG, RsI, plnD, w1, eI, eO]) (by simp) (by simp (config := { maxSteps := 500000 }) only [↓vp, vv, implies_true, forall_const, undef, InI, ↓reduceIte, simprocAttr, RsG, RsI, plnD, w1, eI, eO]; try rfl)) trivial
      | true =>
        simp only [q2, c2, if_true] at eI eO
        have w2 : IntKind.i64.wrap (A + sumI (qIn k) ((n.ports.zip p.ports).take j) + posI q) = A + sumI (qIn k) ((n.ports.zip p.ports).take (j + 1)) := by rw [eI, wrap_i (by omega)]; omega
        have w3 : IntKind.i64.wrap (B + sumI (qOut k) ((n.ports.zip p.ports).take j) + negI q) = B + sumI (qOut k) ((n.ports.zip p.ports).take (j + 1)) := by rw [eO, wrap_i (by omega)]; omega
        simp (config := { maxSteps := 500000 }) only [↓vp, vv, implies_true, forall_const, undef, InI, ↓reduceIte, simprocAttr, c124_8, c124_7, c124_6, RsG, RsI, plnD, hj', hjn, hjr', Int.toNat_natCast, hgs, hgr, c2, wn, ep, en, w2, w3, w1, Port.row]
        exact rng_next hj (weak_eq [] [(0, 4)] (RsG k [(8, di (A + sumI (qIn k) ((n.ports.zip p.ports).take (j + 1)))), (9, di (B + sumI (qOut k) ((n.ports.zip p.ports).take (j + 1)))), (64, .sl (n.ports.map Port.row)), (65, di n.ports.length), (66, di (j + 1 : Nat))]) (by simp (config := { maxSteps := 500000 }) only [↓vp, vv, implies_true, forall_const, undef, InI, ↓reduceIte, simprocAttr, coverS, RsG, RsI, plnD, w1, w2, w3]) (by simp (config := { maxSteps := 500000 }) only [↓vp, vv, implies_true, forall_const, undef, InI, ↓reduceIte, simprocAttr, refsF, RsG, RsI, plnD, w1, w2, w3]) (by simp (config := { maxSteps := 500000 }) only [↓vp, vv, implies_true, forall_const, undef, InI, ↓reduceIte, simprocAttr, RsG, RsI, plnD, w1, w2, w3]) (by simp) (by simp (config := { maxSteps := 500000 }) only [↓vp, vv, implies_true, forall_const, undef, InI, ↓reduceIte, simprocAttr, RsG, RsI, plnD, w1, w2, w3]; try rfl)) trivial
    · rw [← hYl, List.take_length]
      have eC : sumI (fun x : Port × Int => comeOf k (portFl x.1 x.2)) (n.ports.zip p.ports) = sumI (qIn k) (n.ports.zip p.ports) := rfl
      have eD : sumI (fun x : Port × Int => leaveOf k (portFl x.1 x.2)) (n.ports.zip p.ports) = sumI (qOut k) (n.ports.zip p.ports) := rfl
      rw [eC, eD]
      simp (config := { maxSteps := 500000 }) only [↓vp, vv, implies_true, forall_const, undef, InI, ↓reduceIte, simprocAttr, c124_8, c124_9, r124, RsG, RsI, plnD, hYl, Int.lt_irrefl, Pu]
end Go.Proofs.Ytkjibmfggeibjaa
